/- Functions of the arena seat. Conditions: none. -/
import Derived.Test.YthefjfcphgiggaaArG
set_option linter.unusedVariables false
set_option linter.unusedSimpArgs false
namespace Go.Proofs.RL
def LOp.OK (o : LOp) : Prop := 0 ≤ o.k ∧ o.k ≤ 255 ∧ 0 ≤ o.a ∧ o.a ≤ 255 ∧ 0 ≤ o.b ∧ o.b ≤ 255
def lops (l : List LOp) : List (List FV) := l.map LOp.fv
@[simp] theorem lops_length (l : List LOp) : (lops l).length = l.length := by simp [lops]
theorem lops_get (l : List LOp) (i : Nat) (h : i < l.length) : (lops l)[i]?.getD [] = (l[i]?.getD default).fv := by
  simp [lops, List.getElem?_eq_getElem h]
/-- The state after n operations. -/
def madeN (cap : Int) (l : List LOp) : Nat → Ar × List Int
  | 0 => ((newR (cap.tmod 64 + 1)).1, [])
  | n + 1 => ((stepR (madeN cap l n).1 (madeN cap l n).2 (l[n]?.getD default)).1, (stepR (madeN cap l n).1 (madeN cap l n).2 (l[n]?.getD default)).2.1)
def made (cap : Int) (l : List LOp) : Ar × List Int := madeN cap l (min l.length 200)
def res2l (r : Ar × List Int) : AV := .tup [r.1.av, .fv (.sl none none (ints r.2))]
def MadeAll (cap : Int) (l : List LOp) : Prop := ∀ n, n ≤ 200 → ArOK (madeN cap l n).1 ∧ (madeN cap l n).2.length ≤ 200

def ac_law05_Made : AC := (.seq (.region [.op (some 4) none false (.alloc [(.sl (some true) (some 0) []), (.sl (some true) (some 0) []), (.int .i64 0)]),
    .op (some 5) none false (.mv (.c (.sl (some true) (some 0) []))),
    .gh (.keep [0, 1, 4])]) <|
  (.seq (.region [.op (some 14) none false (.mv (.t 0)),
    .op (some 15) none false (.conv .i64 (.t 14)),
    .op (some 16) none false (.bin .rem (.t 15) (.c (.int .i64 64))),
    .op (some 17) none false (.bin .add (.t 16) (.c (.int .i64 1))),
    .call (some 18) none (.c (.func 15)) [(.t 17)],
    .op (some 13) none false (.mv (.t 18)),
    .op (some 19) none false (.extract (.t 13) 0),
    .op (some 20) none false (.extract (.t 13) 1),
    .op (some 6) none false (.alloc [(.sl (some true) (some 0) []), (.sl (some true) (some 0) []), (.int .i64 0)]),
    .op none none false (.store 3 (.t 6) (.t 19)),
    .op (some 7) none false (.mv (.t 20)),
    .gh (.keep [1, 4, 6])]) <|
  (.seq (.region [.op (some 8) none false (.mv (.c (.sl (some true) (some 0) []))), .gh (.wk [8] [])]) <|
  (.seq (.seq (.region [.op (some 9) none false (.mv (.c (.int .i64 0)))]) <|
  (.block 0 <|
    (.gh (.keep [1, 4, 6, 8, 9]) (.loop <|
      (.seq (.seq (.region [.op (some 21) none false (.mv (.t 9)),
        .op (some 22) none false (.mv (.t 1)),
        .op (some 23) none false (.len false (.t 22)),
        .op (some 24) none false (.bin .lss (.t 21) (.t 23)),
        .op (some 25) none false (.mv (.t 24)),
        .op (some 26) (some (25, true)) false (.mv (.t 9)),
        .op (some 27) (some (25, true)) false (.bin .lss (.t 26) (.c (.int .i64 200))),
        .op (some 28) none false (.pick (.t 25) (.t 27) (.c (.bool false))),
        .gh (.keep [1, 4, 6, 8, 9, 28])]) <|
      (.cond (.t 28)
        .skip
        (.exit 0))) <|
      (.seq (.block 1 <|
        (.seq (drawC <|
          .fst (.op (some 32) none false (.load true 3 (.t 6))) <|
          .fst (.op (some 33) none false (.mv (.t 8))) <|
          .fst (.op (some 34) none false (.mv (.t 1))) <|
          .fst (.op (some 35) none false (.mv (.t 9))) <|
          .fst (.op (some 36) none false (.idxA 4 (.t 34) (.t 35))) <|
          .fst (.op (some 37) none false (.load true 4 (.t 36))) <|
          .main [] (.call (some 38) none (.c (.func 16)) [(.t 32), (.t 33), (.t 37)])
            (.fst (.op (some 31) none false (.mv (.t 38))) <|
            .fst (.op (some 39) none false (.extract (.t 31) 0)) <|
            .fst (.op (some 40) none false (.extract (.t 31) 1)) <|
            .fst (.op (some 41) none false (.extract (.t 31) 2)) <|
            .main1 [(.t 36), (.t 6)] (.op (some 10) none false (.alloc [(.sl (some true) (some 0) []), (.sl (some true) (some 0) []), (.int .i64 0)])) <|
            .main1 [] (.op none none false (.store 3 (.t 10) (.t 39))) <|
            .fst (.op (some 11) none false (.mv (.t 40))) <|
            .fst (.op (some 12) none false (.mv (.t 41))) <|
            .done)
            (.main1 [(.t 36), (.t 6)] (.op (some 10) none false (.alloc [(.sl (some true) (some 0) []), (.sl (some true) (some 0) []), (.int .i64 0)])) <|
            .main1 [] (.call (some 38) none (.c (.func 16)) [(.t 32), (.t 33), (.t 37)]) <|
            .fst (.op (some 31) none false (.mv (.t 38))) <|
            .fst (.op (some 39) none false (.extract (.t 31) 0)) <|
            .fst (.op (some 40) none false (.extract (.t 31) 1)) <|
            .fst (.op (some 41) none false (.extract (.t 31) 2)) <|
            .main1 [] (.op none none false (.store 3 (.t 10) (.t 39))) <|
            .fst (.op (some 11) none false (.mv (.t 40))) <|
            .fst (.op (some 12) none false (.mv (.t 41))) <|
            .done)) <|
        (.gh (.keep [1, 4, 6, 9, 10, 11]) (.seq (.region [.op (some 42) none false (.load true 3 (.t 10)),
          .op none none false (.store 3 (.t 6) (.t 42)),
          .gh (.keep [1, 4, 6, 9, 11])]) <|
        (.region [.op (some 43) none false (.mv (.t 11)),
          .op (some 8) none false (.mv (.t 43)),
          .gh (.keep [1, 4, 6, 8, 9])]))))) <|
      (.region [.op (some 29) none false (.mv (.t 9)),
        .op (some 30) none false (.bin .add (.t 29) (.c (.int .i64 1))),
        .op (some 9) none false (.mv (.t 30)), .gh (.keepO [104, 106]),
        .gh (.keep [1, 4, 6, 8, 9])]))))))) <|
  (.seq (.region [.op (some 44) none false (.load true 3 (.t 6)),
    .op (some 45) none false (.mv (.t 8)),
    .op none none false (.store 3 (.t 4) (.t 44)),
    .op (some 5) none false (.mv (.t 45)),
    .gh (.keep [4, 5])]) <|
  .ret)))))
theorem tr_law05_Made : trCode Try.prog Try.f6.ntmps (Try.f6.body.getD .skip) = some ac_law05_Made.erase := by kernel_rfl
theorem fn_law05_Made : Try.prog.funcs[6]? = some Try.f6 := by kernel_rfl
theorem bd_law05_Made : Try.f6.body = some (Try.f6.body.getD .skip) := by kernel_rfl
theorem rs_law05_Made : Try.f6.results.toList.mapM (trRes Try.prog) = some [.cell 4 true 3, .tmp 5] := by kernel_rfl
theorem go_law05_Made {Y : YT} {kb : Nat} {args : List AV} {ob : Ob} {K : AV → Ob → Prop} (ks : Option (List Nat)) (hl : args.length ≤ 46) (h : AP Try.prog Y kb ac_law05_Made (endK [.cell 4 true 3, .tmp 5] ks K) (mkTm 0 args) ob) : FnA Try.prog Y 6 args ob K :=
  FnA_of_awp hm fn_law05_Made (by kernel_rfl) bd_law05_Made tr_law05_Made rs_law05_Made ks hl h.out
set_option maxHeartbeats 4000000 in
theorem c_law05_Made (cap : Int) (l : List LOp) (hc : 0 ≤ cap ∧ cap ≤ 255) (hl : l.length ≤ 281474976710656) (ho : ∀ i, i < l.length → (l[i]?.getD default).OK) (hm : MadeAll cap l) :
    PureA Try.prog 6 [.fv (.int .u8 cap), .fv (.sl none none (lops l))] (res2l (made cap l)) := by
  refine ⟨fun Y => ?_⟩
  refine go_law05_Made (kb := 100) (some []) (by simp) ?_
  unfold ac_law05_Made
  have ht : 0 ≤ cap.tmod 64 ∧ cap.tmod 64 < 64 := ⟨Int.tmod_nonneg _ hc.1, Int.tmod_lt_of_pos _ (by omega)⟩
  repeat' (first
      | ((with_reducible refine ap_id ?_); have zT := zS; (repeat (first | clear ze | revert ze)); exact zT.out)
      | ((with_reducible apply w_dseq); intro zS)
      | ((fail_if_success exact (Hd.mk trivial : Hd True)); (with_reducible refine Hd.mk ?_))
      | with_reducible refine w_seq fun K1 zn zx zr => ?_
      | with_reducible refine w_region fun K1 zq => ?_
      | with_reducible refine w_draw fun K1 zq => ?_
      | with_reducible refine w_block fun K1 yn yb yx yr => ?_
      | with_reducible refine w_skip ?_
      | with_reducible refine w_ret ?_
      | with_reducible refine w_exit ?_
      | ((with_reducible refine w_gh ?_); simp)
      | ((with_reducible refine zq _ _ ?_); clear zq)
      | ((with_reducible refine zn _ _ ?_); clear zn zx zr)
      | ((with_reducible refine zr _ _ ?_); clear zn zx zr)
      | ((with_reducible refine zx _ _ _ ?_); clear zn zx zr)
      | ((with_reducible refine yn _ _ ?_); clear yn yb yx yr)
      | ((with_reducible refine yb _ _ ?_); clear yn yb yx yr)
      | ((with_reducible refine yr _ _ ?_); clear yn yb yx yr)
      | ((with_reducible refine yx _ _ _ (by decide) ?_); clear yn yb yx yr)
      | ((with_reducible refine e_endn ?_); simp)
      | ((with_reducible refine e_endr ?_); simp)
      | with_reducible refine e_un ?_
      | with_reducible refine e_ux ?_
      | with_reducible refine e_ur ?_
      | ((with_reducible refine u_step ?_); (try simp))
      | ((with_reducible apply s_rangeF); (case hc => rfl); intro zel zrr)
      | ((with_reducible apply o_yld); (case hf => rfl))
      | ((with_reducible refine rf_go ?h1 ?h2 ?_); (case h1 => rfl); (case h2 => first | rfl | simp); simp [tputs])
      | ((with_reducible refine r_an ?h1 ?_); (case h1 => first | rfl | simp); simp)
      | ((with_reducible refine r_bn ?h1 ?_); (case h1 => first | rfl | simp); simp)
      | ((with_reducible refine r_bx ?h1 ?_); (case h1 => first | rfl | simp); simp)
      | ((with_reducible refine r_br ?h1 ?_); (case h1 => first | rfl | simp); simp)
      | ((with_reducible refine f_en ?h1 ?_); (case h1 => rfl); simp)
      | ((with_reducible refine f_ex ?h1 ?_); (case h1 => rfl); simp)
      | ((with_reducible refine f_er ?h1 ?_); (case h1 => rfl); simp)
      | with_reducible refine e_loopx ?_
      | with_reducible refine e_loopr ?_
      | ((with_reducible refine c_true ?hc ?_); (case hc => rfl))
      | ((with_reducible refine c_false ?hc ?_); (case hc => rfl))
      | (rw [sls_get _ _ (by omega)]; simp [Sl.fv])
      | (rw [ints_get _ _ (by omega)]; simp)
      | rw [i64_in _ (by omega)]
      | ((with_reducible refine o_bin ?_); ((first | ((with_reducible apply o_lss); (case hx => rfl); (case hy => rfl); (case hk => rfl)) | ((with_reducible apply o_leq); (case hx => rfl); (case hy => rfl); (case hk => rfl)) | ((with_reducible apply o_gtr); (case hx => rfl); (case hy => rfl); (case hk => rfl)) | ((with_reducible apply o_geq); (case hx => rfl); (case hy => rfl); (case hk => rfl)) | ((with_reducible apply o_eql); (case hx => rfl); (case hy => rfl); (case hk => rfl)) | ((with_reducible apply o_neq); (case hx => rfl); (case hy => rfl); (case hk => rfl))) <;> (intro h; first | (exfalso; omega) | simp)))
      | ((with_reducible apply o_eqnil); (case hx => rfl); all_goals (try intro h); all_goals simp)
      | ((with_reducible refine o_op fun _ _ => ?_); simp)
      | ((with_reducible refine o_gt ?hg ?_); (case hg => rfl))
      | ((with_reducible apply o_gs); (case hg => rfl); (case hn => rfl); simp only [skipD, tdel, Nat.reduceEqDiff, reduceIte])
      | ((with_reducible refine o_cgt ?hg ?_); (case hg => rfl))
      | ((with_reducible apply o_cgs); (case hg => rfl); (case hn => rfl); simp only [skipD, tdel, Nat.reduceEqDiff, reduceIte])
      | with_reducible refine o_nil ?_
      | with_reducible exact d_stop
      | ((with_reducible refine d_done ?_); (try simp))
      | ((with_reducible refine d_bin ?_); ((first | ((with_reducible apply d_lss); (case hx => rfl); (case hy => rfl); (case hk => rfl)) | ((with_reducible apply d_leq); (case hx => rfl); (case hy => rfl); (case hk => rfl)) | ((with_reducible apply d_gtr); (case hx => rfl); (case hy => rfl); (case hk => rfl)) | ((with_reducible apply d_geq); (case hx => rfl); (case hy => rfl); (case hk => rfl)) | ((with_reducible apply d_eql); (case hx => rfl); (case hy => rfl); (case hk => rfl)) | ((with_reducible apply d_neq); (case hx => rfl); (case hy => rfl); (case hk => rfl))) <;> (intro h; first | (exfalso; omega) | simp)))
      | ((with_reducible refine d_fst ?_); simp [and_assoc])
      | ((with_reducible refine d_fst_gt ?hg ?_); (case hg => rfl))
      | ((with_reducible apply d_fst_gs); (case hg => rfl); (case hn => rfl); simp only [skipD, tdel, Nat.reduceEqDiff, reduceIte])
      | ((with_reducible refine d_main_gt ?hg ?_); (case hg => rfl))
      | ((with_reducible apply d_main_gs); (case hg => rfl); (case hn => rfl); all_goals (try simp only [skipD, tdel, Nat.reduceEqDiff, reduceIte]))
      | ((with_reducible refine d_call_gt ?hg ?_); (case hg => rfl))
      | ((with_reducible apply d_call_gs); (case hg => rfl); (case hn => rfl); all_goals (try simp only [skipD, tdel, Nat.reduceEqDiff, reduceIte]))
      | ((with_reducible refine d_main (fun ze => ?_) d_stop); simp)
      | ((with_reducible refine d_main (fun ze => ?_) ?_); simp)
      | ((with_reducible refine o_gh ?_); simp)
      | (with_reducible refine isR_mk ?_ (by simp))
      | ((with_reducible apply o_callp (n := 15)); (case hf => rfl); (case hp => exact c_ref05_New (cap.tmod 64 + 1));  (simp [resE, Ar.av]))
      | (with_reducible refine And.intro (by omega) ?_)
      | (refine And.intro (ints_hd _) ?_)
      | (refine And.intro (sls_hd _) ?_)
      | (with_reducible refine fun (ze : Nat) => ?_)
      | ((with_reducible apply o_call); (case hf => rfl))
      | ((with_reducible apply o_callc); (case hf => rfl))
      | fail)
  have hr : (newR (cap.tmod 64 + 1)).1 = (madeN cap l 0).1 := rfl
  rw [hr]
  refine s_loop (fun m tm ob => ∃ (e4 e6 : Nat) (i : Nat), m = 200 - i ∧ i ≤ l.length ∧ i ≤ 200 ∧ tm = [(1, .fv (.sl none none (lops l))), (4, .ptr 104 e4 0), (6, .ptr 106 e6 0), (8, .fv (.sl none none (ints (madeN cap l i).2))), (9, .fv (.int .i64 i))] ∧
    ob = [(104, e4, .var [.fv (.sl (some true) (some 0) []), .fv (.sl (some true) (some 0) []), .fv (.int .i64 0)]), (106, e6, .var [.fv (.sl none none (sls (madeN cap l i).1.sl)), .fv (.sl none none (ints (madeN cap l i).1.idle)), .fv (.int .i64 (madeN cap l i).1.next)])]) 200 ⟨_, _, 0, rfl, by omega, by omega, rfl, rfl⟩ ?_
  rintro m _ _ ⟨e4, e6, i, rfl, hi, hi2, rfl, rfl⟩
  obtain ⟨hok, hlen⟩ := hm i hi2
  by_cases hlt : i < l.length
  · have ho1 := ho i hlt
    have cs := c_law05_step (madeN cap l i).1 (madeN cap l i).2 (l[i]?.getD default) hok hlen ho1
    have hs : Hd ((stepR (madeN cap l i).1 (madeN cap l i).2 (l[i]?.getD default)).1 = (madeN cap l (i + 1)).1 ∧ (stepR (madeN cap l i).1 (madeN cap l i).2 (l[i]?.getD default)).2.1 = (madeN cap l (i + 1)).2) := ⟨rfl, rfl⟩
    generalize stepR (madeN cap l i).1 (madeN cap l i).2 (l[i]?.getD default) = sr at *
    obtain ⟨b, l', f⟩ := sr
    repeat' (first
        | ((with_reducible refine ap_id ?_); have zT := zS; (repeat (first | clear ze | revert ze)); exact zT.out)
        | ((with_reducible apply w_dseq); intro zS)
        | ((fail_if_success exact (Hd.mk trivial : Hd True)); (with_reducible refine Hd.mk ?_))
        | with_reducible refine w_seq fun K1 zn zx zr => ?_
        | with_reducible refine w_region fun K1 zq => ?_
        | with_reducible refine w_draw fun K1 zq => ?_
        | with_reducible refine w_block fun K1 yn yb yx yr => ?_
        | with_reducible refine w_skip ?_
        | with_reducible refine w_ret ?_
        | with_reducible refine w_exit ?_
        | ((with_reducible refine w_gh ?_); simp)
        | ((with_reducible refine zq _ _ ?_); clear zq)
        | ((with_reducible refine zn _ _ ?_); clear zn zx zr)
        | ((with_reducible refine zr _ _ ?_); clear zn zx zr)
        | ((with_reducible refine zx _ _ _ ?_); clear zn zx zr)
        | ((with_reducible refine yn _ _ ?_); clear yn yb yx yr)
        | ((with_reducible refine yb _ _ ?_); clear yn yb yx yr)
        | ((with_reducible refine yr _ _ ?_); clear yn yb yx yr)
        | ((with_reducible refine yx _ _ _ (by decide) ?_); clear yn yb yx yr)
        | ((with_reducible refine e_endn ?_); simp)
        | ((with_reducible refine e_endr ?_); simp)
        | with_reducible refine e_un ?_
        | with_reducible refine e_ux ?_
        | with_reducible refine e_ur ?_
        | ((with_reducible refine u_step ?_); (try simp))
        | ((with_reducible apply s_rangeF); (case hc => rfl); intro zel zrr)
        | ((with_reducible apply o_yld); (case hf => rfl))
        | ((with_reducible refine rf_go ?h1 ?h2 ?_); (case h1 => rfl); (case h2 => first | rfl | simp); simp [tputs])
        | ((with_reducible refine r_an ?h1 ?_); (case h1 => first | rfl | simp); simp)
        | ((with_reducible refine r_bn ?h1 ?_); (case h1 => first | rfl | simp); simp)
        | ((with_reducible refine r_bx ?h1 ?_); (case h1 => first | rfl | simp); simp)
        | ((with_reducible refine r_br ?h1 ?_); (case h1 => first | rfl | simp); simp)
        | ((with_reducible refine f_en ?h1 ?_); (case h1 => rfl); simp)
        | ((with_reducible refine f_ex ?h1 ?_); (case h1 => rfl); simp)
        | ((with_reducible refine f_er ?h1 ?_); (case h1 => rfl); simp)
        | with_reducible refine e_loopx ?_
        | with_reducible refine e_loopr ?_
        | ((with_reducible refine c_true ?hc ?_); (case hc => rfl))
        | ((with_reducible refine c_false ?hc ?_); (case hc => rfl))
        | (rw [lops_get _ _ (by omega)]; simp [LOp.fv])
        | (rw [sls_get _ _ (by omega)]; simp [Sl.fv])
        | (rw [ints_get _ _ (by omega)]; simp)
        | rw [i64_in _ (by omega)]
        | ((with_reducible refine o_bin ?_); ((first | ((with_reducible apply o_lss); (case hx => rfl); (case hy => rfl); (case hk => rfl)) | ((with_reducible apply o_leq); (case hx => rfl); (case hy => rfl); (case hk => rfl)) | ((with_reducible apply o_gtr); (case hx => rfl); (case hy => rfl); (case hk => rfl)) | ((with_reducible apply o_geq); (case hx => rfl); (case hy => rfl); (case hk => rfl)) | ((with_reducible apply o_eql); (case hx => rfl); (case hy => rfl); (case hk => rfl)) | ((with_reducible apply o_neq); (case hx => rfl); (case hy => rfl); (case hk => rfl))) <;> (intro h; first | (exfalso; omega) | simp)))
        | ((with_reducible apply o_eqnil); (case hx => rfl); all_goals (try intro h); all_goals simp)
        | ((with_reducible refine o_op fun _ _ => ?_); simp)
        | ((with_reducible refine o_gt ?hg ?_); (case hg => rfl))
        | ((with_reducible apply o_gs); (case hg => rfl); (case hn => rfl); simp only [skipD, tdel, Nat.reduceEqDiff, reduceIte])
        | ((with_reducible refine o_cgt ?hg ?_); (case hg => rfl))
        | ((with_reducible apply o_cgs); (case hg => rfl); (case hn => rfl); simp only [skipD, tdel, Nat.reduceEqDiff, reduceIte])
        | with_reducible refine o_nil ?_
        | with_reducible exact d_stop
        | ((with_reducible refine d_done ?_); (try simp))
        | ((with_reducible refine d_bin ?_); ((first | ((with_reducible apply d_lss); (case hx => rfl); (case hy => rfl); (case hk => rfl)) | ((with_reducible apply d_leq); (case hx => rfl); (case hy => rfl); (case hk => rfl)) | ((with_reducible apply d_gtr); (case hx => rfl); (case hy => rfl); (case hk => rfl)) | ((with_reducible apply d_geq); (case hx => rfl); (case hy => rfl); (case hk => rfl)) | ((with_reducible apply d_eql); (case hx => rfl); (case hy => rfl); (case hk => rfl)) | ((with_reducible apply d_neq); (case hx => rfl); (case hy => rfl); (case hk => rfl))) <;> (intro h; first | (exfalso; omega) | simp)))
        | ((with_reducible refine d_fst ?_); simp [and_assoc])
        | ((with_reducible refine d_fst_gt ?hg ?_); (case hg => rfl))
        | ((with_reducible apply d_fst_gs); (case hg => rfl); (case hn => rfl); simp only [skipD, tdel, Nat.reduceEqDiff, reduceIte])
        | ((with_reducible refine d_main_gt ?hg ?_); (case hg => rfl))
        | ((with_reducible apply d_main_gs); (case hg => rfl); (case hn => rfl); all_goals (try simp only [skipD, tdel, Nat.reduceEqDiff, reduceIte]))
        | ((with_reducible refine d_call_gt ?hg ?_); (case hg => rfl))
        | ((with_reducible apply d_call_gs); (case hg => rfl); (case hn => rfl); all_goals (try simp only [skipD, tdel, Nat.reduceEqDiff, reduceIte]))
        | ((with_reducible refine d_main (fun ze => ?_) d_stop); simp)
        | ((with_reducible refine d_main (fun ze => ?_) ?_); simp)
        | ((with_reducible refine o_gh ?_); simp)
        | (with_reducible refine isR_mk ?_ (by simp))
        | ((with_reducible apply d_callp (n := 16)); (case hf => rfl); (case hp => exact cs); (try (case hr => exact d_stop));  (simp [resS, Ar.av]))
        | (with_reducible refine And.intro (by omega) ?_)
        | (refine And.intro (ints_hd _) ?_)
        | (refine And.intro (sls_hd _) ?_)
        | (with_reducible refine fun (ze : Nat) => ?_)
        | ((with_reducible apply o_call); (case hf => rfl))
        | ((with_reducible apply o_callc); (case hf => rfl))
        | fail)
    · obtain ⟨h1, h2⟩ := hs.out
      simp only at h1 h2
      subst h1 h2
      exact e_loopn (200 - (i + 1)) (by omega) ⟨e4, e6, i + 1, rfl, by omega, by omega, by simp, by simp⟩
    · obtain rfl : i = 200 := by omega
      simp [made, res2l, Ar.av, Nat.min_eq_right (show 200 ≤ l.length by omega)]
  · repeat' (first
     | ((with_reducible refine ap_id ?_); have zT := zS; (repeat (first | clear ze | revert ze)); exact zT.out)
     | ((with_reducible apply w_dseq); intro zS)
     | ((fail_if_success exact (Hd.mk trivial : Hd True)); (with_reducible refine Hd.mk ?_))
     | with_reducible refine w_seq fun K1 zn zx zr => ?_
     | with_reducible refine w_region fun K1 zq => ?_
     | with_reducible refine w_draw fun K1 zq => ?_
     | with_reducible refine w_block fun K1 yn yb yx yr => ?_
     | with_reducible refine w_skip ?_
     | with_reducible refine w_ret ?_
     | with_reducible refine w_exit ?_
     | ((with_reducible refine w_gh ?_); simp)
     | ((with_reducible refine zq _ _ ?_); clear zq)
     | ((with_reducible refine zn _ _ ?_); clear zn zx zr)
     | ((with_reducible refine zr _ _ ?_); clear zn zx zr)
     | ((with_reducible refine zx _ _ _ ?_); clear zn zx zr)
     | ((with_reducible refine yn _ _ ?_); clear yn yb yx yr)
     | ((with_reducible refine yb _ _ ?_); clear yn yb yx yr)
     | ((with_reducible refine yr _ _ ?_); clear yn yb yx yr)
     | ((with_reducible refine yx _ _ _ (by decide) ?_); clear yn yb yx yr)
     | ((with_reducible refine e_endn ?_); simp)
     | ((with_reducible refine e_endr ?_); simp)
     | with_reducible refine e_un ?_
     | with_reducible refine e_ux ?_
     | with_reducible refine e_ur ?_
     | ((with_reducible refine u_step ?_); (try simp))
     | ((with_reducible apply s_rangeF); (case hc => rfl); intro zel zrr)
     | ((with_reducible apply o_yld); (case hf => rfl))
     | ((with_reducible refine rf_go ?h1 ?h2 ?_); (case h1 => rfl); (case h2 => first | rfl | simp); simp [tputs])
     | ((with_reducible refine r_an ?h1 ?_); (case h1 => first | rfl | simp); simp)
     | ((with_reducible refine r_bn ?h1 ?_); (case h1 => first | rfl | simp); simp)
     | ((with_reducible refine r_bx ?h1 ?_); (case h1 => first | rfl | simp); simp)
     | ((with_reducible refine r_br ?h1 ?_); (case h1 => first | rfl | simp); simp)
     | ((with_reducible refine f_en ?h1 ?_); (case h1 => rfl); simp)
     | ((with_reducible refine f_ex ?h1 ?_); (case h1 => rfl); simp)
     | ((with_reducible refine f_er ?h1 ?_); (case h1 => rfl); simp)
     | with_reducible refine e_loopx ?_
     | with_reducible refine e_loopr ?_
     | ((with_reducible refine c_true ?hc ?_); (case hc => rfl))
     | ((with_reducible refine c_false ?hc ?_); (case hc => rfl))
     | (rw [sls_get _ _ (by omega)]; simp [Sl.fv])
     | (rw [ints_get _ _ (by omega)]; simp)
     | rw [i64_in _ (by omega)]
     | ((with_reducible refine o_bin ?_); ((first | ((with_reducible apply o_lss); (case hx => rfl); (case hy => rfl); (case hk => rfl)) | ((with_reducible apply o_leq); (case hx => rfl); (case hy => rfl); (case hk => rfl)) | ((with_reducible apply o_gtr); (case hx => rfl); (case hy => rfl); (case hk => rfl)) | ((with_reducible apply o_geq); (case hx => rfl); (case hy => rfl); (case hk => rfl)) | ((with_reducible apply o_eql); (case hx => rfl); (case hy => rfl); (case hk => rfl)) | ((with_reducible apply o_neq); (case hx => rfl); (case hy => rfl); (case hk => rfl))) <;> (intro h; first | (exfalso; omega) | simp)))
     | ((with_reducible apply o_eqnil); (case hx => rfl); all_goals (try intro h); all_goals simp)
     | ((with_reducible refine o_op fun _ _ => ?_); simp)
     | ((with_reducible refine o_gt ?hg ?_); (case hg => rfl))
     | ((with_reducible apply o_gs); (case hg => rfl); (case hn => rfl); simp only [skipD, tdel, Nat.reduceEqDiff, reduceIte])
     | ((with_reducible refine o_cgt ?hg ?_); (case hg => rfl))
     | ((with_reducible apply o_cgs); (case hg => rfl); (case hn => rfl); simp only [skipD, tdel, Nat.reduceEqDiff, reduceIte])
     | with_reducible refine o_nil ?_
     | with_reducible exact d_stop
     | ((with_reducible refine d_done ?_); (try simp))
     | ((with_reducible refine d_bin ?_); ((first | ((with_reducible apply d_lss); (case hx => rfl); (case hy => rfl); (case hk => rfl)) | ((with_reducible apply d_leq); (case hx => rfl); (case hy => rfl); (case hk => rfl)) | ((with_reducible apply d_gtr); (case hx => rfl); (case hy => rfl); (case hk => rfl)) | ((with_reducible apply d_geq); (case hx => rfl); (case hy => rfl); (case hk => rfl)) | ((with_reducible apply d_eql); (case hx => rfl); (case hy => rfl); (case hk => rfl)) | ((with_reducible apply d_neq); (case hx => rfl); (case hy => rfl); (case hk => rfl))) <;> (intro h; first | (exfalso; omega) | simp)))
     | ((with_reducible refine d_fst ?_); simp [and_assoc])
     | ((with_reducible refine d_fst_gt ?hg ?_); (case hg => rfl))
     | ((with_reducible apply d_fst_gs); (case hg => rfl); (case hn => rfl); simp only [skipD, tdel, Nat.reduceEqDiff, reduceIte])
     | ((with_reducible refine d_main_gt ?hg ?_); (case hg => rfl))
     | ((with_reducible apply d_main_gs); (case hg => rfl); (case hn => rfl); all_goals (try simp only [skipD, tdel, Nat.reduceEqDiff, reduceIte]))
     | ((with_reducible refine d_call_gt ?hg ?_); (case hg => rfl))
     | ((with_reducible apply d_call_gs); (case hg => rfl); (case hn => rfl); all_goals (try simp only [skipD, tdel, Nat.reduceEqDiff, reduceIte]))
     | ((with_reducible refine d_main (fun ze => ?_) d_stop); simp)
     | ((with_reducible refine d_main (fun ze => ?_) ?_); simp)
     | ((with_reducible refine o_gh ?_); simp)
     | (with_reducible refine isR_mk ?_ (by simp))
     | (with_reducible refine And.intro (by omega) ?_)
     | (refine And.intro (ints_hd _) ?_)
     | (refine And.intro (sls_hd _) ?_)
     | (with_reducible refine fun (ze : Nat) => ?_)
     | ((with_reducible apply o_call); (case hf => rfl))
     | ((with_reducible apply o_callc); (case hf => rfl))
     | fail)
    obtain rfl : i = l.length := by omega
    simp [made, res2l, Ar.av, Nat.min_eq_left hi2]
end Go.Proofs.RL
