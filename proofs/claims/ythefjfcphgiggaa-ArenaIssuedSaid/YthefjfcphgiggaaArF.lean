/- Functions of the arena seat. Conditions: none. -/
import Derived.Test.YthefjfcphgiggaaArE
set_option linter.unusedVariables false
set_option linter.unusedSimpArgs false
namespace Go.Proofs.RL
def zeroS (k : Nat) : List Sl := List.replicate k ⟨0, 0, 0, 0⟩
def downI (n : Int) (k : Nat) : List Int := (List.range k).map fun i : Nat => n - 1 - (i : Int)
def newR (n : Int) : Ar × Int := if n < 1 ∨ n > 64 then (⟨[], [], 0⟩, 1) else (⟨zeroS n.toNat, downI n n.toNat, 0⟩, 0)
def resE (r : Ar × Int) : AV := .tup [r.1.av, .fv (.int .i64 r.2)]
theorem sls_zero (k : Nat) : (sls (zeroS k)).map (·.map AV.fv) ++ [[AV.fv (.int .i64 0), .fv (.int .i64 0), .fv (.int .i64 0), .fv (.int .i64 0)]] = (sls (zeroS (k + 1))).map (·.map AV.fv) := by
  simp [sls, zeroS, List.replicate_succ', Sl.fv]
theorem ints_down (n : Int) (k : Nat) : (ints (downI n k)).map (·.map AV.fv) ++ [[AV.fv (.int .i64 (n - 1 - k))]] = (ints (downI n (k + 1))).map (·.map AV.fv) := by
  simp [ints, downI, List.range_succ]
@[simp] theorem zeroS_length (k : Nat) : (zeroS k).length = k := by simp [zeroS]
@[simp] theorem downI_length (n : Int) (k : Nat) : (downI n k).length = k := by simp [downI]

def ac_ref05_New : AC := (.seq (.region [.op (some 2) none false (.alloc [(.sl (some true) (some 0) []), (.sl (some true) (some 0) []), (.int .i64 0)]),
    .op (some 3) none false (.mv (.c (.int .i64 0))),
    .gh (.keep [0, 2])]) <|
  (.seq (.seq (.region [.op (some 6) none false (.mv (.t 0)),
    .op (some 7) none false (.bin .lss (.t 6) (.c (.int .i64 1))),
    .op (some 8) none false (.mv (.t 7)),
    .op (some 9) (some (8, false)) false (.mv (.t 0)),
    .op (some 10) (some (8, false)) false (.bin .gtr (.t 9) (.c (.int .i64 64))),
    .op (some 11) none false (.pick (.t 8) (.c (.bool true)) (.t 10)),
    .gh (.keep [0, 2, 11])]) <|
  (.cond (.t 11)
    (.seq (.region [.op (some 12) none false (.build [(.sl (some true) (some 0) []), (.sl (some true) (some 0) []), (.int .i64 0)] []),
      .op none none false (.store 3 (.t 2) (.t 12)),
      .op (some 3) none false (.mv (.c (.int .i64 1))),
      .gh (.keep [2, 3])]) <|
    .ret)
    .skip)) <|
  (.seq (.region [.op (some 13) none false (.build [(.sl (some true) (some 0) []), (.sl (some true) (some 0) []), (.int .i64 0)] []),
    .op (some 4) none false (.alloc [(.sl (some true) (some 0) []), (.sl (some true) (some 0) []), (.int .i64 0)]),
    .op none none false (.store 3 (.t 4) (.t 13)),
    .gh (.keep [0, 2, 4])]) <|
  (.seq (.seq (.region [.op (some 5) none false (.mv (.c (.int .i64 0)))]) <|
  (.block 0 <|
    (.gh (.keep [0, 2, 4, 5]) (.loop <|
      (.seq (.seq (.region [.op (some 14) none false (.mv (.t 5)),
        .op (some 15) none false (.bin .lss (.t 14) (.c (.int .i64 64))),
        .op (some 16) none false (.mv (.t 15)),
        .op (some 17) (some (16, true)) false (.mv (.t 5)),
        .op (some 18) (some (16, true)) false (.mv (.t 0)),
        .op (some 19) (some (16, true)) false (.bin .lss (.t 17) (.t 18)),
        .op (some 20) none false (.pick (.t 16) (.t 19) (.c (.bool false))),
        .gh (.keep [0, 2, 4, 5, 20])]) <|
      (.cond (.t 20)
        .skip
        (.exit 0))) <|
      (.seq (.block 1 <|
        (.seq (.region [.op (some 23) none false (.fieldAddr 0 (.t 4)),
          .op (some 24) none false (.load false 1 (.t 23)),
          .op (some 25) none false (.build [(.int .i64 0), (.int .i64 0), (.int .i64 0), (.int .i64 0)] []),
          .op (some 26) none false (.buildSl 4 1 [(.int .i64 0), (.int .i64 0), (.int .i64 0), (.int .i64 0)] [(0, (.t 25))]),
          .op (some 27) none false (.append 4 32 (.t 24) (.t 26)),
          .op (some 28) none false (.fieldAddr 0 (.t 4)),
          .op none none false (.store 1 (.t 28) (.t 27)),
          .gh (.keep [0, 2, 4, 5])]) <|
        (.region [.op (some 29) none false (.fieldAddr 1 (.t 4)),
          .op (some 30) none false (.load false 1 (.t 29)),
          .op (some 31) none false (.mv (.t 0)),
          .op (some 32) none false (.bin .sub (.t 31) (.c (.int .i64 1))),
          .op (some 33) none false (.mv (.t 5)),
          .op (some 34) none false (.bin .sub (.t 32) (.t 33)),
          .op (some 35) none false (.buildSl 1 1 [(.int .i64 0)] [(0, (.t 34))]),
          .op (some 36) none false (.append 1 8 (.t 30) (.t 35)),
          .op (some 37) none false (.fieldAddr 1 (.t 4)),
          .op none none false (.store 1 (.t 37) (.t 36)),
          .gh (.keep [0, 2, 4, 5])]))) <|
      (.region [.op (some 21) none false (.mv (.t 5)),
        .op (some 22) none false (.bin .add (.t 21) (.c (.int .i64 1))),
        .op (some 5) none false (.mv (.t 22)), .gh (.keepO [102, 104, 127, 136]),
        .gh (.keep [0, 2, 4, 5])]))))))) <|
  (.seq (.region [.gh (.frz 127), .gh (.frz 136), .op (some 38) none false (.load true 3 (.t 4)),
    .op none none false (.store 3 (.t 2) (.t 38)),
    .op (some 3) none false (.mv (.c (.int .i64 0))),
    .gh (.keep [2, 3])]) <|
  .ret)))))
theorem tr_ref05_New : trCode Try.prog Try.f15.ntmps (Try.f15.body.getD .skip) = some ac_ref05_New.erase := by kernel_rfl
theorem fn_ref05_New : Try.prog.funcs[15]? = some Try.f15 := by kernel_rfl
theorem bd_ref05_New : Try.f15.body = some (Try.f15.body.getD .skip) := by kernel_rfl
theorem rs_ref05_New : Try.f15.results.toList.mapM (trRes Try.prog) = some [.cell 2 true 3, .tmp 3] := by kernel_rfl
theorem go_ref05_New {Y : YT} {kb : Nat} {args : List AV} {ob : Ob} {K : AV → Ob → Prop} (ks : Option (List Nat)) (hl : args.length ≤ 39) (h : AP Try.prog Y kb ac_ref05_New (endK [.cell 2 true 3, .tmp 3] ks K) (mkTm 0 args) ob) : FnA Try.prog Y 15 args ob K :=
  FnA_of_awp hm fn_ref05_New (by kernel_rfl) bd_ref05_New tr_ref05_New rs_ref05_New ks hl h.out
set_option maxHeartbeats 4000000 in
theorem c_ref05_New (n : Int) : PureA Try.prog 15 [.fv (.int .i64 n)] (resE (newR n)) := by
  refine ⟨fun Y => ?_⟩
  refine go_ref05_New (kb := 100) (some []) (by simp) ?_
  unfold ac_ref05_New
  repeat' (first
      | ((with_reducible refine ap_id ?_); have zT := zS; (repeat (first | clear ze | revert ze)); exact zT.out)
      | ((with_reducible apply w_dseq); intro zS)
      | ((fail_if_success exact (Hd.mk trivial : Hd True)); (with_reducible refine Hd.mk ?_))
      | with_reducible refine w_seq fun K1 zn zx zr => ?_
      | with_reducible refine w_region fun K1 zq => ?_
      | with_reducible refine w_draw fun K1 zq => ?_
      | with_reducible refine w_block fun K1 yn yb yx yr => ?_
      | with_reducible refine w_skip ?_
      | with_reducible refine w_ret ?_
      | with_reducible refine w_exit ?_
      | ((with_reducible refine w_gh ?_); simp)
      | ((with_reducible refine zq _ _ ?_); clear zq)
      | ((with_reducible refine zn _ _ ?_); clear zn zx zr)
      | ((with_reducible refine zr _ _ ?_); clear zn zx zr)
      | ((with_reducible refine zx _ _ _ ?_); clear zn zx zr)
      | ((with_reducible refine yn _ _ ?_); clear yn yb yx yr)
      | ((with_reducible refine yb _ _ ?_); clear yn yb yx yr)
      | ((with_reducible refine yr _ _ ?_); clear yn yb yx yr)
      | ((with_reducible refine yx _ _ _ (by decide) ?_); clear yn yb yx yr)
      | ((with_reducible refine e_endn ?_); simp)
      | ((with_reducible refine e_endr ?_); simp)
      | with_reducible refine e_un ?_
      | with_reducible refine e_ux ?_
      | with_reducible refine e_ur ?_
      | ((with_reducible refine u_step ?_); (try simp))
      | ((with_reducible apply s_rangeF); (case hc => rfl); intro zel zrr)
      | ((with_reducible apply o_yld); (case hf => rfl))
      | ((with_reducible refine rf_go ?h1 ?h2 ?_); (case h1 => rfl); (case h2 => first | rfl | simp); simp [tputs])
      | ((with_reducible refine r_an ?h1 ?_); (case h1 => first | rfl | simp); simp)
      | ((with_reducible refine r_bn ?h1 ?_); (case h1 => first | rfl | simp); simp)
      | ((with_reducible refine r_bx ?h1 ?_); (case h1 => first | rfl | simp); simp)
      | ((with_reducible refine r_br ?h1 ?_); (case h1 => first | rfl | simp); simp)
      | ((with_reducible refine f_en ?h1 ?_); (case h1 => rfl); simp)
      | ((with_reducible refine f_ex ?h1 ?_); (case h1 => rfl); simp)
      | ((with_reducible refine f_er ?h1 ?_); (case h1 => rfl); simp)
      | with_reducible refine e_loopx ?_
      | with_reducible refine e_loopr ?_
      | ((with_reducible refine c_true ?hc ?_); (case hc => rfl))
      | ((with_reducible refine c_false ?hc ?_); (case hc => rfl))
      | (rw [sls_get _ _ (by omega)]; simp [Sl.fv])
      | (rw [ints_get _ _ (by omega)]; simp)
      | rw [i64_in _ (by omega)]
      | ((with_reducible refine o_bin ?_); ((first | ((with_reducible apply o_lss); (case hx => rfl); (case hy => rfl); (case hk => rfl)) | ((with_reducible apply o_leq); (case hx => rfl); (case hy => rfl); (case hk => rfl)) | ((with_reducible apply o_gtr); (case hx => rfl); (case hy => rfl); (case hk => rfl)) | ((with_reducible apply o_geq); (case hx => rfl); (case hy => rfl); (case hk => rfl)) | ((with_reducible apply o_eql); (case hx => rfl); (case hy => rfl); (case hk => rfl)) | ((with_reducible apply o_neq); (case hx => rfl); (case hy => rfl); (case hk => rfl))) <;> (intro h; first | (exfalso; omega) | simp)))
      | ((with_reducible apply o_eqnil); (case hx => rfl); all_goals (try intro h); all_goals simp)
      | ((with_reducible refine o_op fun _ _ => ?_); simp)
      | ((with_reducible refine o_gt ?hg ?_); (case hg => rfl))
      | ((with_reducible apply o_gs); (case hg => rfl); (case hn => rfl); simp only [skipD, tdel, Nat.reduceEqDiff, reduceIte])
      | ((with_reducible refine o_cgt ?hg ?_); (case hg => rfl))
      | ((with_reducible apply o_cgs); (case hg => rfl); (case hn => rfl); simp only [skipD, tdel, Nat.reduceEqDiff, reduceIte])
      | with_reducible refine o_nil ?_
      | with_reducible exact d_stop
      | ((with_reducible refine d_done ?_); (try simp))
      | ((with_reducible refine d_bin ?_); ((first | ((with_reducible apply d_lss); (case hx => rfl); (case hy => rfl); (case hk => rfl)) | ((with_reducible apply d_leq); (case hx => rfl); (case hy => rfl); (case hk => rfl)) | ((with_reducible apply d_gtr); (case hx => rfl); (case hy => rfl); (case hk => rfl)) | ((with_reducible apply d_geq); (case hx => rfl); (case hy => rfl); (case hk => rfl)) | ((with_reducible apply d_eql); (case hx => rfl); (case hy => rfl); (case hk => rfl)) | ((with_reducible apply d_neq); (case hx => rfl); (case hy => rfl); (case hk => rfl))) <;> (intro h; first | (exfalso; omega) | simp)))
      | ((with_reducible refine d_fst ?_); simp [and_assoc])
      | ((with_reducible refine d_fst_gt ?hg ?_); (case hg => rfl))
      | ((with_reducible apply d_fst_gs); (case hg => rfl); (case hn => rfl); simp only [skipD, tdel, Nat.reduceEqDiff, reduceIte])
      | ((with_reducible refine d_main_gt ?hg ?_); (case hg => rfl))
      | ((with_reducible apply d_main_gs); (case hg => rfl); (case hn => rfl); all_goals (try simp only [skipD, tdel, Nat.reduceEqDiff, reduceIte]))
      | ((with_reducible refine d_call_gt ?hg ?_); (case hg => rfl))
      | ((with_reducible apply d_call_gs); (case hg => rfl); (case hn => rfl); all_goals (try simp only [skipD, tdel, Nat.reduceEqDiff, reduceIte]))
      | ((with_reducible refine d_main (fun ze => ?_) d_stop); simp)
      | ((with_reducible refine d_main (fun ze => ?_) ?_); simp)
      | ((with_reducible refine o_gh ?_); simp)
      | (with_reducible refine isR_mk ?_ (by simp))
      | (with_reducible refine And.intro (by omega) ?_)
      | (refine And.intro (ints_hd _) ?_)
      | (refine And.intro (sls_hd _) ?_)
      | (with_reducible refine fun (ze : Nat) => ?_)
      | ((with_reducible apply o_call); (case hf => rfl))
      | ((with_reducible apply o_callc); (case hf => rfl))
      | fail)
  · unfold newR; rw [if_pos (.inl h)]; simp [resE, Ar.av, sls, ints]
  · unfold newR; rw [if_pos (.inr h)]; simp [resE, Ar.av, sls, ints]
  rename_i h1 h2
  refine s_loop (fun m tm ob => ∃ (e2 e4 : Nat) (i : Nat), m = 64 - i ∧ (i : Int) ≤ n ∧ tm = [(0, .fv (.int .i64 n)), (2, .ptr 102 e2 0), (4, .ptr 104 e4 0), (5, .fv (.int .i64 i))] ∧
    ((i = 0 ∧ ob = [(102, e2, .var [.fv (.sl (some true) (some 0) []), .fv (.sl (some true) (some 0) []), .fv (.int .i64 0)]), (104, e4, .var [.fv (.sl (some true) (some 0) []), .fv (.sl (some true) (some 0) []), .fv (.int .i64 0)])]) ∨
     (0 < i ∧ ∃ ea eb, ob = [(102, e2, .var [.fv (.sl (some true) (some 0) []), .fv (.sl (some true) (some 0) []), .fv (.int .i64 0)]), (104, e4, .var [.ms 127 ea 4 0 i none, .ms 136 eb 1 0 i none, .fv (.int .i64 0)]),
       (127, ea, .row 4 ((sls (zeroS i)).map (·.map AV.fv))), (136, eb, .row 1 ((ints (downI n i)).map (·.map AV.fv)))]))) 64 ⟨_, _, 0, by simp, by omega, rfl, .inl ⟨rfl, rfl⟩⟩ ?_
  rintro m _ _ ⟨e2, e4, i, rfl, hin, rfl, ⟨hi, rfl⟩ | ⟨hi, ea, eb, rfl⟩⟩
  · subst hi
    repeat' (first
        | ((with_reducible refine ap_id ?_); have zT := zS; (repeat (first | clear ze | revert ze)); exact zT.out)
        | ((with_reducible apply w_dseq); intro zS)
        | ((fail_if_success exact (Hd.mk trivial : Hd True)); (with_reducible refine Hd.mk ?_))
        | with_reducible refine w_seq fun K1 zn zx zr => ?_
        | with_reducible refine w_region fun K1 zq => ?_
        | with_reducible refine w_draw fun K1 zq => ?_
        | with_reducible refine w_block fun K1 yn yb yx yr => ?_
        | with_reducible refine w_skip ?_
        | with_reducible refine w_ret ?_
        | with_reducible refine w_exit ?_
        | ((with_reducible refine w_gh ?_); simp)
        | ((with_reducible refine zq _ _ ?_); clear zq)
        | ((with_reducible refine zn _ _ ?_); clear zn zx zr)
        | ((with_reducible refine zr _ _ ?_); clear zn zx zr)
        | ((with_reducible refine zx _ _ _ ?_); clear zn zx zr)
        | ((with_reducible refine yn _ _ ?_); clear yn yb yx yr)
        | ((with_reducible refine yb _ _ ?_); clear yn yb yx yr)
        | ((with_reducible refine yr _ _ ?_); clear yn yb yx yr)
        | ((with_reducible refine yx _ _ _ (by decide) ?_); clear yn yb yx yr)
        | ((with_reducible refine e_endn ?_); simp)
        | ((with_reducible refine e_endr ?_); simp)
        | with_reducible refine e_un ?_
        | with_reducible refine e_ux ?_
        | with_reducible refine e_ur ?_
        | ((with_reducible refine u_step ?_); (try simp))
        | ((with_reducible apply s_rangeF); (case hc => rfl); intro zel zrr)
        | ((with_reducible apply o_yld); (case hf => rfl))
        | ((with_reducible refine rf_go ?h1 ?h2 ?_); (case h1 => rfl); (case h2 => first | rfl | simp); simp [tputs])
        | ((with_reducible refine r_an ?h1 ?_); (case h1 => first | rfl | simp); simp)
        | ((with_reducible refine r_bn ?h1 ?_); (case h1 => first | rfl | simp); simp)
        | ((with_reducible refine r_bx ?h1 ?_); (case h1 => first | rfl | simp); simp)
        | ((with_reducible refine r_br ?h1 ?_); (case h1 => first | rfl | simp); simp)
        | ((with_reducible refine f_en ?h1 ?_); (case h1 => rfl); simp)
        | ((with_reducible refine f_ex ?h1 ?_); (case h1 => rfl); simp)
        | ((with_reducible refine f_er ?h1 ?_); (case h1 => rfl); simp)
        | with_reducible refine e_loopx ?_
        | with_reducible refine e_loopr ?_
        | ((with_reducible refine c_true ?hc ?_); (case hc => rfl))
        | ((with_reducible refine c_false ?hc ?_); (case hc => rfl))
        | (rw [sls_get _ _ (by omega)]; simp [Sl.fv])
        | (rw [ints_get _ _ (by omega)]; simp)
        | rw [i64_in _ (by omega)]
        | ((with_reducible refine o_bin ?_); ((first | ((with_reducible apply o_lss); (case hx => rfl); (case hy => rfl); (case hk => rfl)) | ((with_reducible apply o_leq); (case hx => rfl); (case hy => rfl); (case hk => rfl)) | ((with_reducible apply o_gtr); (case hx => rfl); (case hy => rfl); (case hk => rfl)) | ((with_reducible apply o_geq); (case hx => rfl); (case hy => rfl); (case hk => rfl)) | ((with_reducible apply o_eql); (case hx => rfl); (case hy => rfl); (case hk => rfl)) | ((with_reducible apply o_neq); (case hx => rfl); (case hy => rfl); (case hk => rfl))) <;> (intro h; first | (exfalso; omega) | simp)))
        | ((with_reducible apply o_eqnil); (case hx => rfl); all_goals (try intro h); all_goals simp)
        | ((with_reducible refine o_op fun _ _ => ?_); simp)
        | ((with_reducible refine o_gt ?hg ?_); (case hg => rfl))
        | ((with_reducible apply o_gs); (case hg => rfl); (case hn => rfl); simp only [skipD, tdel, Nat.reduceEqDiff, reduceIte])
        | ((with_reducible refine o_cgt ?hg ?_); (case hg => rfl))
        | ((with_reducible apply o_cgs); (case hg => rfl); (case hn => rfl); simp only [skipD, tdel, Nat.reduceEqDiff, reduceIte])
        | with_reducible refine o_nil ?_
        | with_reducible exact d_stop
        | ((with_reducible refine d_done ?_); (try simp))
        | ((with_reducible refine d_bin ?_); ((first | ((with_reducible apply d_lss); (case hx => rfl); (case hy => rfl); (case hk => rfl)) | ((with_reducible apply d_leq); (case hx => rfl); (case hy => rfl); (case hk => rfl)) | ((with_reducible apply d_gtr); (case hx => rfl); (case hy => rfl); (case hk => rfl)) | ((with_reducible apply d_geq); (case hx => rfl); (case hy => rfl); (case hk => rfl)) | ((with_reducible apply d_eql); (case hx => rfl); (case hy => rfl); (case hk => rfl)) | ((with_reducible apply d_neq); (case hx => rfl); (case hy => rfl); (case hk => rfl))) <;> (intro h; first | (exfalso; omega) | simp)))
        | ((with_reducible refine d_fst ?_); simp [and_assoc])
        | ((with_reducible refine d_fst_gt ?hg ?_); (case hg => rfl))
        | ((with_reducible apply d_fst_gs); (case hg => rfl); (case hn => rfl); simp only [skipD, tdel, Nat.reduceEqDiff, reduceIte])
        | ((with_reducible refine d_main_gt ?hg ?_); (case hg => rfl))
        | ((with_reducible apply d_main_gs); (case hg => rfl); (case hn => rfl); all_goals (try simp only [skipD, tdel, Nat.reduceEqDiff, reduceIte]))
        | ((with_reducible refine d_call_gt ?hg ?_); (case hg => rfl))
        | ((with_reducible apply d_call_gs); (case hg => rfl); (case hn => rfl); all_goals (try simp only [skipD, tdel, Nat.reduceEqDiff, reduceIte]))
        | ((with_reducible refine d_main (fun ze => ?_) d_stop); simp)
        | ((with_reducible refine d_main (fun ze => ?_) ?_); simp)
        | ((with_reducible refine o_gh ?_); simp)
        | (with_reducible refine isR_mk ?_ (by simp))
        | (with_reducible refine And.intro (by omega) ?_)
        | (refine And.intro (ints_hd _) ?_)
        | (refine And.intro (sls_hd _) ?_)
        | (with_reducible refine fun (ze : Nat) => ?_)
        | ((with_reducible apply o_call); (case hf => rfl))
        | ((with_reducible apply o_callc); (case hf => rfl))
        | fail)
    · refine e_loopn 63 (by omega) ⟨e2, e4, 1, by omega, by omega, by simp, .inr ⟨by omega, ?_⟩⟩
      simp
      simp [sls, zeroS, Sl.fv, ints, downI, List.range_succ]
  · repeat' (first
     | ((with_reducible refine ap_id ?_); have zT := zS; (repeat (first | clear ze | revert ze)); exact zT.out)
     | ((with_reducible apply w_dseq); intro zS)
     | ((fail_if_success exact (Hd.mk trivial : Hd True)); (with_reducible refine Hd.mk ?_))
     | with_reducible refine w_seq fun K1 zn zx zr => ?_
     | with_reducible refine w_region fun K1 zq => ?_
     | with_reducible refine w_draw fun K1 zq => ?_
     | with_reducible refine w_block fun K1 yn yb yx yr => ?_
     | with_reducible refine w_skip ?_
     | with_reducible refine w_ret ?_
     | with_reducible refine w_exit ?_
     | ((with_reducible refine w_gh ?_); simp)
     | ((with_reducible refine zq _ _ ?_); clear zq)
     | ((with_reducible refine zn _ _ ?_); clear zn zx zr)
     | ((with_reducible refine zr _ _ ?_); clear zn zx zr)
     | ((with_reducible refine zx _ _ _ ?_); clear zn zx zr)
     | ((with_reducible refine yn _ _ ?_); clear yn yb yx yr)
     | ((with_reducible refine yb _ _ ?_); clear yn yb yx yr)
     | ((with_reducible refine yr _ _ ?_); clear yn yb yx yr)
     | ((with_reducible refine yx _ _ _ (by decide) ?_); clear yn yb yx yr)
     | ((with_reducible refine e_endn ?_); simp)
     | ((with_reducible refine e_endr ?_); simp)
     | with_reducible refine e_un ?_
     | with_reducible refine e_ux ?_
     | with_reducible refine e_ur ?_
     | ((with_reducible refine u_step ?_); (try simp))
     | ((with_reducible apply s_rangeF); (case hc => rfl); intro zel zrr)
     | ((with_reducible apply o_yld); (case hf => rfl))
     | ((with_reducible refine rf_go ?h1 ?h2 ?_); (case h1 => rfl); (case h2 => first | rfl | simp); simp [tputs])
     | ((with_reducible refine r_an ?h1 ?_); (case h1 => first | rfl | simp); simp)
     | ((with_reducible refine r_bn ?h1 ?_); (case h1 => first | rfl | simp); simp)
     | ((with_reducible refine r_bx ?h1 ?_); (case h1 => first | rfl | simp); simp)
     | ((with_reducible refine r_br ?h1 ?_); (case h1 => first | rfl | simp); simp)
     | ((with_reducible refine f_en ?h1 ?_); (case h1 => rfl); simp)
     | ((with_reducible refine f_ex ?h1 ?_); (case h1 => rfl); simp)
     | ((with_reducible refine f_er ?h1 ?_); (case h1 => rfl); simp)
     | with_reducible refine e_loopx ?_
     | with_reducible refine e_loopr ?_
     | ((with_reducible refine c_true ?hc ?_); (case hc => rfl))
     | ((with_reducible refine c_false ?hc ?_); (case hc => rfl))
     | (rw [sls_get _ _ (by omega)]; simp [Sl.fv])
     | (rw [ints_get _ _ (by omega)]; simp)
     | rw [i64_in _ (by omega)]
     | ((with_reducible refine o_bin ?_); ((first | ((with_reducible apply o_lss); (case hx => rfl); (case hy => rfl); (case hk => rfl)) | ((with_reducible apply o_leq); (case hx => rfl); (case hy => rfl); (case hk => rfl)) | ((with_reducible apply o_gtr); (case hx => rfl); (case hy => rfl); (case hk => rfl)) | ((with_reducible apply o_geq); (case hx => rfl); (case hy => rfl); (case hk => rfl)) | ((with_reducible apply o_eql); (case hx => rfl); (case hy => rfl); (case hk => rfl)) | ((with_reducible apply o_neq); (case hx => rfl); (case hy => rfl); (case hk => rfl))) <;> (intro h; first | (exfalso; omega) | simp)))
     | ((with_reducible apply o_eqnil); (case hx => rfl); all_goals (try intro h); all_goals simp)
     | ((with_reducible refine o_op fun _ _ => ?_); simp)
     | ((with_reducible refine o_gt ?hg ?_); (case hg => rfl))
     | ((with_reducible apply o_gs); (case hg => rfl); (case hn => rfl); simp only [skipD, tdel, Nat.reduceEqDiff, reduceIte])
     | ((with_reducible refine o_cgt ?hg ?_); (case hg => rfl))
     | ((with_reducible apply o_cgs); (case hg => rfl); (case hn => rfl); simp only [skipD, tdel, Nat.reduceEqDiff, reduceIte])
     | with_reducible refine o_nil ?_
     | with_reducible exact d_stop
     | ((with_reducible refine d_done ?_); (try simp))
     | ((with_reducible refine d_bin ?_); ((first | ((with_reducible apply d_lss); (case hx => rfl); (case hy => rfl); (case hk => rfl)) | ((with_reducible apply d_leq); (case hx => rfl); (case hy => rfl); (case hk => rfl)) | ((with_reducible apply d_gtr); (case hx => rfl); (case hy => rfl); (case hk => rfl)) | ((with_reducible apply d_geq); (case hx => rfl); (case hy => rfl); (case hk => rfl)) | ((with_reducible apply d_eql); (case hx => rfl); (case hy => rfl); (case hk => rfl)) | ((with_reducible apply d_neq); (case hx => rfl); (case hy => rfl); (case hk => rfl))) <;> (intro h; first | (exfalso; omega) | simp)))
     | ((with_reducible refine d_fst ?_); simp [and_assoc])
     | ((with_reducible refine d_fst_gt ?hg ?_); (case hg => rfl))
     | ((with_reducible apply d_fst_gs); (case hg => rfl); (case hn => rfl); simp only [skipD, tdel, Nat.reduceEqDiff, reduceIte])
     | ((with_reducible refine d_main_gt ?hg ?_); (case hg => rfl))
     | ((with_reducible apply d_main_gs); (case hg => rfl); (case hn => rfl); all_goals (try simp only [skipD, tdel, Nat.reduceEqDiff, reduceIte]))
     | ((with_reducible refine d_call_gt ?hg ?_); (case hg => rfl))
     | ((with_reducible apply d_call_gs); (case hg => rfl); (case hn => rfl); all_goals (try simp only [skipD, tdel, Nat.reduceEqDiff, reduceIte]))
     | ((with_reducible refine d_main (fun ze => ?_) d_stop); simp)
     | ((with_reducible refine d_main (fun ze => ?_) ?_); simp)
     | ((with_reducible refine o_gh ?_); simp)
     | (with_reducible refine isR_mk ?_ (by simp))
     | (with_reducible refine And.intro (by omega) ?_)
     | (refine And.intro (ints_hd _) ?_)
     | (refine And.intro (sls_hd _) ?_)
     | (with_reducible refine fun (ze : Nat) => ?_)
     | ((with_reducible apply o_call); (case hf => rfl))
     | ((with_reducible apply o_callc); (case hf => rfl))
     | fail)
    · refine e_loopn (64 - (i + 1)) (by omega) ⟨e2, e4, i + 1, rfl, by omega, by simp, .inr ⟨by omega, ?_⟩⟩
      simp
      have := sls_zero i
      have := ints_down n i
      simp_all
    all_goals
      obtain rfl : n = i := by omega
      unfold newR; rw [if_neg (by omega)]; simp [resE, Ar.av]
end Go.Proofs.RL
