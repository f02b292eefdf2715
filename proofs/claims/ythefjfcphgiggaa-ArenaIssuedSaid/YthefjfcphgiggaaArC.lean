/- Functions of the arena seat. Conditions: none. -/
import Derived.Test.YthefjfcphgiggaaArB
set_option linter.unusedVariables false
set_option linter.unusedSimpArgs false
namespace Go.Proofs.RL
structure ArOK (a : Ar) : Prop where
  hs : a.sl.length ≤ 64
  hi : a.idle.length ≤ 64
  hin : ∀ j, j < a.idle.length → 0 ≤ a.idle[j]?.getD 0 ∧ a.idle[j]?.getD 0 < a.sl.length
  hg : ∀ i, i < a.sl.length → 0 ≤ (a.sl[i]?.getD default).g ∧ (a.sl[i]?.getD default).g ≤ 1099511627776
  hx : 0 ≤ a.next ∧ a.next ≤ 1099511627776
theorem ints_take (l : List Int) (n : Nat) : (ints l).take n = ints (l.take n) := by simp [ints, List.map_take]
def lastI (a : Ar) : Nat := (a.idle[(a.idle.length - 1)]?.getD 0).toNat
def allocR (a : Ar) (time : Int) : Ar × Int × Int :=
  if time < 0 ∨ time > 1152921504606846976 then (a, 0, 1)
  else if a.idle.length = 0 ∨ a.next ≥ 1099511627776 then (a, 0, 10)
  else ({ sl := a.sl.set (lastI a) ⟨(a.sl[lastI a]?.getD default).g, 1, time, a.next⟩, idle := a.idle.take (a.idle.length - 1), next := a.next + 1 }, (a.sl[lastI a]?.getD default).g * 64 + lastI a, 0)
def res3 (r : Ar × Int × Int) : AV := .tup [r.1.av, .fv (.int .i64 r.2.1), .fv (.int .i64 r.2.2)]

def ac_ref05_Alloc : AC := (.seq (.region [.op (some 2) none false (.box (.t 0)),
    .op (some 4) none false (.alloc [(.sl (some true) (some 0) []), (.sl (some true) (some 0) []), (.int .i64 0)]),
    .op (some 5) none false (.mv (.c (.int .i64 0))),
    .op (some 6) none false (.mv (.c (.int .i64 0))),
    .gh (.keep [1, 2, 4])]) <|
  (.seq (.seq (.region [.op (some 11) none false (.mv (.t 1)),
    .op (some 12) none false (.bin .lss (.t 11) (.c (.int .i64 0))),
    .op (some 13) none false (.mv (.t 12)),
    .op (some 14) (some (13, false)) false (.mv (.t 1)),
    .op (some 15) (some (13, false)) false (.bin .gtr (.t 14) (.c (.int .i64 1152921504606846976))),
    .op (some 16) none false (.pick (.t 13) (.c (.bool true)) (.t 15)),
    .gh (.keep [1, 2, 4, 16])]) <|
  (.cond (.t 16)
    (.seq (.region [.op (some 17) none false (.load true 3 (.t 2)),
      .op none none false (.store 3 (.t 4) (.t 17)),
      .op (some 5) none false (.mv (.c (.int .i64 0))),
      .op (some 6) none false (.mv (.c (.int .i64 1))),
      .gh (.keep [4, 5, 6])]) <|
    .ret)
    .skip)) <|
  (.seq (.region [.op (some 18) none false (.fieldAddr 1 (.t 2)),
    .op (some 19) none false (.load false 1 (.t 18)),
    .op (some 20) none false (.len false (.t 19)),
    .op (some 7) none false (.mv (.t 20)),
    .gh (.keep [1, 2, 4, 7])]) <|
  (.seq (.seq (.region [.op (some 21) none false (.mv (.t 7)),
    .op (some 22) none false (.bin .eql (.t 21) (.c (.int .i64 0))),
    .op (some 23) none false (.mv (.t 22)),
    .op (some 24) (some (23, false)) false (.fieldAddr 2 (.t 2)),
    .op (some 25) (some (23, false)) false (.load false 1 (.t 24)),
    .op (some 26) (some (23, false)) false (.bin .geq (.t 25) (.c (.int .i64 1099511627776))),
    .op (some 27) none false (.pick (.t 23) (.c (.bool true)) (.t 26)),
    .gh (.keep [1, 2, 4, 7, 27])]) <|
  (.cond (.t 27)
    (.seq (.region [.op (some 28) none false (.load true 3 (.t 2)),
      .op none none false (.store 3 (.t 4) (.t 28)),
      .op (some 5) none false (.mv (.c (.int .i64 0))),
      .op (some 6) none false (.mv (.c (.int .i64 10))),
      .gh (.keep [4, 5, 6])]) <|
    .ret)
    .skip)) <|
  (.seq (.region [.op (some 29) none false (.fieldAddr 1 (.t 2)),
    .op (some 30) none false (.load false 1 (.t 29)),
    .op (some 31) none false (.mv (.t 7)),
    .op (some 32) none false (.bin .sub (.t 31) (.c (.int .i64 1))),
    .op (some 33) none false (.idxA 1 (.t 30) (.t 32)),
    .op (some 34) none false (.load false 1 (.t 33)),
    .op (some 8) none false (.mv (.t 34)),
    .gh (.keep [1, 2, 4, 7, 8])]) <|
  (.seq (.region [.op (some 35) none false (.fieldAddr 0 (.t 2)),
    .op (some 36) none false (.load false 1 (.t 35)),
    .op (some 37) none false (.mv (.t 8)),
    .op (some 38) none false (.idxA 4 (.t 36) (.t 37)),
    .op (some 39) none false (.fieldAddr 0 (.t 38)),
    .op (some 40) none false (.load false 1 (.t 39)),
    .op (some 9) none false (.mv (.t 40)),
    .gh (.keep [1, 2, 4, 7, 8, 9])]) <|
  (.seq (.region [.op (some 41) none false (.load true 3 (.t 2)),
    .op (some 42) none false (.mv (.t 8)),
    .op (some 43) none false (.mv (.t 9)),
    .op (some 44) none false (.mv (.t 1)),
    .op (some 45) none false (.fieldAddr 2 (.t 2)),
    .op (some 46) none false (.load false 1 (.t 45)),
    .op (some 47) none false (.build [(.int .i64 0), (.int .i64 0), (.int .i64 0), (.int .i64 0)] [(0, 1, (.t 43)), (1, 1, (.c (.int .i64 1))), (2, 1, (.t 44)), (3, 1, (.t 46))]),
    .call (some 48) none (.c (.func 39)) [(.t 41), (.t 42), (.t 47)],
    .op (some 10) none false (.alloc [(.sl (some true) (some 0) []), (.sl (some true) (some 0) []), (.int .i64 0)]),
    .op none none false (.store 3 (.t 10) (.t 48)),
    .gh (.keep [2, 4, 7, 8, 9, 10])]) <|
  (.seq (.region [.op (some 49) none false (.buildSl 1 0 [(.int .i64 0)] []),
    .op (some 50) none false (.fieldAddr 1 (.t 2)),
    .op (some 51) none false (.load false 1 (.t 50)),
    .op (some 52) none false (.mv (.t 7)),
    .op (some 53) none false (.bin .sub (.t 52) (.c (.int .i64 1))),
    .op (some 54) none false (.slice 1 (.t 51) none (some (.t 53)) none),
    .op (some 55) none false (.append 1 8 (.t 49) (.t 54)),
    .op (some 56) none false (.fieldAddr 1 (.t 10)),
    .op none none false (.store 1 (.t 56) (.t 55)),
    .gh (.keep [2, 4, 8, 9, 10])]) <|
  (.seq (.region [.op (some 57) none false (.fieldAddr 2 (.t 2)),
    .op (some 58) none false (.load false 1 (.t 57)),
    .op (some 59) none false (.bin .add (.t 58) (.c (.int .i64 1))),
    .op (some 60) none false (.fieldAddr 2 (.t 10)),
    .op none none false (.store 1 (.t 60) (.t 59)), .gh (.frz 155),
    .gh (.keep [4, 8, 9, 10])]) <|
  (.seq (.draw <|
    .fst (.op (some 61) none false (.load true 3 (.t 10))) <|
    .fst (.op (some 62) none false (.mv (.t 8))) <|
    .fst (.op (some 63) none false (.mv (.t 9))) <|
    .main1 [(.t 10)] (.call (some 64) none (.c (.func 40)) [(.t 62), (.t 63)]) <|
    .main1 [] (.op none none false (.store 3 (.t 4) (.t 61))) <|
    .fst (.op (some 5) none false (.mv (.t 64))) <|
    .fst (.op (some 6) none false (.mv (.c (.int .i64 0)))) <|
    .done) <|
  (.gh (.keep [4, 5, 6]) .ret)))))))))))
theorem tr_ref05_Alloc : trCode Try.prog Try.f30.ntmps (Try.f30.body.getD .skip) = some ac_ref05_Alloc.erase := by kernel_rfl
theorem fn_ref05_Alloc : Try.prog.funcs[30]? = some Try.f30 := by kernel_rfl
theorem bd_ref05_Alloc : Try.f30.body = some (Try.f30.body.getD .skip) := by kernel_rfl
theorem rs_ref05_Alloc : Try.f30.results.toList.mapM (trRes Try.prog) = some [.cell 4 true 3, .tmp 5, .tmp 6] := by kernel_rfl
theorem go_ref05_Alloc {Y : YT} {kb : Nat} {args : List AV} {ob : Ob} {K : AV → Ob → Prop} (ks : Option (List Nat)) (hl : args.length ≤ 65) (h : AP Try.prog Y kb ac_ref05_Alloc (endK [.cell 4 true 3, .tmp 5, .tmp 6] ks K) (mkTm 0 args) ob) : FnA Try.prog Y 30 args ob K :=
  FnA_of_awp hm fn_ref05_Alloc (by kernel_rfl) bd_ref05_Alloc tr_ref05_Alloc rs_ref05_Alloc ks hl h.out
set_option maxHeartbeats 4000000 in
theorem c_ref05_Alloc (a : Ar) (time : Int) (hok : ArOK a) : PureA Try.prog 30 [a.av, .fv (.int .i64 time)] (res3 (allocR a time)) := by
  refine ⟨fun Y => ?_⟩
  refine go_ref05_Alloc (kb := 100) (some []) (by simp) ?_
  unfold ac_ref05_Alloc
  unfold Ar.av
  simp only [DT.main1]
  have hs := hok.hs
  have hi := hok.hi
  have hx := hok.hx
  have hlast : ∀ h : a.idle.length ≠ 0, a.idle[(a.idle.length - 1)]?.getD 0 = (lastI a : Int) ∧ lastI a < a.sl.length := fun h => by
    have := hok.hin (a.idle.length - 1) (by omega)
    unfold lastI
    omega
  repeat' (first
      | ((with_reducible refine ap_id ?_); have zT := zS; (repeat (first | clear ze | revert ze)); exact zT.out)
      | ((with_reducible apply w_dseq); intro zS)
      | ((fail_if_success exact (Hd.mk trivial : Hd True)); (with_reducible refine Hd.mk ?_))
      | with_reducible refine w_seq fun K1 zn zx zr => ?_
      | with_reducible refine w_region fun K1 zq => ?_
      | with_reducible refine w_draw fun K1 zq => ?_
      | with_reducible refine w_block fun K1 yn yb yx yr => ?_
      | with_reducible refine w_skip ?_
      | with_reducible refine w_ret ?_
      | with_reducible refine w_exit ?_
      | ((with_reducible refine w_gh ?_); simp)
      | ((with_reducible refine zq _ _ ?_); clear zq)
      | ((with_reducible refine zn _ _ ?_); clear zn zx zr)
      | ((with_reducible refine zr _ _ ?_); clear zn zx zr)
      | ((with_reducible refine zx _ _ _ ?_); clear zn zx zr)
      | ((with_reducible refine yn _ _ ?_); clear yn yb yx yr)
      | ((with_reducible refine yb _ _ ?_); clear yn yb yx yr)
      | ((with_reducible refine yr _ _ ?_); clear yn yb yx yr)
      | ((with_reducible refine yx _ _ _ (by decide) ?_); clear yn yb yx yr)
      | ((with_reducible refine e_endn ?_); simp)
      | ((with_reducible refine e_endr ?_); simp)
      | with_reducible refine e_un ?_
      | with_reducible refine e_ux ?_
      | with_reducible refine e_ur ?_
      | ((with_reducible refine u_step ?_); (try simp))
      | ((with_reducible apply s_rangeF); (case hc => rfl); intro zel zrr)
      | ((with_reducible apply o_yld); (case hf => rfl))
      | ((with_reducible refine rf_go ?h1 ?h2 ?_); (case h1 => rfl); (case h2 => first | rfl | simp); simp [tputs])
      | ((with_reducible refine r_an ?h1 ?_); (case h1 => first | rfl | simp); simp)
      | ((with_reducible refine r_bn ?h1 ?_); (case h1 => first | rfl | simp); simp)
      | ((with_reducible refine r_bx ?h1 ?_); (case h1 => first | rfl | simp); simp)
      | ((with_reducible refine r_br ?h1 ?_); (case h1 => first | rfl | simp); simp)
      | ((with_reducible refine f_en ?h1 ?_); (case h1 => rfl); simp)
      | ((with_reducible refine f_ex ?h1 ?_); (case h1 => rfl); simp)
      | ((with_reducible refine f_er ?h1 ?_); (case h1 => rfl); simp)
      | with_reducible refine e_loopx ?_
      | with_reducible refine e_loopr ?_
      | ((with_reducible refine c_true ?hc ?_); (case hc => rfl))
      | ((with_reducible refine c_false ?hc ?_); (case hc => rfl))
      | (rw [if_pos (show a.idle.length ≤ a.idle.length - 1 + 1 by omega)]; simp)
      | (rw [ints_take])
      | (rw [ints_get _ _ (by omega)]; simp)
      | (rw [(hlast (by omega)).1]; simp)
      | (rw [sls_get _ _ (by have := (hlast (by omega)).2; omega)]; simp [Sl.fv])
      | rw [i64_in _ (by omega)]
      | ((with_reducible refine o_bin ?_); ((first | ((with_reducible apply o_lss); (case hx => rfl); (case hy => rfl); (case hk => rfl)) | ((with_reducible apply o_leq); (case hx => rfl); (case hy => rfl); (case hk => rfl)) | ((with_reducible apply o_gtr); (case hx => rfl); (case hy => rfl); (case hk => rfl)) | ((with_reducible apply o_geq); (case hx => rfl); (case hy => rfl); (case hk => rfl)) | ((with_reducible apply o_eql); (case hx => rfl); (case hy => rfl); (case hk => rfl)) | ((with_reducible apply o_neq); (case hx => rfl); (case hy => rfl); (case hk => rfl))) <;> (intro h; first | (exfalso; omega) | simp)))
      | ((with_reducible apply o_eqnil); (case hx => rfl); all_goals (try intro h); all_goals simp)
      | ((with_reducible refine o_op fun _ _ => ?_); simp)
      | ((with_reducible refine o_gt ?hg ?_); (case hg => rfl))
      | ((with_reducible apply o_gs); (case hg => rfl); (case hn => rfl); simp only [skipD, tdel, Nat.reduceEqDiff, reduceIte])
      | ((with_reducible refine o_cgt ?hg ?_); (case hg => rfl))
      | ((with_reducible apply o_cgs); (case hg => rfl); (case hn => rfl); simp only [skipD, tdel, Nat.reduceEqDiff, reduceIte])
      | with_reducible refine o_nil ?_
      | with_reducible exact d_stop
      | ((with_reducible refine d_done ?_); (try simp))
      | ((with_reducible refine d_bin ?_); ((first | ((with_reducible apply d_lss); (case hx => rfl); (case hy => rfl); (case hk => rfl)) | ((with_reducible apply d_leq); (case hx => rfl); (case hy => rfl); (case hk => rfl)) | ((with_reducible apply d_gtr); (case hx => rfl); (case hy => rfl); (case hk => rfl)) | ((with_reducible apply d_geq); (case hx => rfl); (case hy => rfl); (case hk => rfl)) | ((with_reducible apply d_eql); (case hx => rfl); (case hy => rfl); (case hk => rfl)) | ((with_reducible apply d_neq); (case hx => rfl); (case hy => rfl); (case hk => rfl))) <;> (intro h; first | (exfalso; omega) | simp)))
      | ((with_reducible refine d_fst ?_); simp [and_assoc])
      | ((with_reducible refine d_fst_gt ?hg ?_); (case hg => rfl))
      | ((with_reducible apply d_fst_gs); (case hg => rfl); (case hn => rfl); simp only [skipD, tdel, Nat.reduceEqDiff, reduceIte])
      | ((with_reducible refine d_main_gt ?hg ?_); (case hg => rfl))
      | ((with_reducible apply d_main_gs); (case hg => rfl); (case hn => rfl); all_goals (try simp only [skipD, tdel, Nat.reduceEqDiff, reduceIte]))
      | ((with_reducible refine d_call_gt ?hg ?_); (case hg => rfl))
      | ((with_reducible apply d_call_gs); (case hg => rfl); (case hn => rfl); all_goals (try simp only [skipD, tdel, Nat.reduceEqDiff, reduceIte]))
      | ((with_reducible refine d_main (fun ze => ?_) d_stop); simp)
      | ((with_reducible refine d_main (fun ze => ?_) ?_); simp)
      | ((with_reducible refine o_gh ?_); simp)
      | (with_reducible refine isR_mk ?_ (by simp))
      | (refine And.intro (ints_hd _) ?_)
      | (with_reducible refine And.intro (by omega) ?_)
      | (with_reducible refine And.intro (by simp; omega) ?_)
      | (refine And.intro (by have := (hlast (by omega)).2; omega) ?_)
      | ((with_reducible apply o_callp (n := 39)); (case hf => rfl); (case hp => exact c_ref05_with a (lastI a) ⟨(a.sl[lastI a]?.getD default).g, 1, time, a.next⟩ (hlast (by omega)).2 hs);  (simp [Ar.av]))
      | (refine d_callp rfl (c_ref04_Make (lastI a) (a.sl[lastI a]?.getD default).g (by have := (hlast (by omega)).2; omega) (hok.hg _ (hlast (by omega)).2)) ?_ d_stop; simp)
      | (with_reducible refine fun (ze : Nat) => ?_)
      | ((with_reducible apply o_call); (case hf => rfl))
      | ((with_reducible apply o_callc); (case hf => rfl))
      | fail)
  · unfold allocR; rw [if_pos (.inl h)]; simp [res3, Ar.av]
  · unfold allocR; rw [if_pos (.inr h)]; simp [res3, Ar.av]
  · unfold allocR; rw [if_neg (by omega), if_pos (.inl (by omega))]; simp [res3, Ar.av]
  · unfold allocR; rw [if_neg (by omega), if_pos (.inr (by omega))]; simp [res3, Ar.av]
  · unfold allocR; rw [if_neg (by omega), if_neg (by omega)]; simp [res3, Ar.av, List.take_take]
end Go.Proofs.RL
