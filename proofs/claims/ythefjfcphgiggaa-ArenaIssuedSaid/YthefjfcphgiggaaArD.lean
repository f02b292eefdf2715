/- Functions of the arena seat. Conditions: none. -/
import Derived.Test.YthefjfcphgiggaaArC
set_option linter.unusedVariables false
set_option linter.unusedSimpArgs false
namespace Go.Proofs.RL
theorem findR_spec (a : Ar) (h : Int) : findR a h = -1 ∨ ∃ i : Nat, findR a h = i ∧ i < a.sl.length := by
  unfold findR
  by_cases h1 : validH h = false
  · left; rw [if_pos h1]
  · by_cases h2 : (a.sl.length : Int) ≤ h % 64
    · left; rw [if_neg h1, if_pos h2]
    · by_cases h3 : (a.sl[(h % 64).toNat]?.getD default).g ≠ h / 64
      · left; rw [if_neg h1, if_neg h2, if_pos h3]
      · by_cases h4 : (a.sl[(h % 64).toNat]?.getD default).st = 0
        · left; rw [if_neg h1, if_neg h2, if_neg h3, if_pos h4]
        · right
          refine ⟨(h % 64).toNat, ?_, by omega⟩
          rw [if_neg h1, if_neg h2, if_neg h3, if_neg h4]
          omega
def transR (a : Ar) (h frm to : Int) : Ar × Bool :=
  if findR a h < 0 then (a, false)
  else if (a.sl[(findR a h).toNat]?.getD default).st ≠ frm ∨ to < 1 ∨ to > 3 then (a, false)
  else ({ a with sl := a.sl.set (findR a h).toNat { (a.sl[(findR a h).toNat]?.getD default) with st := to } }, true)
def res2 (r : Ar × Bool) : AV := .tup [r.1.av, .fv (.bool r.2)]

def ac_ref05_Transition : AC := (.seq (.region [.op (some 4) none false (.box (.t 0)),
    .op (some 8) none false (.alloc [(.sl (some true) (some 0) []), (.sl (some true) (some 0) []), (.int .i64 0)]),
    .op (some 9) none false (.mv (.c (.bool false))),
    .gh (.keep [1, 2, 3, 4, 8])]) <|
  (.seq (.region [.op (some 12) none false (.load true 3 (.t 4)),
    .op (some 13) none false (.mv (.t 1)),
    .call (some 14) none (.c (.func 41)) [(.t 12), (.t 13)],
    .op (some 10) none false (.mv (.t 14)),
    .gh (.keep [2, 3, 4, 8, 10])]) <|
  (.seq (.seq (.region [.op (some 15) none false (.mv (.t 10)),
    .op (some 16) none false (.bin .lss (.t 15) (.c (.int .i64 0))),
    .op (some 17) none false (.mv (.t 16)),
    .op (some 18) (some (17, false)) false (.fieldAddr 0 (.t 4)),
    .op (some 19) (some (17, false)) false (.load false 1 (.t 18)),
    .op (some 20) (some (17, false)) false (.mv (.t 10)),
    .op (some 21) (some (17, false)) false (.idxA 4 (.t 19) (.t 20)),
    .op (some 22) (some (17, false)) false (.fieldAddr 1 (.t 21)),
    .op (some 23) (some (17, false)) false (.load false 1 (.t 22)),
    .op (some 24) (some (17, false)) false (.mv (.t 2)),
    .op (some 25) (some (17, false)) false (.bin .neq (.t 23) (.t 24)),
    .op (some 26) none false (.pick (.t 17) (.c (.bool true)) (.t 25)),
    .op (some 27) none false (.mv (.t 26)),
    .op (some 28) (some (27, false)) false (.mv (.t 3)),
    .op (some 29) (some (27, false)) false (.bin .lss (.t 28) (.c (.int .i64 1))),
    .op (some 30) none false (.pick (.t 27) (.c (.bool true)) (.t 29)),
    .op (some 31) none false (.mv (.t 30)),
    .op (some 32) (some (31, false)) false (.mv (.t 3)),
    .op (some 33) (some (31, false)) false (.bin .gtr (.t 32) (.c (.int .i64 3))),
    .op (some 34) none false (.pick (.t 31) (.c (.bool true)) (.t 33)),
    .gh (.keep [3, 4, 8, 10, 34])]) <|
  (.cond (.t 34)
    (.seq (.region [.op (some 35) none false (.load true 3 (.t 4)),
      .op none none false (.store 3 (.t 8) (.t 35)),
      .op (some 9) none false (.mv (.c (.bool false))),
      .gh (.keep [8, 9])]) <|
    .ret)
    .skip)) <|
  (.seq (.region [.op (some 36) none false (.fieldAddr 0 (.t 4)),
    .op (some 37) none false (.load false 1 (.t 36)),
    .op (some 38) none false (.mv (.t 10)),
    .op (some 39) none false (.idxA 4 (.t 37) (.t 38)),
    .op (some 40) none false (.load true 4 (.t 39)),
    .op (some 11) none false (.alloc [(.int .i64 0), (.int .i64 0), (.int .i64 0), (.int .i64 0)]),
    .op none none false (.store 4 (.t 11) (.t 40)),
    .gh (.keep [3, 4, 8, 10, 11])]) <|
  (.seq (.region [.op (some 41) none false (.mv (.t 3)),
    .op (some 42) none false (.fieldAddr 1 (.t 11)),
    .op none none false (.store 1 (.t 42) (.t 41)),
    .gh (.keep [4, 8, 10, 11])]) <|
  (.seq (.region [.op (some 43) none false (.load true 3 (.t 4)),
    .op (some 44) none false (.mv (.t 10)),
    .op (some 45) none false (.load true 4 (.t 11)),
    .call (some 46) none (.c (.func 39)) [(.t 43), (.t 44), (.t 45)],
    .op none none false (.store 3 (.t 8) (.t 46)),
    .op (some 9) none false (.mv (.c (.bool true))),
    .gh (.keep [8, 9])]) <|
  .ret))))))
theorem tr_ref05_Transition : trCode Try.prog Try.f31.ntmps (Try.f31.body.getD .skip) = some ac_ref05_Transition.erase := by kernel_rfl
theorem fn_ref05_Transition : Try.prog.funcs[31]? = some Try.f31 := by kernel_rfl
theorem bd_ref05_Transition : Try.f31.body = some (Try.f31.body.getD .skip) := by kernel_rfl
theorem rs_ref05_Transition : Try.f31.results.toList.mapM (trRes Try.prog) = some [.cell 8 true 3, .tmp 9] := by kernel_rfl
theorem go_ref05_Transition {Y : YT} {kb : Nat} {args : List AV} {ob : Ob} {K : AV → Ob → Prop} (ks : Option (List Nat)) (hl : args.length ≤ 47) (h : AP Try.prog Y kb ac_ref05_Transition (endK [.cell 8 true 3, .tmp 9] ks K) (mkTm 0 args) ob) : FnA Try.prog Y 31 args ob K :=
  FnA_of_awp hm fn_ref05_Transition (by kernel_rfl) bd_ref05_Transition tr_ref05_Transition rs_ref05_Transition ks hl h.out
set_option maxHeartbeats 4000000 in
theorem c_ref05_Transition (a : Ar) (h0 frm to : Int) (hs : a.sl.length ≤ 64) : PureA Try.prog 31 [a.av, .fv (.int .i64 h0), .fv (.int .i64 frm), .fv (.int .i64 to)] (res2 (transR a h0 frm to)) := by
  refine ⟨fun Y => ?_⟩
  refine go_ref05_Transition (kb := 100) (some []) (by simp) ?_
  unfold ac_ref05_Transition
  unfold Ar.av
  have hc := c_ref05_find a h0 hs
  rcases findR_spec a h0 with he | ⟨i, he, hi⟩
  all_goals rw [he] at hc
  all_goals replace he := Hd.mk he
  · repeat' (first
     | ((with_reducible refine ap_id ?_); have zT := zS; (repeat (first | clear ze | revert ze)); exact zT.out)
     | ((with_reducible apply w_dseq); intro zS)
     | ((fail_if_success exact (Hd.mk trivial : Hd True)); (with_reducible refine Hd.mk ?_))
     | with_reducible refine w_seq fun K1 zn zx zr => ?_
     | with_reducible refine w_region fun K1 zq => ?_
     | with_reducible refine w_draw fun K1 zq => ?_
     | with_reducible refine w_block fun K1 yn yb yx yr => ?_
     | with_reducible refine w_skip ?_
     | with_reducible refine w_ret ?_
     | with_reducible refine w_exit ?_
     | ((with_reducible refine w_gh ?_); simp)
     | ((with_reducible refine zq _ _ ?_); clear zq)
     | ((with_reducible refine zn _ _ ?_); clear zn zx zr)
     | ((with_reducible refine zr _ _ ?_); clear zn zx zr)
     | ((with_reducible refine zx _ _ _ ?_); clear zn zx zr)
     | ((with_reducible refine yn _ _ ?_); clear yn yb yx yr)
     | ((with_reducible refine yb _ _ ?_); clear yn yb yx yr)
     | ((with_reducible refine yr _ _ ?_); clear yn yb yx yr)
     | ((with_reducible refine yx _ _ _ (by decide) ?_); clear yn yb yx yr)
     | ((with_reducible refine e_endn ?_); simp)
     | ((with_reducible refine e_endr ?_); simp)
     | with_reducible refine e_un ?_
     | with_reducible refine e_ux ?_
     | with_reducible refine e_ur ?_
     | ((with_reducible refine u_step ?_); (try simp))
     | ((with_reducible apply s_rangeF); (case hc => rfl); intro zel zrr)
     | ((with_reducible apply o_yld); (case hf => rfl))
     | ((with_reducible refine rf_go ?h1 ?h2 ?_); (case h1 => rfl); (case h2 => first | rfl | simp); simp [tputs])
     | ((with_reducible refine r_an ?h1 ?_); (case h1 => first | rfl | simp); simp)
     | ((with_reducible refine r_bn ?h1 ?_); (case h1 => first | rfl | simp); simp)
     | ((with_reducible refine r_bx ?h1 ?_); (case h1 => first | rfl | simp); simp)
     | ((with_reducible refine r_br ?h1 ?_); (case h1 => first | rfl | simp); simp)
     | ((with_reducible refine f_en ?h1 ?_); (case h1 => rfl); simp)
     | ((with_reducible refine f_ex ?h1 ?_); (case h1 => rfl); simp)
     | ((with_reducible refine f_er ?h1 ?_); (case h1 => rfl); simp)
     | with_reducible refine e_loopx ?_
     | with_reducible refine e_loopr ?_
     | ((with_reducible refine c_true ?hc ?_); (case hc => rfl))
     | ((with_reducible refine c_false ?hc ?_); (case hc => rfl))
     | rw [i64_in _ (by omega)]
     | ((with_reducible refine o_bin ?_); ((first | ((with_reducible apply o_lss); (case hx => rfl); (case hy => rfl); (case hk => rfl)) | ((with_reducible apply o_leq); (case hx => rfl); (case hy => rfl); (case hk => rfl)) | ((with_reducible apply o_gtr); (case hx => rfl); (case hy => rfl); (case hk => rfl)) | ((with_reducible apply o_geq); (case hx => rfl); (case hy => rfl); (case hk => rfl)) | ((with_reducible apply o_eql); (case hx => rfl); (case hy => rfl); (case hk => rfl)) | ((with_reducible apply o_neq); (case hx => rfl); (case hy => rfl); (case hk => rfl))) <;> (intro h; first | (exfalso; omega) | simp)))
     | ((with_reducible apply o_eqnil); (case hx => rfl); all_goals (try intro h); all_goals simp)
     | ((with_reducible refine o_op fun _ _ => ?_); simp)
     | ((with_reducible refine o_gt ?hg ?_); (case hg => rfl))
     | ((with_reducible apply o_gs); (case hg => rfl); (case hn => rfl); simp only [skipD, tdel, Nat.reduceEqDiff, reduceIte])
     | ((with_reducible refine o_cgt ?hg ?_); (case hg => rfl))
     | ((with_reducible apply o_cgs); (case hg => rfl); (case hn => rfl); simp only [skipD, tdel, Nat.reduceEqDiff, reduceIte])
     | with_reducible refine o_nil ?_
     | with_reducible exact d_stop
     | ((with_reducible refine d_done ?_); (try simp))
     | ((with_reducible refine d_bin ?_); ((first | ((with_reducible apply d_lss); (case hx => rfl); (case hy => rfl); (case hk => rfl)) | ((with_reducible apply d_leq); (case hx => rfl); (case hy => rfl); (case hk => rfl)) | ((with_reducible apply d_gtr); (case hx => rfl); (case hy => rfl); (case hk => rfl)) | ((with_reducible apply d_geq); (case hx => rfl); (case hy => rfl); (case hk => rfl)) | ((with_reducible apply d_eql); (case hx => rfl); (case hy => rfl); (case hk => rfl)) | ((with_reducible apply d_neq); (case hx => rfl); (case hy => rfl); (case hk => rfl))) <;> (intro h; first | (exfalso; omega) | simp)))
     | ((with_reducible refine d_fst ?_); simp [and_assoc])
     | ((with_reducible refine d_fst_gt ?hg ?_); (case hg => rfl))
     | ((with_reducible apply d_fst_gs); (case hg => rfl); (case hn => rfl); simp only [skipD, tdel, Nat.reduceEqDiff, reduceIte])
     | ((with_reducible refine d_main_gt ?hg ?_); (case hg => rfl))
     | ((with_reducible apply d_main_gs); (case hg => rfl); (case hn => rfl); all_goals (try simp only [skipD, tdel, Nat.reduceEqDiff, reduceIte]))
     | ((with_reducible refine d_call_gt ?hg ?_); (case hg => rfl))
     | ((with_reducible apply d_call_gs); (case hg => rfl); (case hn => rfl); all_goals (try simp only [skipD, tdel, Nat.reduceEqDiff, reduceIte]))
     | ((with_reducible refine d_main (fun ze => ?_) d_stop); simp)
     | ((with_reducible refine d_main (fun ze => ?_) ?_); simp)
     | ((with_reducible refine o_gh ?_); simp)
     | (with_reducible refine isR_mk ?_ (by simp))
     | ((with_reducible apply o_callp (n := 41)); (case hf => rfl); (case hp => exact hc);  simp)
     | (with_reducible refine fun (ze : Nat) => ?_)
     | ((with_reducible apply o_call); (case hf => rfl))
     | ((with_reducible apply o_callc); (case hf => rfl))
     | fail)
    all_goals (unfold transR; rw [he.out, if_pos (by omega)]; simp [res2, Ar.av])
  · repeat' (first
     | ((with_reducible refine ap_id ?_); have zT := zS; (repeat (first | clear ze | revert ze)); exact zT.out)
     | ((with_reducible apply w_dseq); intro zS)
     | ((fail_if_success exact (Hd.mk trivial : Hd True)); (with_reducible refine Hd.mk ?_))
     | with_reducible refine w_seq fun K1 zn zx zr => ?_
     | with_reducible refine w_region fun K1 zq => ?_
     | with_reducible refine w_draw fun K1 zq => ?_
     | with_reducible refine w_block fun K1 yn yb yx yr => ?_
     | with_reducible refine w_skip ?_
     | with_reducible refine w_ret ?_
     | with_reducible refine w_exit ?_
     | ((with_reducible refine w_gh ?_); simp)
     | ((with_reducible refine zq _ _ ?_); clear zq)
     | ((with_reducible refine zn _ _ ?_); clear zn zx zr)
     | ((with_reducible refine zr _ _ ?_); clear zn zx zr)
     | ((with_reducible refine zx _ _ _ ?_); clear zn zx zr)
     | ((with_reducible refine yn _ _ ?_); clear yn yb yx yr)
     | ((with_reducible refine yb _ _ ?_); clear yn yb yx yr)
     | ((with_reducible refine yr _ _ ?_); clear yn yb yx yr)
     | ((with_reducible refine yx _ _ _ (by decide) ?_); clear yn yb yx yr)
     | ((with_reducible refine e_endn ?_); simp)
     | ((with_reducible refine e_endr ?_); simp)
     | with_reducible refine e_un ?_
     | with_reducible refine e_ux ?_
     | with_reducible refine e_ur ?_
     | ((with_reducible refine u_step ?_); (try simp))
     | ((with_reducible apply s_rangeF); (case hc => rfl); intro zel zrr)
     | ((with_reducible apply o_yld); (case hf => rfl))
     | ((with_reducible refine rf_go ?h1 ?h2 ?_); (case h1 => rfl); (case h2 => first | rfl | simp); simp [tputs])
     | ((with_reducible refine r_an ?h1 ?_); (case h1 => first | rfl | simp); simp)
     | ((with_reducible refine r_bn ?h1 ?_); (case h1 => first | rfl | simp); simp)
     | ((with_reducible refine r_bx ?h1 ?_); (case h1 => first | rfl | simp); simp)
     | ((with_reducible refine r_br ?h1 ?_); (case h1 => first | rfl | simp); simp)
     | ((with_reducible refine f_en ?h1 ?_); (case h1 => rfl); simp)
     | ((with_reducible refine f_ex ?h1 ?_); (case h1 => rfl); simp)
     | ((with_reducible refine f_er ?h1 ?_); (case h1 => rfl); simp)
     | with_reducible refine e_loopx ?_
     | with_reducible refine e_loopr ?_
     | ((with_reducible refine c_true ?hc ?_); (case hc => rfl))
     | ((with_reducible refine c_false ?hc ?_); (case hc => rfl))
     | (rw [sls_get _ _ (by omega)]; simp [Sl.fv])
     | rw [i64_in _ (by omega)]
     | ((with_reducible refine o_bin ?_); ((first | ((with_reducible apply o_lss); (case hx => rfl); (case hy => rfl); (case hk => rfl)) | ((with_reducible apply o_leq); (case hx => rfl); (case hy => rfl); (case hk => rfl)) | ((with_reducible apply o_gtr); (case hx => rfl); (case hy => rfl); (case hk => rfl)) | ((with_reducible apply o_geq); (case hx => rfl); (case hy => rfl); (case hk => rfl)) | ((with_reducible apply o_eql); (case hx => rfl); (case hy => rfl); (case hk => rfl)) | ((with_reducible apply o_neq); (case hx => rfl); (case hy => rfl); (case hk => rfl))) <;> (intro h; first | (exfalso; omega) | simp)))
     | ((with_reducible apply o_eqnil); (case hx => rfl); all_goals (try intro h); all_goals simp)
     | ((with_reducible refine o_op fun _ _ => ?_); simp)
     | ((with_reducible refine o_gt ?hg ?_); (case hg => rfl))
     | ((with_reducible apply o_gs); (case hg => rfl); (case hn => rfl); simp only [skipD, tdel, Nat.reduceEqDiff, reduceIte])
     | ((with_reducible refine o_cgt ?hg ?_); (case hg => rfl))
     | ((with_reducible apply o_cgs); (case hg => rfl); (case hn => rfl); simp only [skipD, tdel, Nat.reduceEqDiff, reduceIte])
     | with_reducible refine o_nil ?_
     | with_reducible exact d_stop
     | ((with_reducible refine d_done ?_); (try simp))
     | ((with_reducible refine d_bin ?_); ((first | ((with_reducible apply d_lss); (case hx => rfl); (case hy => rfl); (case hk => rfl)) | ((with_reducible apply d_leq); (case hx => rfl); (case hy => rfl); (case hk => rfl)) | ((with_reducible apply d_gtr); (case hx => rfl); (case hy => rfl); (case hk => rfl)) | ((with_reducible apply d_geq); (case hx => rfl); (case hy => rfl); (case hk => rfl)) | ((with_reducible apply d_eql); (case hx => rfl); (case hy => rfl); (case hk => rfl)) | ((with_reducible apply d_neq); (case hx => rfl); (case hy => rfl); (case hk => rfl))) <;> (intro h; first | (exfalso; omega) | simp)))
     | ((with_reducible refine d_fst ?_); simp [and_assoc])
     | ((with_reducible refine d_fst_gt ?hg ?_); (case hg => rfl))
     | ((with_reducible apply d_fst_gs); (case hg => rfl); (case hn => rfl); simp only [skipD, tdel, Nat.reduceEqDiff, reduceIte])
     | ((with_reducible refine d_main_gt ?hg ?_); (case hg => rfl))
     | ((with_reducible apply d_main_gs); (case hg => rfl); (case hn => rfl); all_goals (try simp only [skipD, tdel, Nat.reduceEqDiff, reduceIte]))
     | ((with_reducible refine d_call_gt ?hg ?_); (case hg => rfl))
     | ((with_reducible apply d_call_gs); (case hg => rfl); (case hn => rfl); all_goals (try simp only [skipD, tdel, Nat.reduceEqDiff, reduceIte]))
     | ((with_reducible refine d_main (fun ze => ?_) d_stop); simp)
     | ((with_reducible refine d_main (fun ze => ?_) ?_); simp)
     | ((with_reducible refine o_gh ?_); simp)
     | (with_reducible refine isR_mk ?_ (by simp))
     | ((with_reducible apply o_callp (n := 41)); (case hf => rfl); (case hp => exact hc);  simp)
     | (with_reducible refine And.intro (by omega) ?_)
     | ((with_reducible apply o_callp (n := 39)); (case hf => rfl); (case hp => exact c_ref05_with a i { (a.sl[i]?.getD default) with st := to } hi hs);  (simp [Ar.av]))
     | (with_reducible refine fun (ze : Nat) => ?_)
     | ((with_reducible apply o_call); (case hf => rfl))
     | ((with_reducible apply o_callc); (case hf => rfl))
     | fail)
    all_goals (unfold transR; rw [he.out, if_neg (by omega)]; simp only [Int.toNat_natCast])
    · rw [if_pos (.inl h)]; simp [res2, Ar.av]
    · rw [if_pos (.inr (.inl h))]; simp [res2, Ar.av]
    · rw [if_pos (.inr (.inr h))]; simp [res2, Ar.av]
    · rw [if_neg (by omega)]; simp [res2, Ar.av]
end Go.Proofs.RL
