/- Functions of the arena seat. Conditions: none. -/
import Derived.Test.YthefjfcphgiggaaArI
set_option linter.unusedVariables false
set_option linter.unusedSimpArgs false
namespace Go.Proofs.RL
theorem idxR_spec (a : Ar) (h : Int) : (idxR a h).2 = true ∧ (∃ i : Nat, findR a h = i ∧ (idxR a h).1 = i ∧ i < a.sl.length) ∨ (idxR a h).2 = false ∧ findR a h = -1 := by
  unfold idxR findR
  by_cases h1 : validH h = false
  · right; rw [if_pos h1, if_pos h1]; simp
  · rw [if_neg h1, if_neg h1]
    by_cases h2 : (a.sl.length : Int) ≤ h % 64
    · right; rw [if_pos h2, if_pos h2]; simp
    · rw [if_neg h2, if_neg h2]
      by_cases h3 : (a.sl[(h % 64).toNat]?.getD default).g ≠ h / 64
      · right; rw [if_pos h3]; simp [h3]
      · rw [if_neg h3]
        by_cases h4 : (a.sl[(h % 64).toNat]?.getD default).st = 0
        · right; rw [if_pos h4]; simp [h4]
        · left; rw [if_neg h4]
          refine ⟨by simp at h3; simp [h3, h4], (h % 64).toNat, by omega, by simp; omega, by omega⟩

def ac_arena_Lookup : AC := (.seq (.region [.op (some 2) none false (.box (.t 0)),
    .op (some 4) none false (.alloc [(.int .i64 0), (.int .i64 0), (.int .i64 0), (.int .i64 0)]),
    .op (some 5) none false (.mv (.c (.bool false))),
    .gh (.keep [1, 2, 4])]) <|
  (.seq (.region [.op (some 9) none false (.load true 3 (.t 2)),
    .op (some 10) none false (.mv (.t 1)),
    .call (some 11) none (.c (.func 22)) [(.t 9), (.t 10)],
    .op (some 8) none false (.mv (.t 11)),
    .op (some 12) none false (.extract (.t 8) 0),
    .op (some 13) none false (.extract (.t 8) 1),
    .op (some 6) none false (.mv (.t 12)),
    .op (some 7) none false (.mv (.t 13)),
    .gh (.keep [2, 4, 6, 7])]) <|
  (.seq (.seq (.region [.op (some 14) none false (.mv (.t 7)),
    .op (some 15) none false (.not (.t 14)),
    .gh (.keep [2, 4, 6, 15])]) <|
  (.cond (.t 15)
    (.seq (.region [.op (some 16) none false (.build [(.int .i64 0), (.int .i64 0), (.int .i64 0), (.int .i64 0)] []),
      .op none none false (.store 4 (.t 4) (.t 16)),
      .op (some 5) none false (.mv (.c (.bool false))),
      .gh (.keep [4, 5])]) <|
    .ret)
    .skip)) <|
  (.seq (.region [.op (some 17) none false (.fieldAddr 0 (.t 2)),
    .op (some 18) none false (.load false 1 (.t 17)),
    .op (some 19) none false (.mv (.t 6)),
    .op (some 20) none false (.idxA 4 (.t 18) (.t 19)),
    .op (some 21) none false (.load true 4 (.t 20)),
    .op none none false (.store 4 (.t 4) (.t 21)),
    .op (some 5) none false (.mv (.c (.bool true))),
    .gh (.keep [4, 5])]) <|
  .ret))))
theorem tr_arena_Lookup : trCode Try.prog Try.f11.ntmps (Try.f11.body.getD .skip) = some ac_arena_Lookup.erase := by kernel_rfl
theorem fn_arena_Lookup : Try.prog.funcs[11]? = some Try.f11 := by kernel_rfl
theorem bd_arena_Lookup : Try.f11.body = some (Try.f11.body.getD .skip) := by kernel_rfl
theorem rs_arena_Lookup : Try.f11.results.toList.mapM (trRes Try.prog) = some [.cell 4 true 4, .tmp 5] := by kernel_rfl
theorem go_arena_Lookup {Y : YT} {kb : Nat} {args : List AV} {ob : Ob} {K : AV → Ob → Prop} (ks : Option (List Nat)) (hl : args.length ≤ 22) (h : AP Try.prog Y kb ac_arena_Lookup (endK [.cell 4 true 4, .tmp 5] ks K) (mkTm 0 args) ob) : FnA Try.prog Y 11 args ob K :=
  FnA_of_awp hm fn_arena_Lookup (by kernel_rfl) bd_arena_Lookup tr_arena_Lookup rs_arena_Lookup ks hl h.out
set_option maxHeartbeats 4000000 in
theorem c_arena_Lookup (a : Ar) (h0 : Int) (hs : a.sl.length ≤ 64) (hh : a.sl ≠ []) : PureA Try.prog 11 [a.av, .fv (.int .i64 h0)] (.tup [.agg ((lookR a h0).1.fv.map .fv), .fv (.bool (lookR a h0).2)]) := by
  refine ⟨fun Y => ?_⟩
  refine go_arena_Lookup (kb := 100) (some []) (by simp) ?_
  unfold ac_arena_Lookup
  have hc := c_arena_index a h0 hs hh
  unfold lookR
  rcases idxR_spec a h0 with ⟨h2, i, hf, h1, hi⟩ | ⟨h2, hf⟩
  · rw [h2, h1] at hc
    rw [hf]
    clear h1 h2 hf
    unfold Ar.av at *
    repeat' (first
        | ((with_reducible refine ap_id ?_); have zT := zS; (repeat (first | clear ze | revert ze)); exact zT.out)
        | ((with_reducible apply w_dseq); intro zS)
        | ((fail_if_success exact (Hd.mk trivial : Hd True)); (with_reducible refine Hd.mk ?_))
        | with_reducible refine w_seq fun K1 zn zx zr => ?_
        | with_reducible refine w_region fun K1 zq => ?_
        | with_reducible refine w_draw fun K1 zq => ?_
        | with_reducible refine w_block fun K1 yn yb yx yr => ?_
        | with_reducible refine w_skip ?_
        | with_reducible refine w_ret ?_
        | with_reducible refine w_exit ?_
        | ((with_reducible refine w_gh ?_); simp)
        | ((with_reducible refine zq _ _ ?_); clear zq)
        | ((with_reducible refine zn _ _ ?_); clear zn zx zr)
        | ((with_reducible refine zr _ _ ?_); clear zn zx zr)
        | ((with_reducible refine zx _ _ _ ?_); clear zn zx zr)
        | ((with_reducible refine yn _ _ ?_); clear yn yb yx yr)
        | ((with_reducible refine yb _ _ ?_); clear yn yb yx yr)
        | ((with_reducible refine yr _ _ ?_); clear yn yb yx yr)
        | ((with_reducible refine yx _ _ _ (by decide) ?_); clear yn yb yx yr)
        | ((with_reducible refine e_endn ?_); simp)
        | ((with_reducible refine e_endr ?_); simp)
        | with_reducible refine e_un ?_
        | with_reducible refine e_ux ?_
        | with_reducible refine e_ur ?_
        | ((with_reducible refine u_step ?_); (try simp))
        | ((with_reducible apply s_rangeF); (case hc => rfl); intro zel zrr)
        | ((with_reducible apply o_yld); (case hf => rfl))
        | ((with_reducible refine rf_go ?h1 ?h2 ?_); (case h1 => rfl); (case h2 => first | rfl | simp); simp [tputs])
        | ((with_reducible refine r_an ?h1 ?_); (case h1 => first | rfl | simp); simp)
        | ((with_reducible refine r_bn ?h1 ?_); (case h1 => first | rfl | simp); simp)
        | ((with_reducible refine r_bx ?h1 ?_); (case h1 => first | rfl | simp); simp)
        | ((with_reducible refine r_br ?h1 ?_); (case h1 => first | rfl | simp); simp)
        | ((with_reducible refine f_en ?h1 ?_); (case h1 => rfl); simp)
        | ((with_reducible refine f_ex ?h1 ?_); (case h1 => rfl); simp)
        | ((with_reducible refine f_er ?h1 ?_); (case h1 => rfl); simp)
        | with_reducible refine e_loopx ?_
        | with_reducible refine e_loopr ?_
        | ((with_reducible refine c_true ?hc ?_); (case hc => rfl))
        | ((with_reducible refine c_false ?hc ?_); (case hc => rfl))
        | (rw [sls_some _ _ (by omega)]; simp [Sl.fv])
        | (rw [sls_get _ _ (by omega)]; simp [Sl.fv])
        | (rw [ints_get _ _ (by omega)]; simp)
        | rw [i64_in _ (by omega)]
        | ((with_reducible refine o_bin ?_); ((first | ((with_reducible apply o_lss); (case hx => rfl); (case hy => rfl); (case hk => rfl)) | ((with_reducible apply o_leq); (case hx => rfl); (case hy => rfl); (case hk => rfl)) | ((with_reducible apply o_gtr); (case hx => rfl); (case hy => rfl); (case hk => rfl)) | ((with_reducible apply o_geq); (case hx => rfl); (case hy => rfl); (case hk => rfl)) | ((with_reducible apply o_eql); (case hx => rfl); (case hy => rfl); (case hk => rfl)) | ((with_reducible apply o_neq); (case hx => rfl); (case hy => rfl); (case hk => rfl))) <;> (intro h; first | (exfalso; omega) | simp)))
        | ((with_reducible apply o_eqnil); (case hx => rfl); all_goals (try intro h); all_goals simp)
        | ((with_reducible refine o_op fun _ _ => ?_); simp)
        | ((with_reducible refine o_gt ?hg ?_); (case hg => rfl))
        | ((with_reducible apply o_gs); (case hg => rfl); (case hn => rfl); simp only [skipD, tdel, Nat.reduceEqDiff, reduceIte])
        | ((with_reducible refine o_cgt ?hg ?_); (case hg => rfl))
        | ((with_reducible apply o_cgs); (case hg => rfl); (case hn => rfl); simp only [skipD, tdel, Nat.reduceEqDiff, reduceIte])
        | with_reducible refine o_nil ?_
        | with_reducible exact d_stop
        | ((with_reducible refine d_done ?_); (try simp))
        | ((with_reducible refine d_bin ?_); ((first | ((with_reducible apply d_lss); (case hx => rfl); (case hy => rfl); (case hk => rfl)) | ((with_reducible apply d_leq); (case hx => rfl); (case hy => rfl); (case hk => rfl)) | ((with_reducible apply d_gtr); (case hx => rfl); (case hy => rfl); (case hk => rfl)) | ((with_reducible apply d_geq); (case hx => rfl); (case hy => rfl); (case hk => rfl)) | ((with_reducible apply d_eql); (case hx => rfl); (case hy => rfl); (case hk => rfl)) | ((with_reducible apply d_neq); (case hx => rfl); (case hy => rfl); (case hk => rfl))) <;> (intro h; first | (exfalso; omega) | simp)))
        | ((with_reducible refine d_fst ?_); simp [and_assoc])
        | ((with_reducible refine d_fst_gt ?hg ?_); (case hg => rfl))
        | ((with_reducible apply d_fst_gs); (case hg => rfl); (case hn => rfl); simp only [skipD, tdel, Nat.reduceEqDiff, reduceIte])
        | ((with_reducible refine d_main_gt ?hg ?_); (case hg => rfl))
        | ((with_reducible apply d_main_gs); (case hg => rfl); (case hn => rfl); all_goals (try simp only [skipD, tdel, Nat.reduceEqDiff, reduceIte]))
        | ((with_reducible refine d_call_gt ?hg ?_); (case hg => rfl))
        | ((with_reducible apply d_call_gs); (case hg => rfl); (case hn => rfl); all_goals (try simp only [skipD, tdel, Nat.reduceEqDiff, reduceIte]))
        | ((with_reducible refine d_main (fun ze => ?_) d_stop); simp)
        | ((with_reducible refine d_main (fun ze => ?_) ?_); simp)
        | ((with_reducible refine o_gh ?_); simp)
        | (with_reducible refine isR_mk ?_ (by simp))
        | ((with_reducible apply o_callp (n := 22)); (case hf => rfl); (case hp => exact hc);  simp)
        | (with_reducible refine And.intro (by omega) ?_)
        | (refine And.intro (ints_hd _) ?_)
        | (refine And.intro (sls_hd _) ?_)
        | (with_reducible refine fun (ze : Nat) => ?_)
        | ((with_reducible apply o_call); (case hf => rfl))
        | ((with_reducible apply o_callc); (case hf => rfl))
        | fail)
    all_goals (rw [if_neg (by omega)]; simp [Sl.fv])
  · rw [h2] at hc
    rw [hf]
    generalize (idxR a h0).1 = x at *
    clear h2 hf
    unfold Ar.av at *
    repeat' (first
        | ((with_reducible refine ap_id ?_); have zT := zS; (repeat (first | clear ze | revert ze)); exact zT.out)
        | ((with_reducible apply w_dseq); intro zS)
        | ((fail_if_success exact (Hd.mk trivial : Hd True)); (with_reducible refine Hd.mk ?_))
        | with_reducible refine w_seq fun K1 zn zx zr => ?_
        | with_reducible refine w_region fun K1 zq => ?_
        | with_reducible refine w_draw fun K1 zq => ?_
        | with_reducible refine w_block fun K1 yn yb yx yr => ?_
        | with_reducible refine w_skip ?_
        | with_reducible refine w_ret ?_
        | with_reducible refine w_exit ?_
        | ((with_reducible refine w_gh ?_); simp)
        | ((with_reducible refine zq _ _ ?_); clear zq)
        | ((with_reducible refine zn _ _ ?_); clear zn zx zr)
        | ((with_reducible refine zr _ _ ?_); clear zn zx zr)
        | ((with_reducible refine zx _ _ _ ?_); clear zn zx zr)
        | ((with_reducible refine yn _ _ ?_); clear yn yb yx yr)
        | ((with_reducible refine yb _ _ ?_); clear yn yb yx yr)
        | ((with_reducible refine yr _ _ ?_); clear yn yb yx yr)
        | ((with_reducible refine yx _ _ _ (by decide) ?_); clear yn yb yx yr)
        | ((with_reducible refine e_endn ?_); simp)
        | ((with_reducible refine e_endr ?_); simp)
        | with_reducible refine e_un ?_
        | with_reducible refine e_ux ?_
        | with_reducible refine e_ur ?_
        | ((with_reducible refine u_step ?_); (try simp))
        | ((with_reducible apply s_rangeF); (case hc => rfl); intro zel zrr)
        | ((with_reducible apply o_yld); (case hf => rfl))
        | ((with_reducible refine rf_go ?h1 ?h2 ?_); (case h1 => rfl); (case h2 => first | rfl | simp); simp [tputs])
        | ((with_reducible refine r_an ?h1 ?_); (case h1 => first | rfl | simp); simp)
        | ((with_reducible refine r_bn ?h1 ?_); (case h1 => first | rfl | simp); simp)
        | ((with_reducible refine r_bx ?h1 ?_); (case h1 => first | rfl | simp); simp)
        | ((with_reducible refine r_br ?h1 ?_); (case h1 => first | rfl | simp); simp)
        | ((with_reducible refine f_en ?h1 ?_); (case h1 => rfl); simp)
        | ((with_reducible refine f_ex ?h1 ?_); (case h1 => rfl); simp)
        | ((with_reducible refine f_er ?h1 ?_); (case h1 => rfl); simp)
        | with_reducible refine e_loopx ?_
        | with_reducible refine e_loopr ?_
        | ((with_reducible refine c_true ?hc ?_); (case hc => rfl))
        | ((with_reducible refine c_false ?hc ?_); (case hc => rfl))
        | (rw [sls_some _ _ (by omega)]; simp [Sl.fv])
        | (rw [sls_get _ _ (by omega)]; simp [Sl.fv])
        | (rw [ints_get _ _ (by omega)]; simp)
        | rw [i64_in _ (by omega)]
        | ((with_reducible refine o_bin ?_); ((first | ((with_reducible apply o_lss); (case hx => rfl); (case hy => rfl); (case hk => rfl)) | ((with_reducible apply o_leq); (case hx => rfl); (case hy => rfl); (case hk => rfl)) | ((with_reducible apply o_gtr); (case hx => rfl); (case hy => rfl); (case hk => rfl)) | ((with_reducible apply o_geq); (case hx => rfl); (case hy => rfl); (case hk => rfl)) | ((with_reducible apply o_eql); (case hx => rfl); (case hy => rfl); (case hk => rfl)) | ((with_reducible apply o_neq); (case hx => rfl); (case hy => rfl); (case hk => rfl))) <;> (intro h; first | (exfalso; omega) | simp)))
        | ((with_reducible apply o_eqnil); (case hx => rfl); all_goals (try intro h); all_goals simp)
        | ((with_reducible refine o_op fun _ _ => ?_); simp)
        | ((with_reducible refine o_gt ?hg ?_); (case hg => rfl))
        | ((with_reducible apply o_gs); (case hg => rfl); (case hn => rfl); simp only [skipD, tdel, Nat.reduceEqDiff, reduceIte])
        | ((with_reducible refine o_cgt ?hg ?_); (case hg => rfl))
        | ((with_reducible apply o_cgs); (case hg => rfl); (case hn => rfl); simp only [skipD, tdel, Nat.reduceEqDiff, reduceIte])
        | with_reducible refine o_nil ?_
        | with_reducible exact d_stop
        | ((with_reducible refine d_done ?_); (try simp))
        | ((with_reducible refine d_bin ?_); ((first | ((with_reducible apply d_lss); (case hx => rfl); (case hy => rfl); (case hk => rfl)) | ((with_reducible apply d_leq); (case hx => rfl); (case hy => rfl); (case hk => rfl)) | ((with_reducible apply d_gtr); (case hx => rfl); (case hy => rfl); (case hk => rfl)) | ((with_reducible apply d_geq); (case hx => rfl); (case hy => rfl); (case hk => rfl)) | ((with_reducible apply d_eql); (case hx => rfl); (case hy => rfl); (case hk => rfl)) | ((with_reducible apply d_neq); (case hx => rfl); (case hy => rfl); (case hk => rfl))) <;> (intro h; first | (exfalso; omega) | simp)))
        | ((with_reducible refine d_fst ?_); simp [and_assoc])
        | ((with_reducible refine d_fst_gt ?hg ?_); (case hg => rfl))
        | ((with_reducible apply d_fst_gs); (case hg => rfl); (case hn => rfl); simp only [skipD, tdel, Nat.reduceEqDiff, reduceIte])
        | ((with_reducible refine d_main_gt ?hg ?_); (case hg => rfl))
        | ((with_reducible apply d_main_gs); (case hg => rfl); (case hn => rfl); all_goals (try simp only [skipD, tdel, Nat.reduceEqDiff, reduceIte]))
        | ((with_reducible refine d_call_gt ?hg ?_); (case hg => rfl))
        | ((with_reducible apply d_call_gs); (case hg => rfl); (case hn => rfl); all_goals (try simp only [skipD, tdel, Nat.reduceEqDiff, reduceIte]))
        | ((with_reducible refine d_main (fun ze => ?_) d_stop); simp)
        | ((with_reducible refine d_main (fun ze => ?_) ?_); simp)
        | ((with_reducible refine o_gh ?_); simp)
        | (with_reducible refine isR_mk ?_ (by simp))
        | ((with_reducible apply o_callp (n := 22)); (case hf => rfl); (case hp => exact hc);  simp)
        | (with_reducible refine And.intro (by omega) ?_)
        | (refine And.intro (ints_hd _) ?_)
        | (refine And.intro (sls_hd _) ?_)
        | (with_reducible refine fun (ze : Nat) => ?_)
        | ((with_reducible apply o_call); (case hf => rfl))
        | ((with_reducible apply o_callc); (case hf => rfl))
        | fail)
    all_goals simp [Sl.fv]

def ac_arena_Release : AC := (.seq (.region [.op (some 2) none false (.box (.t 0)),
    .op (some 4) none false (.alloc [(.sl (some true) (some 0) []), (.sl (some true) (some 0) []), (.int .i64 0)]),
    .op (some 5) none false (.mv (.c (.bool false))),
    .gh (.keep [1, 2, 4])]) <|
  (.seq (.region [.op (some 10) none false (.load true 3 (.t 2)),
    .op (some 11) none false (.mv (.t 1)),
    .call (some 12) none (.c (.func 22)) [(.t 10), (.t 11)],
    .op (some 9) none false (.mv (.t 12)),
    .op (some 13) none false (.extract (.t 9) 0),
    .op (some 14) none false (.extract (.t 9) 1),
    .op (some 6) none false (.mv (.t 13)),
    .op (some 7) none false (.mv (.t 14)),
    .gh (.keep [2, 4, 6, 7])]) <|
  (.seq (.seq (.region [.op (some 15) none false (.mv (.t 7)),
    .op (some 16) none false (.not (.t 15)),
    .op (some 17) none false (.mv (.t 16)),
    .op (some 18) (some (17, false)) false (.fieldAddr 0 (.t 2)),
    .op (some 19) (some (17, false)) false (.load false 1 (.t 18)),
    .op (some 20) (some (17, false)) false (.mv (.t 6)),
    .op (some 21) (some (17, false)) false (.idxA 4 (.t 19) (.t 20)),
    .op (some 22) (some (17, false)) false (.fieldAddr 0 (.t 21)),
    .op (some 23) (some (17, false)) false (.load false 1 (.t 22)),
    .op (some 24) (some (17, false)) false (.bin .geq (.t 23) (.c (.int .i64 1099511627776))),
    .op (some 25) none false (.pick (.t 17) (.c (.bool true)) (.t 24)),
    .gh (.keep [2, 4, 6, 25])]) <|
  (.cond (.t 25)
    (.seq (.region [.op (some 26) none false (.load true 3 (.t 2)),
      .op none none false (.store 3 (.t 4) (.t 26)),
      .op (some 5) none false (.mv (.c (.bool false))),
      .gh (.keep [4, 5])]) <|
    .ret)
    .skip)) <|
  (.seq (.region [.op (some 27) none false (.load true 3 (.t 2)),
    .op (some 28) none false (.mv (.t 6)),
    .call (some 29) none (.c (.func 18)) [(.t 27), (.t 28), (.c (.func 23))],
    .op (some 8) none false (.alloc [(.sl (some true) (some 0) []), (.sl (some true) (some 0) []), (.int .i64 0)]),
    .op none none false (.store 3 (.t 8) (.t 29)),
    .gh (.keep [2, 4, 6, 8])]) <|
  (.seq (.region [.op (some 30) none false (.fieldAddr 1 (.t 2)),
    .op (some 31) none false (.load false 1 (.t 30)),
    .call (some 32) none (.c (.func 20)) [(.t 31)],
    .op (some 33) none false (.mv (.t 6)),
    .op (some 34) none false (.buildSl 1 1 [(.int .i64 0)] [(0, (.t 33))]),
    .op (some 35) none false (.append 1 8 (.t 32) (.t 34)),
    .op (some 36) none false (.fieldAddr 1 (.t 8)),
    .op none none false (.store 1 (.t 36) (.t 35)),
    .gh (.keep [4, 8])]) <|
  (.seq (.region [.gh (.frz 135), .op (some 37) none false (.load true 3 (.t 8)),
    .op none none false (.store 3 (.t 4) (.t 37)),
    .op (some 5) none false (.mv (.c (.bool true))),
    .gh (.keep [4, 5])]) <|
  .ret))))))
theorem tr_arena_Release : trCode Try.prog Try.f9.ntmps (Try.f9.body.getD .skip) = some ac_arena_Release.erase := by kernel_rfl
theorem fn_arena_Release : Try.prog.funcs[9]? = some Try.f9 := by kernel_rfl
theorem bd_arena_Release : Try.f9.body = some (Try.f9.body.getD .skip) := by kernel_rfl
theorem rs_arena_Release : Try.f9.results.toList.mapM (trRes Try.prog) = some [.cell 4 true 3, .tmp 5] := by kernel_rfl
theorem go_arena_Release {Y : YT} {kb : Nat} {args : List AV} {ob : Ob} {K : AV → Ob → Prop} (ks : Option (List Nat)) (hl : args.length ≤ 38) (h : AP Try.prog Y kb ac_arena_Release (endK [.cell 4 true 3, .tmp 5] ks K) (mkTm 0 args) ob) : FnA Try.prog Y 9 args ob K :=
  FnA_of_awp hm fn_arena_Release (by kernel_rfl) bd_arena_Release tr_arena_Release rs_arena_Release ks hl h.out
set_option maxHeartbeats 4000000 in
theorem c_arena_Release (a : Ar) (h0 : Int) (hok : ArOK a) (hh : a.sl ≠ []) : PureA Try.prog 9 [a.av, .fv (.int .i64 h0)] (res2 (relR a h0)) := by
  refine ⟨fun Y => ?_⟩
  refine go_arena_Release (kb := 100) (some []) (by simp) ?_
  unfold ac_arena_Release
  have hs := hok.hs
  have hil := hok.hi
  have hc := c_arena_index a h0 hs hh
  unfold relR
  rcases idxR_spec a h0 with ⟨h2, i, hf, h1, hi⟩ | ⟨h2, hf⟩
  · have hg := hok.hg i hi
    have hm := c_modifyR a i hi hg hs
    rw [h2, h1] at hc
    rw [hf]
    clear h1 h2 hf
    unfold Ar.av at *
    repeat' (first
        | ((with_reducible refine ap_id ?_); have zT := zS; (repeat (first | clear ze | revert ze)); exact zT.out)
        | ((with_reducible apply w_dseq); intro zS)
        | ((fail_if_success exact (Hd.mk trivial : Hd True)); (with_reducible refine Hd.mk ?_))
        | with_reducible refine w_seq fun K1 zn zx zr => ?_
        | with_reducible refine w_region fun K1 zq => ?_
        | with_reducible refine w_draw fun K1 zq => ?_
        | with_reducible refine w_block fun K1 yn yb yx yr => ?_
        | with_reducible refine w_skip ?_
        | with_reducible refine w_ret ?_
        | with_reducible refine w_exit ?_
        | ((with_reducible refine w_gh ?_); simp)
        | ((with_reducible refine zq _ _ ?_); clear zq)
        | ((with_reducible refine zn _ _ ?_); clear zn zx zr)
        | ((with_reducible refine zr _ _ ?_); clear zn zx zr)
        | ((with_reducible refine zx _ _ _ ?_); clear zn zx zr)
        | ((with_reducible refine yn _ _ ?_); clear yn yb yx yr)
        | ((with_reducible refine yb _ _ ?_); clear yn yb yx yr)
        | ((with_reducible refine yr _ _ ?_); clear yn yb yx yr)
        | ((with_reducible refine yx _ _ _ (by decide) ?_); clear yn yb yx yr)
        | ((with_reducible refine e_endn ?_); simp)
        | ((with_reducible refine e_endr ?_); simp)
        | with_reducible refine e_un ?_
        | with_reducible refine e_ux ?_
        | with_reducible refine e_ur ?_
        | ((with_reducible refine u_step ?_); (try simp))
        | ((with_reducible apply s_rangeF); (case hc => rfl); intro zel zrr)
        | ((with_reducible apply o_yld); (case hf => rfl))
        | ((with_reducible refine rf_go ?h1 ?h2 ?_); (case h1 => rfl); (case h2 => first | rfl | simp); simp [tputs])
        | ((with_reducible refine r_an ?h1 ?_); (case h1 => first | rfl | simp); simp)
        | ((with_reducible refine r_bn ?h1 ?_); (case h1 => first | rfl | simp); simp)
        | ((with_reducible refine r_bx ?h1 ?_); (case h1 => first | rfl | simp); simp)
        | ((with_reducible refine r_br ?h1 ?_); (case h1 => first | rfl | simp); simp)
        | ((with_reducible refine f_en ?h1 ?_); (case h1 => rfl); simp)
        | ((with_reducible refine f_ex ?h1 ?_); (case h1 => rfl); simp)
        | ((with_reducible refine f_er ?h1 ?_); (case h1 => rfl); simp)
        | with_reducible refine e_loopx ?_
        | with_reducible refine e_loopr ?_
        | ((with_reducible refine c_true ?hc ?_); (case hc => rfl))
        | ((with_reducible refine c_false ?hc ?_); (case hc => rfl))
        | (rw [sls_some _ _ (by omega)]; simp [Sl.fv])
        | (rw [sls_get _ _ (by omega)]; simp [Sl.fv])
        | (rw [ints_get _ _ (by omega)]; simp)
        | rw [i64_in _ (by omega)]
        | ((with_reducible refine o_bin ?_); ((first | ((with_reducible apply o_lss); (case hx => rfl); (case hy => rfl); (case hk => rfl)) | ((with_reducible apply o_leq); (case hx => rfl); (case hy => rfl); (case hk => rfl)) | ((with_reducible apply o_gtr); (case hx => rfl); (case hy => rfl); (case hk => rfl)) | ((with_reducible apply o_geq); (case hx => rfl); (case hy => rfl); (case hk => rfl)) | ((with_reducible apply o_eql); (case hx => rfl); (case hy => rfl); (case hk => rfl)) | ((with_reducible apply o_neq); (case hx => rfl); (case hy => rfl); (case hk => rfl))) <;> (intro h; first | (exfalso; omega) | simp)))
        | ((with_reducible apply o_eqnil); (case hx => rfl); all_goals (try intro h); all_goals simp)
        | ((with_reducible refine o_op fun _ _ => ?_); simp)
        | ((with_reducible refine o_gt ?hg ?_); (case hg => rfl))
        | ((with_reducible apply o_gs); (case hg => rfl); (case hn => rfl); simp only [skipD, tdel, Nat.reduceEqDiff, reduceIte])
        | ((with_reducible refine o_cgt ?hg ?_); (case hg => rfl))
        | ((with_reducible apply o_cgs); (case hg => rfl); (case hn => rfl); simp only [skipD, tdel, Nat.reduceEqDiff, reduceIte])
        | with_reducible refine o_nil ?_
        | with_reducible exact d_stop
        | ((with_reducible refine d_done ?_); (try simp))
        | ((with_reducible refine d_bin ?_); ((first | ((with_reducible apply d_lss); (case hx => rfl); (case hy => rfl); (case hk => rfl)) | ((with_reducible apply d_leq); (case hx => rfl); (case hy => rfl); (case hk => rfl)) | ((with_reducible apply d_gtr); (case hx => rfl); (case hy => rfl); (case hk => rfl)) | ((with_reducible apply d_geq); (case hx => rfl); (case hy => rfl); (case hk => rfl)) | ((with_reducible apply d_eql); (case hx => rfl); (case hy => rfl); (case hk => rfl)) | ((with_reducible apply d_neq); (case hx => rfl); (case hy => rfl); (case hk => rfl))) <;> (intro h; first | (exfalso; omega) | simp)))
        | ((with_reducible refine d_fst ?_); simp [and_assoc])
        | ((with_reducible refine d_fst_gt ?hg ?_); (case hg => rfl))
        | ((with_reducible apply d_fst_gs); (case hg => rfl); (case hn => rfl); simp only [skipD, tdel, Nat.reduceEqDiff, reduceIte])
        | ((with_reducible refine d_main_gt ?hg ?_); (case hg => rfl))
        | ((with_reducible apply d_main_gs); (case hg => rfl); (case hn => rfl); all_goals (try simp only [skipD, tdel, Nat.reduceEqDiff, reduceIte]))
        | ((with_reducible refine d_call_gt ?hg ?_); (case hg => rfl))
        | ((with_reducible apply d_call_gs); (case hg => rfl); (case hn => rfl); all_goals (try simp only [skipD, tdel, Nat.reduceEqDiff, reduceIte]))
        | ((with_reducible refine d_main (fun ze => ?_) d_stop); simp)
        | ((with_reducible refine d_main (fun ze => ?_) ?_); simp)
        | ((with_reducible refine o_gh ?_); simp)
        | (with_reducible refine isR_mk ?_ (by simp))
        | ((with_reducible apply o_callp (n := 22)); (case hf => rfl); (case hp => exact hc);  simp)
        | ((with_reducible apply o_callp (n := 18)); (case hf => rfl); (case hp => exact hm);  simp)
        | ((with_reducible apply o_call (n := 20)); (case hf => rfl); (refine (c_cloneIo a.idle (by omega) Y).frame0.mono ?_); (rintro r ob1 ⟨ob2, (⟨hnil, rfl, rfl⟩ | ⟨e, rfl, rfl⟩), rfl⟩ <;> first | (exfalso; omega) | simp))
        | (with_reducible refine And.intro (by omega) ?_)
        | (refine And.intro (ints_hd _) ?_)
        | (refine And.intro (sls_hd _) ?_)
        | (with_reducible refine fun (ze : Nat) => ?_)
        | ((with_reducible apply o_call); (case hf => rfl))
        | ((with_reducible apply o_callc); (case hf => rfl))
        | fail)
    all_goals rw [if_neg (show ¬ ((i : Nat) : Int) < 0 by omega)]
    · rw [if_pos (by simpa using h)]; simp [res2, Ar.av]
    · rw [if_neg (by simpa using h)]
      have : a.idle = [] := List.length_eq_zero_iff.1 hnil
      simp [res2, Ar.av, this, ints]
    · rw [if_neg (by simpa using h)]; simp [res2, Ar.av, ints_app]; rfl
  · rw [h2] at hc
    rw [hf]
    generalize (idxR a h0).1 = x at *
    clear h2 hf
    unfold Ar.av at *
    repeat' (first
        | ((with_reducible refine ap_id ?_); have zT := zS; (repeat (first | clear ze | revert ze)); exact zT.out)
        | ((with_reducible apply w_dseq); intro zS)
        | ((fail_if_success exact (Hd.mk trivial : Hd True)); (with_reducible refine Hd.mk ?_))
        | with_reducible refine w_seq fun K1 zn zx zr => ?_
        | with_reducible refine w_region fun K1 zq => ?_
        | with_reducible refine w_draw fun K1 zq => ?_
        | with_reducible refine w_block fun K1 yn yb yx yr => ?_
        | with_reducible refine w_skip ?_
        | with_reducible refine w_ret ?_
        | with_reducible refine w_exit ?_
        | ((with_reducible refine w_gh ?_); simp)
        | ((with_reducible refine zq _ _ ?_); clear zq)
        | ((with_reducible refine zn _ _ ?_); clear zn zx zr)
        | ((with_reducible refine zr _ _ ?_); clear zn zx zr)
        | ((with_reducible refine zx _ _ _ ?_); clear zn zx zr)
        | ((with_reducible refine yn _ _ ?_); clear yn yb yx yr)
        | ((with_reducible refine yb _ _ ?_); clear yn yb yx yr)
        | ((with_reducible refine yr _ _ ?_); clear yn yb yx yr)
        | ((with_reducible refine yx _ _ _ (by decide) ?_); clear yn yb yx yr)
        | ((with_reducible refine e_endn ?_); simp)
        | ((with_reducible refine e_endr ?_); simp)
        | with_reducible refine e_un ?_
        | with_reducible refine e_ux ?_
        | with_reducible refine e_ur ?_
        | ((with_reducible refine u_step ?_); (try simp))
        | ((with_reducible apply s_rangeF); (case hc => rfl); intro zel zrr)
        | ((with_reducible apply o_yld); (case hf => rfl))
        | ((with_reducible refine rf_go ?h1 ?h2 ?_); (case h1 => rfl); (case h2 => first | rfl | simp); simp [tputs])
        | ((with_reducible refine r_an ?h1 ?_); (case h1 => first | rfl | simp); simp)
        | ((with_reducible refine r_bn ?h1 ?_); (case h1 => first | rfl | simp); simp)
        | ((with_reducible refine r_bx ?h1 ?_); (case h1 => first | rfl | simp); simp)
        | ((with_reducible refine r_br ?h1 ?_); (case h1 => first | rfl | simp); simp)
        | ((with_reducible refine f_en ?h1 ?_); (case h1 => rfl); simp)
        | ((with_reducible refine f_ex ?h1 ?_); (case h1 => rfl); simp)
        | ((with_reducible refine f_er ?h1 ?_); (case h1 => rfl); simp)
        | with_reducible refine e_loopx ?_
        | with_reducible refine e_loopr ?_
        | ((with_reducible refine c_true ?hc ?_); (case hc => rfl))
        | ((with_reducible refine c_false ?hc ?_); (case hc => rfl))
        | (rw [sls_some _ _ (by omega)]; simp [Sl.fv])
        | (rw [sls_get _ _ (by omega)]; simp [Sl.fv])
        | (rw [ints_get _ _ (by omega)]; simp)
        | rw [i64_in _ (by omega)]
        | ((with_reducible refine o_bin ?_); ((first | ((with_reducible apply o_lss); (case hx => rfl); (case hy => rfl); (case hk => rfl)) | ((with_reducible apply o_leq); (case hx => rfl); (case hy => rfl); (case hk => rfl)) | ((with_reducible apply o_gtr); (case hx => rfl); (case hy => rfl); (case hk => rfl)) | ((with_reducible apply o_geq); (case hx => rfl); (case hy => rfl); (case hk => rfl)) | ((with_reducible apply o_eql); (case hx => rfl); (case hy => rfl); (case hk => rfl)) | ((with_reducible apply o_neq); (case hx => rfl); (case hy => rfl); (case hk => rfl))) <;> (intro h; first | (exfalso; omega) | simp)))
        | ((with_reducible apply o_eqnil); (case hx => rfl); all_goals (try intro h); all_goals simp)
        | ((with_reducible refine o_op fun _ _ => ?_); simp)
        | ((with_reducible refine o_gt ?hg ?_); (case hg => rfl))
        | ((with_reducible apply o_gs); (case hg => rfl); (case hn => rfl); simp only [skipD, tdel, Nat.reduceEqDiff, reduceIte])
        | ((with_reducible refine o_cgt ?hg ?_); (case hg => rfl))
        | ((with_reducible apply o_cgs); (case hg => rfl); (case hn => rfl); simp only [skipD, tdel, Nat.reduceEqDiff, reduceIte])
        | with_reducible refine o_nil ?_
        | with_reducible exact d_stop
        | ((with_reducible refine d_done ?_); (try simp))
        | ((with_reducible refine d_bin ?_); ((first | ((with_reducible apply d_lss); (case hx => rfl); (case hy => rfl); (case hk => rfl)) | ((with_reducible apply d_leq); (case hx => rfl); (case hy => rfl); (case hk => rfl)) | ((with_reducible apply d_gtr); (case hx => rfl); (case hy => rfl); (case hk => rfl)) | ((with_reducible apply d_geq); (case hx => rfl); (case hy => rfl); (case hk => rfl)) | ((with_reducible apply d_eql); (case hx => rfl); (case hy => rfl); (case hk => rfl)) | ((with_reducible apply d_neq); (case hx => rfl); (case hy => rfl); (case hk => rfl))) <;> (intro h; first | (exfalso; omega) | simp)))
        | ((with_reducible refine d_fst ?_); simp [and_assoc])
        | ((with_reducible refine d_fst_gt ?hg ?_); (case hg => rfl))
        | ((with_reducible apply d_fst_gs); (case hg => rfl); (case hn => rfl); simp only [skipD, tdel, Nat.reduceEqDiff, reduceIte])
        | ((with_reducible refine d_main_gt ?hg ?_); (case hg => rfl))
        | ((with_reducible apply d_main_gs); (case hg => rfl); (case hn => rfl); all_goals (try simp only [skipD, tdel, Nat.reduceEqDiff, reduceIte]))
        | ((with_reducible refine d_call_gt ?hg ?_); (case hg => rfl))
        | ((with_reducible apply d_call_gs); (case hg => rfl); (case hn => rfl); all_goals (try simp only [skipD, tdel, Nat.reduceEqDiff, reduceIte]))
        | ((with_reducible refine d_main (fun ze => ?_) d_stop); simp)
        | ((with_reducible refine d_main (fun ze => ?_) ?_); simp)
        | ((with_reducible refine o_gh ?_); simp)
        | (with_reducible refine isR_mk ?_ (by simp))
        | ((with_reducible apply o_callp (n := 22)); (case hf => rfl); (case hp => exact hc);  simp)
        | (with_reducible refine And.intro (by omega) ?_)
        | (refine And.intro (ints_hd _) ?_)
        | (refine And.intro (sls_hd _) ?_)
        | (with_reducible refine fun (ze : Nat) => ?_)
        | ((with_reducible apply o_call); (case hf => rfl))
        | ((with_reducible apply o_callc); (case hf => rfl))
        | fail)
    all_goals simp [res2, Ar.av]

def ac_arena_Alloc : AC := (.seq (.region [.op (some 2) none false (.box (.t 0)),
    .op (some 3) none false (.box (.t 1)),
    .op (some 4) none false (.alloc [(.sl (some true) (some 0) []), (.sl (some true) (some 0) []), (.int .i64 0)]),
    .op (some 5) none false (.mv (.c (.int .i64 0))),
    .op (some 6) none false (.mv (.c (.int .i64 0))),
    .gh (.keep [2, 3, 4])]) <|
  (.seq (.region [.op (some 11) none false (.fieldAddr 1 (.t 2)),
    .op (some 12) none false (.load false 1 (.t 11)),
    .op (some 13) none false (.len false (.t 12)),
    .op (some 7) none false (.mv (.t 13)),
    .gh (.keep [2, 3, 4, 7])]) <|
  (.seq (.block 0 <|
    (.seq (.region [.op (some 15) none false (.load false 1 (.t 3)),
      .call (some 16) none (.c (.func 17)) [(.t 15), (.c (.int .i64 0)), (.c (.int .i64 1152921504606846976))],
      .op (some 17) none false (.not (.t 16)),
      .op (some 14) none false (.mv (.t 17)),
      .gh (.keep [2, 3, 4, 7, 14])]) <|
    (.cond (.t 14)
      (.seq (.region [.op (some 18) none false (.load true 3 (.t 2)),
        .op none none false (.store 3 (.t 4) (.t 18)),
        .op (some 5) none false (.mv (.c (.int .i64 0))),
        .op (some 6) none false (.mv (.c (.int .i64 1))),
        .gh (.keep [4, 5, 6])]) <|
      .ret)
      (.seq (.region [.op (some 20) none false (.mv (.t 7)),
        .op (some 21) none false (.bin .eql (.t 20) (.c (.int .i64 0))),
        .op (some 22) none false (.mv (.t 21)),
        .op (some 23) (some (22, false)) false (.fieldAddr 2 (.t 2)),
        .op (some 24) (some (22, false)) false (.load false 1 (.t 23)),
        .op (some 25) (some (22, false)) false (.bin .geq (.t 24) (.c (.int .i64 1099511627776))),
        .op (some 26) none false (.pick (.t 22) (.c (.bool true)) (.t 25)),
        .op (some 19) none false (.mv (.t 26)),
        .gh (.keep [2, 3, 4, 7, 19])]) <|
      (.cond (.t 19)
        (.seq (.region [.op (some 27) none false (.load true 3 (.t 2)),
          .op none none false (.store 3 (.t 4) (.t 27)),
          .op (some 5) none false (.mv (.c (.int .i64 0))),
          .op (some 6) none false (.mv (.c (.int .i64 10))),
          .gh (.keep [4, 5, 6])]) <|
        .ret)
        .skip))))) <|
  (.seq (.region [.op (some 28) none false (.fieldAddr 1 (.t 2)),
    .op (some 29) none false (.load false 1 (.t 28)),
    .op (some 30) none false (.mv (.t 7)),
    .op (some 31) none false (.bin .sub (.t 30) (.c (.int .i64 1))),
    .op (some 32) none false (.idxA 1 (.t 29) (.t 31)),
    .op (some 33) none false (.load false 1 (.t 32)),
    .op (some 8) none false (.mv (.t 33)),
    .gh (.keep [2, 3, 4, 7, 8])]) <|
  (.seq (.region [.op (some 34) none false (.fieldAddr 2 (.t 2)),
    .op (some 35) none false (.load false 1 (.t 34)),
    .op (some 9) none false (.alloc [(.int .i64 0)]),
    .op none none false (.store 1 (.t 9) (.t 35)),
    .gh (.keep [2, 3, 4, 7, 8, 9])]) <|
  (.seq (.region [.op (some 36) none false (.load true 3 (.t 2)),
    .op (some 37) none false (.mv (.t 8)),
    .op (some 38) none false (.mkFunc 19 [] [(.t 3), (.t 9)]),
    .call (some 39) none (.c (.func 18)) [(.t 36), (.t 37), (.t 38)],
    .op (some 10) none false (.alloc [(.sl (some true) (some 0) []), (.sl (some true) (some 0) []), (.int .i64 0)]),
    .op none none false (.store 3 (.t 10) (.t 39)),
    .gh (.keep [2, 4, 7, 8, 10])]) <|
  (.seq (.region [.op (some 40) none false (.fieldAddr 1 (.t 2)),
    .op (some 41) none false (.load false 1 (.t 40)),
    .op (some 42) none false (.mv (.t 7)),
    .op (some 43) none false (.bin .sub (.t 42) (.c (.int .i64 1))),
    .op (some 44) none false (.slice 1 (.t 41) none (some (.t 43)) none),
    .call (some 45) none (.c (.func 20)) [(.t 44)],
    .op (some 46) none false (.fieldAddr 1 (.t 10)),
    .op none none false (.store 1 (.t 46) (.t 45)),
    .gh (.keep [2, 4, 8, 10])]) <|
  (.seq (.region [.op (some 47) none false (.fieldAddr 2 (.t 10)),
    .op (some 48) none false (.load false 1 (.t 47)),
    .op (some 49) none false (.bin .add (.t 48) (.c (.int .i64 1))),
    .op (some 50) none false (.fieldAddr 2 (.t 10)),
    .op none none false (.store 1 (.t 50) (.t 49)),
    .gh (.keep [2, 4, 8, 10])]) <|
  (.seq (.draw <|
    .fst (.op (some 51) none false (.load true 3 (.t 10))) <|
    .fst (.op (some 52) none false (.mv (.t 8))) <|
    .fst (.op (some 53) none false (.fieldAddr 0 (.t 2))) <|
    .fst (.op (some 54) none false (.load false 1 (.t 53))) <|
    .fst (.op (some 55) none false (.mv (.t 8))) <|
    .fst (.op (some 56) none false (.idxA 4 (.t 54) (.t 55))) <|
    .fst (.op (some 57) none false (.fieldAddr 0 (.t 56))) <|
    .fst (.op (some 58) none false (.load false 1 (.t 57))) <|
    .main1 [(.t 10)] (.call (some 59) none (.c (.func 21)) [(.t 52), (.t 58)]) <|
    .main1 [] (.op none none false (.store 3 (.t 4) (.t 51))) <|
    .fst (.op (some 5) none false (.mv (.t 59))) <|
    .fst (.op (some 6) none false (.mv (.c (.int .i64 0)))) <|
    .done) <|
  (.gh (.keep [4, 5, 6]) .ret))))))))))
theorem tr_arena_Alloc : trCode Try.prog Try.f8.ntmps (Try.f8.body.getD .skip) = some ac_arena_Alloc.erase := by kernel_rfl
theorem fn_arena_Alloc : Try.prog.funcs[8]? = some Try.f8 := by kernel_rfl
theorem bd_arena_Alloc : Try.f8.body = some (Try.f8.body.getD .skip) := by kernel_rfl
theorem rs_arena_Alloc : Try.f8.results.toList.mapM (trRes Try.prog) = some [.cell 4 true 3, .tmp 5, .tmp 6] := by kernel_rfl
theorem go_arena_Alloc {Y : YT} {kb : Nat} {args : List AV} {ob : Ob} {K : AV → Ob → Prop} (ks : Option (List Nat)) (hl : args.length ≤ 60) (h : AP Try.prog Y kb ac_arena_Alloc (endK [.cell 4 true 3, .tmp 5, .tmp 6] ks K) (mkTm 0 args) ob) : FnA Try.prog Y 8 args ob K :=
  FnA_of_awp hm fn_arena_Alloc (by kernel_rfl) bd_arena_Alloc tr_arena_Alloc rs_arena_Alloc ks hl h.out
set_option maxHeartbeats 4000000 in
theorem c_arena_Alloc (a : Ar) (time : Int) (hok : ArOK a) : PureA Try.prog 8 [a.av, .fv (.int .i64 time)] (res3 (allocR a time)) := by
  refine ⟨fun Y => ?_⟩
  refine go_arena_Alloc (kb := 100) (some []) (by simp) ?_
  unfold ac_arena_Alloc
  unfold Ar.av
  have hs := hok.hs
  have hi := hok.hi
  have hx := hok.hx
  have hlast : ∀ h : a.idle.length ≠ 0, a.idle[(a.idle.length - 1)]?.getD 0 = (lastI a : Int) ∧ lastI a < a.sl.length := fun h => by
    have := hok.hin (a.idle.length - 1) (by omega)
    unfold lastI
    omega
  by_cases hne : a.idle.length = 0
  · repeat' (first
     | ((with_reducible refine ap_id ?_); have zT := zS; (repeat (first | clear ze | revert ze)); exact zT.out)
     | ((with_reducible apply w_dseq); intro zS)
     | ((fail_if_success exact (Hd.mk trivial : Hd True)); (with_reducible refine Hd.mk ?_))
     | with_reducible refine w_seq fun K1 zn zx zr => ?_
     | with_reducible refine w_region fun K1 zq => ?_
     | with_reducible refine w_draw fun K1 zq => ?_
     | with_reducible refine w_block fun K1 yn yb yx yr => ?_
     | with_reducible refine w_skip ?_
     | with_reducible refine w_ret ?_
     | with_reducible refine w_exit ?_
     | ((with_reducible refine w_gh ?_); simp)
     | ((with_reducible refine zq _ _ ?_); clear zq)
     | ((with_reducible refine zn _ _ ?_); clear zn zx zr)
     | ((with_reducible refine zr _ _ ?_); clear zn zx zr)
     | ((with_reducible refine zx _ _ _ ?_); clear zn zx zr)
     | ((with_reducible refine yn _ _ ?_); clear yn yb yx yr)
     | ((with_reducible refine yb _ _ ?_); clear yn yb yx yr)
     | ((with_reducible refine yr _ _ ?_); clear yn yb yx yr)
     | ((with_reducible refine yx _ _ _ (by decide) ?_); clear yn yb yx yr)
     | ((with_reducible refine e_endn ?_); simp)
     | ((with_reducible refine e_endr ?_); simp)
     | with_reducible refine e_un ?_
     | with_reducible refine e_ux ?_
     | with_reducible refine e_ur ?_
     | ((with_reducible refine u_step ?_); (try simp))
     | ((with_reducible apply s_rangeF); (case hc => rfl); intro zel zrr)
     | ((with_reducible apply o_yld); (case hf => rfl))
     | ((with_reducible refine rf_go ?h1 ?h2 ?_); (case h1 => rfl); (case h2 => first | rfl | simp); simp [tputs])
     | ((with_reducible refine r_an ?h1 ?_); (case h1 => first | rfl | simp); simp)
     | ((with_reducible refine r_bn ?h1 ?_); (case h1 => first | rfl | simp); simp)
     | ((with_reducible refine r_bx ?h1 ?_); (case h1 => first | rfl | simp); simp)
     | ((with_reducible refine r_br ?h1 ?_); (case h1 => first | rfl | simp); simp)
     | ((with_reducible refine f_en ?h1 ?_); (case h1 => rfl); simp)
     | ((with_reducible refine f_ex ?h1 ?_); (case h1 => rfl); simp)
     | ((with_reducible refine f_er ?h1 ?_); (case h1 => rfl); simp)
     | with_reducible refine e_loopx ?_
     | with_reducible refine e_loopr ?_
     | ((with_reducible refine c_true ?hc ?_); (case hc => rfl))
     | ((with_reducible refine c_false ?hc ?_); (case hc => rfl))
     | (rw [sls_some _ _ (by omega)]; simp [Sl.fv])
     | (rw [sls_get _ _ (by omega)]; simp [Sl.fv])
     | (rw [ints_get _ _ (by omega)]; simp)
     | rw [i64_in _ (by omega)]
     | ((with_reducible refine o_bin ?_); ((first | ((with_reducible apply o_lss); (case hx => rfl); (case hy => rfl); (case hk => rfl)) | ((with_reducible apply o_leq); (case hx => rfl); (case hy => rfl); (case hk => rfl)) | ((with_reducible apply o_gtr); (case hx => rfl); (case hy => rfl); (case hk => rfl)) | ((with_reducible apply o_geq); (case hx => rfl); (case hy => rfl); (case hk => rfl)) | ((with_reducible apply o_eql); (case hx => rfl); (case hy => rfl); (case hk => rfl)) | ((with_reducible apply o_neq); (case hx => rfl); (case hy => rfl); (case hk => rfl))) <;> (intro h; first | (exfalso; omega) | simp)))
     | ((with_reducible apply o_eqnil); (case hx => rfl); all_goals (try intro h); all_goals simp)
     | ((with_reducible refine o_op fun _ _ => ?_); simp)
     | ((with_reducible refine o_gt ?hg ?_); (case hg => rfl))
     | ((with_reducible apply o_gs); (case hg => rfl); (case hn => rfl); simp only [skipD, tdel, Nat.reduceEqDiff, reduceIte])
     | ((with_reducible refine o_cgt ?hg ?_); (case hg => rfl))
     | ((with_reducible apply o_cgs); (case hg => rfl); (case hn => rfl); simp only [skipD, tdel, Nat.reduceEqDiff, reduceIte])
     | with_reducible refine o_nil ?_
     | with_reducible exact d_stop
     | ((with_reducible refine d_done ?_); (try simp))
     | ((with_reducible refine d_bin ?_); ((first | ((with_reducible apply d_lss); (case hx => rfl); (case hy => rfl); (case hk => rfl)) | ((with_reducible apply d_leq); (case hx => rfl); (case hy => rfl); (case hk => rfl)) | ((with_reducible apply d_gtr); (case hx => rfl); (case hy => rfl); (case hk => rfl)) | ((with_reducible apply d_geq); (case hx => rfl); (case hy => rfl); (case hk => rfl)) | ((with_reducible apply d_eql); (case hx => rfl); (case hy => rfl); (case hk => rfl)) | ((with_reducible apply d_neq); (case hx => rfl); (case hy => rfl); (case hk => rfl))) <;> (intro h; first | (exfalso; omega) | simp)))
     | ((with_reducible refine d_fst ?_); simp [and_assoc])
     | ((with_reducible refine d_fst_gt ?hg ?_); (case hg => rfl))
     | ((with_reducible apply d_fst_gs); (case hg => rfl); (case hn => rfl); simp only [skipD, tdel, Nat.reduceEqDiff, reduceIte])
     | ((with_reducible refine d_main_gt ?hg ?_); (case hg => rfl))
     | ((with_reducible apply d_main_gs); (case hg => rfl); (case hn => rfl); all_goals (try simp only [skipD, tdel, Nat.reduceEqDiff, reduceIte]))
     | ((with_reducible refine d_call_gt ?hg ?_); (case hg => rfl))
     | ((with_reducible apply d_call_gs); (case hg => rfl); (case hn => rfl); all_goals (try simp only [skipD, tdel, Nat.reduceEqDiff, reduceIte]))
     | ((with_reducible refine d_main (fun ze => ?_) d_stop); simp)
     | ((with_reducible refine d_main (fun ze => ?_) ?_); simp)
     | ((with_reducible refine o_gh ?_); simp)
     | (with_reducible refine isR_mk ?_ (by simp))
     | ((with_reducible apply o_callp (n := 17)); (case hf => rfl); (case hp => exact c_arena_within _ _ _); ((refine o_dec (fun h => ?_) (fun h => ?_)) <;> (first | (exfalso; omega) | simp)))
     | (with_reducible refine And.intro (by omega) ?_)
     | (refine And.intro (ints_hd _) ?_)
     | (refine And.intro (sls_hd _) ?_)
     | (with_reducible refine fun (ze : Nat) => ?_)
     | ((with_reducible apply o_call); (case hf => rfl))
     | ((with_reducible apply o_callc); (case hf => rfl))
     | fail)
    · unfold allocR; rw [if_neg (by omega), if_pos (.inl (by omega))]; simp [res3, Ar.av]
    · unfold allocR; rw [if_pos (by omega)]; simp [res3, Ar.av]
  · obtain ⟨h1, h2⟩ := hlast hne
    have hg := hok.hg _ h2
    have h3 : ∀ x : Nat, (a.idle.length : Int) - 1 = (a.idle.length - 1 : Nat) := fun _ => by omega
    repeat' (first
        | ((with_reducible refine ap_id ?_); have zT := zS; (repeat (first | clear ze | revert ze)); exact zT.out)
        | ((with_reducible apply w_dseq); intro zS)
        | ((fail_if_success exact (Hd.mk trivial : Hd True)); (with_reducible refine Hd.mk ?_))
        | with_reducible refine w_seq fun K1 zn zx zr => ?_
        | with_reducible refine w_region fun K1 zq => ?_
        | with_reducible refine w_draw fun K1 zq => ?_
        | with_reducible refine w_block fun K1 yn yb yx yr => ?_
        | with_reducible refine w_skip ?_
        | with_reducible refine w_ret ?_
        | with_reducible refine w_exit ?_
        | ((with_reducible refine w_gh ?_); simp)
        | ((with_reducible refine zq _ _ ?_); clear zq)
        | ((with_reducible refine zn _ _ ?_); clear zn zx zr)
        | ((with_reducible refine zr _ _ ?_); clear zn zx zr)
        | ((with_reducible refine zx _ _ _ ?_); clear zn zx zr)
        | ((with_reducible refine yn _ _ ?_); clear yn yb yx yr)
        | ((with_reducible refine yb _ _ ?_); clear yn yb yx yr)
        | ((with_reducible refine yr _ _ ?_); clear yn yb yx yr)
        | ((with_reducible refine yx _ _ _ (by decide) ?_); clear yn yb yx yr)
        | ((with_reducible refine e_endn ?_); simp)
        | ((with_reducible refine e_endr ?_); simp)
        | with_reducible refine e_un ?_
        | with_reducible refine e_ux ?_
        | with_reducible refine e_ur ?_
        | ((with_reducible refine u_step ?_); (try simp))
        | ((with_reducible apply s_rangeF); (case hc => rfl); intro zel zrr)
        | ((with_reducible apply o_yld); (case hf => rfl))
        | ((with_reducible refine rf_go ?h1 ?h2 ?_); (case h1 => rfl); (case h2 => first | rfl | simp); simp [tputs])
        | ((with_reducible refine r_an ?h1 ?_); (case h1 => first | rfl | simp); simp)
        | ((with_reducible refine r_bn ?h1 ?_); (case h1 => first | rfl | simp); simp)
        | ((with_reducible refine r_bx ?h1 ?_); (case h1 => first | rfl | simp); simp)
        | ((with_reducible refine r_br ?h1 ?_); (case h1 => first | rfl | simp); simp)
        | ((with_reducible refine f_en ?h1 ?_); (case h1 => rfl); simp)
        | ((with_reducible refine f_ex ?h1 ?_); (case h1 => rfl); simp)
        | ((with_reducible refine f_er ?h1 ?_); (case h1 => rfl); simp)
        | with_reducible refine e_loopx ?_
        | with_reducible refine e_loopr ?_
        | ((with_reducible refine c_true ?hc ?_); (case hc => rfl))
        | ((with_reducible refine c_false ?hc ?_); (case hc => rfl))
        | (rw [ints_take])
        | (rw [h1]; try simp)
        | (rw [sls_some _ _ (by omega)]; simp [Sl.fv])
        | (rw [sls_get _ _ (by omega)]; simp [Sl.fv])
        | (rw [ints_get _ _ (by omega)]; simp)
        | rw [i64_in _ (by omega)]
        | ((with_reducible refine o_bin ?_); ((first | ((with_reducible apply o_lss); (case hx => rfl); (case hy => rfl); (case hk => rfl)) | ((with_reducible apply o_leq); (case hx => rfl); (case hy => rfl); (case hk => rfl)) | ((with_reducible apply o_gtr); (case hx => rfl); (case hy => rfl); (case hk => rfl)) | ((with_reducible apply o_geq); (case hx => rfl); (case hy => rfl); (case hk => rfl)) | ((with_reducible apply o_eql); (case hx => rfl); (case hy => rfl); (case hk => rfl)) | ((with_reducible apply o_neq); (case hx => rfl); (case hy => rfl); (case hk => rfl))) <;> (intro h; first | (exfalso; omega) | simp)))
        | ((with_reducible apply o_eqnil); (case hx => rfl); all_goals (try intro h); all_goals simp)
        | ((with_reducible refine o_op fun _ _ => ?_); simp)
        | ((with_reducible refine o_gt ?hg ?_); (case hg => rfl))
        | ((with_reducible apply o_gs); (case hg => rfl); (case hn => rfl); simp only [skipD, tdel, Nat.reduceEqDiff, reduceIte])
        | ((with_reducible refine o_cgt ?hg ?_); (case hg => rfl))
        | ((with_reducible apply o_cgs); (case hg => rfl); (case hn => rfl); simp only [skipD, tdel, Nat.reduceEqDiff, reduceIte])
        | with_reducible refine o_nil ?_
        | with_reducible exact d_stop
        | ((with_reducible refine d_done ?_); (try simp))
        | ((with_reducible refine d_bin ?_); ((first | ((with_reducible apply d_lss); (case hx => rfl); (case hy => rfl); (case hk => rfl)) | ((with_reducible apply d_leq); (case hx => rfl); (case hy => rfl); (case hk => rfl)) | ((with_reducible apply d_gtr); (case hx => rfl); (case hy => rfl); (case hk => rfl)) | ((with_reducible apply d_geq); (case hx => rfl); (case hy => rfl); (case hk => rfl)) | ((with_reducible apply d_eql); (case hx => rfl); (case hy => rfl); (case hk => rfl)) | ((with_reducible apply d_neq); (case hx => rfl); (case hy => rfl); (case hk => rfl))) <;> (intro h; first | (exfalso; omega) | simp)))
        | ((with_reducible refine d_fst ?_); simp [and_assoc])
        | ((with_reducible refine d_fst_gt ?hg ?_); (case hg => rfl))
        | ((with_reducible apply d_fst_gs); (case hg => rfl); (case hn => rfl); simp only [skipD, tdel, Nat.reduceEqDiff, reduceIte])
        | ((with_reducible refine d_main_gt ?hg ?_); (case hg => rfl))
        | ((with_reducible apply d_main_gs); (case hg => rfl); (case hn => rfl); all_goals (try simp only [skipD, tdel, Nat.reduceEqDiff, reduceIte]))
        | ((with_reducible refine d_call_gt ?hg ?_); (case hg => rfl))
        | ((with_reducible apply d_call_gs); (case hg => rfl); (case hn => rfl); all_goals (try simp only [skipD, tdel, Nat.reduceEqDiff, reduceIte]))
        | ((with_reducible refine d_main (fun ze => ?_) d_stop); simp)
        | ((with_reducible refine d_main (fun ze => ?_) ?_); simp)
        | ((with_reducible refine o_gh ?_); simp)
        | (with_reducible refine isR_mk ?_ (by simp))
        | ((with_reducible apply o_callp (n := 17)); (case hf => rfl); (case hp => exact c_arena_within _ _ _); ((refine o_dec (fun h => ?_) (fun h => ?_)) <;> (first | (exfalso; omega) | simp)))
        | ((with_reducible apply o_callp (n := 20)); (case hf => rfl); (case hp => exact (c_cloneI (a.idle.take (a.idle.length - 1)) (by simp; omega)));  simp)
        | ((with_reducible apply d_callp (n := 21)); (case hf => rfl); (case hp => exact c_handle_Make _ _ (by omega) (by simpa [h2] using hg)); (try (case hr => exact d_stop));  simp)
        | ((with_reducible apply o_call (n := 18)); (case hf => rfl); (refine go_arena_modify (kb := 1000) none (by simp) ?_); unfold ac_arena_modify)
        | ((with_reducible apply o_call (n := 33)); (case hf => rfl); (refine (c_cloneSo a.sl (by omega) Y).frame0.mono ?_); (rintro r ob1 ⟨ob2, (⟨hnil, rfl, rfl⟩ | ⟨e, rfl, rfl⟩), rfl⟩ <;> first | (exfalso; omega) | simp))
        | ((with_reducible apply o_callc); (case hf => rfl); (refine go_arena_Alloc_1 (kb := 2000) none (by simp) ?_); unfold ac_arena_Alloc_1)
        | (simp [Sl.fv, h2])
        | (with_reducible refine And.intro (by omega) ?_)
        | (refine And.intro (ints_hd _) ?_)
        | (refine And.intro (sls_hd _) ?_)
        | (with_reducible refine fun (ze : Nat) => ?_)
        | ((with_reducible apply o_call); (case hf => rfl))
        | ((with_reducible apply o_callc); (case hf => rfl))
        | fail)
    · unfold allocR; rw [if_neg (by omega), if_pos (.inr (by omega))]; simp [res3, Ar.av]
    · unfold allocR; rw [if_neg (by omega), if_neg (by omega)]; simp [res3, Ar.av, sls_set, Sl.fv, h2]
    · unfold allocR; rw [if_pos (by omega)]; simp [res3, Ar.av]
end Go.Proofs.RL
