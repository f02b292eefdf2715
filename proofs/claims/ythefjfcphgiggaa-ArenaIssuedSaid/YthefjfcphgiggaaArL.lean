/- Functions of the arena seat. Conditions: none. -/
import Derived.Test.YthefjfcphgiggaaArK
set_option linter.unusedVariables false
set_option linter.unusedSimpArgs false
namespace Go.Proofs.RL
def ac_arena_Transition_1 : AC := (.region [.op (some 3) none false (.mv (.t 0)),
    .op (some 4) none false (.load false 1 (.t 1)),
    .op (some 5) none false (.nilCheck (.t 3)),
    .op (some 6) none false (.fieldAddr 1 (.t 5)),
    .op none none false (.store 1 (.t 6) (.t 4)),
    .gh (.keep [])])
theorem tr_arena_Transition_1 : trCode Try.prog Try.f25.ntmps (Try.f25.body.getD .skip) = some ac_arena_Transition_1.erase := by kernel_rfl
theorem fn_arena_Transition_1 : Try.prog.funcs[25]? = some Try.f25 := by kernel_rfl
theorem bd_arena_Transition_1 : Try.f25.body = some (Try.f25.body.getD .skip) := by kernel_rfl
theorem rs_arena_Transition_1 : Try.f25.results.toList.mapM (trRes Try.prog) = some [] := by kernel_rfl
theorem go_arena_Transition_1 {Y : YT} {kb : Nat} {args : List AV} {ob : Ob} {K : AV → Ob → Prop} (ks : Option (List Nat)) (hl : args.length ≤ 7) (h : AP Try.prog Y kb ac_arena_Transition_1 (endK [] ks K) (mkTm 0 args) ob) : FnA Try.prog Y 25 args ob K :=
  FnA_of_awp hm fn_arena_Transition_1 (by kernel_rfl) bd_arena_Transition_1 tr_arena_Transition_1 rs_arena_Transition_1 ks hl h.out
def ac_arena_Transition : AC := (.seq (.region [.op (some 4) none false (.box (.t 0)),
    .op (some 7) none false (.box (.t 3)),
    .op (some 8) none false (.alloc [(.sl (some true) (some 0) []), (.sl (some true) (some 0) []), (.int .i64 0)]),
    .op (some 9) none false (.mv (.c (.bool false))),
    .gh (.keep [1, 2, 4, 7, 8])]) <|
  (.seq (.region [.op (some 13) none false (.load true 3 (.t 4)),
    .op (some 14) none false (.mv (.t 1)),
    .call (some 15) none (.c (.func 22)) [(.t 13), (.t 14)],
    .op (some 12) none false (.mv (.t 15)),
    .op (some 16) none false (.extract (.t 12) 0),
    .op (some 17) none false (.extract (.t 12) 1),
    .op (some 10) none false (.mv (.t 16)),
    .op (some 11) none false (.mv (.t 17)),
    .gh (.keep [2, 4, 7, 8, 10, 11])]) <|
  (.seq (.seq (.region [.op (some 18) none false (.mv (.t 11)),
    .op (some 19) none false (.not (.t 18)),
    .op (some 20) none false (.mv (.t 19)),
    .op (some 21) (some (20, false)) false (.fieldAddr 0 (.t 4)),
    .op (some 22) (some (20, false)) false (.load false 1 (.t 21)),
    .op (some 23) (some (20, false)) false (.mv (.t 10)),
    .op (some 24) (some (20, false)) false (.idxA 4 (.t 22) (.t 23)),
    .op (some 25) (some (20, false)) false (.fieldAddr 1 (.t 24)),
    .op (some 26) (some (20, false)) false (.load false 1 (.t 25)),
    .op (some 27) (some (20, false)) false (.mv (.t 2)),
    .op (some 28) (some (20, false)) false (.bin .neq (.t 26) (.t 27)),
    .op (some 29) none false (.pick (.t 20) (.c (.bool true)) (.t 28)),
    .op (some 30) none false (.mv (.t 29)),
    .op (some 31) (some (30, false)) false (.load false 1 (.t 7)),
    .call (some 32) (some (30, false)) (.c (.func 17)) [(.t 31), (.c (.int .i64 1)), (.c (.int .i64 3))],
    .op (some 33) (some (30, false)) false (.not (.t 32)),
    .op (some 34) none false (.pick (.t 30) (.c (.bool true)) (.t 33)),
    .gh (.keep [4, 7, 8, 10, 34])]) <|
  (.cond (.t 34)
    (.seq (.region [.op (some 35) none false (.load true 3 (.t 4)),
      .op none none false (.store 3 (.t 8) (.t 35)),
      .op (some 9) none false (.mv (.c (.bool false))),
      .gh (.keep [8, 9])]) <|
    .ret)
    .skip)) <|
  (.seq (.region [.op (some 36) none false (.load true 3 (.t 4)),
    .op (some 37) none false (.mv (.t 10)),
    .op (some 38) none false (.mkFunc 25 [] [(.t 7)]),
    .call (some 39) none (.c (.func 18)) [(.t 36), (.t 37), (.t 38)],
    .op none none false (.store 3 (.t 8) (.t 39)),
    .op (some 9) none false (.mv (.c (.bool true))),
    .gh (.keep [8, 9])]) <|
  .ret))))
theorem tr_arena_Transition : trCode Try.prog Try.f13.ntmps (Try.f13.body.getD .skip) = some ac_arena_Transition.erase := by kernel_rfl
theorem fn_arena_Transition : Try.prog.funcs[13]? = some Try.f13 := by kernel_rfl
theorem bd_arena_Transition : Try.f13.body = some (Try.f13.body.getD .skip) := by kernel_rfl
theorem rs_arena_Transition : Try.f13.results.toList.mapM (trRes Try.prog) = some [.cell 8 true 3, .tmp 9] := by kernel_rfl
theorem go_arena_Transition {Y : YT} {kb : Nat} {args : List AV} {ob : Ob} {K : AV → Ob → Prop} (ks : Option (List Nat)) (hl : args.length ≤ 40) (h : AP Try.prog Y kb ac_arena_Transition (endK [.cell 8 true 3, .tmp 9] ks K) (mkTm 0 args) ob) : FnA Try.prog Y 13 args ob K :=
  FnA_of_awp hm fn_arena_Transition (by kernel_rfl) bd_arena_Transition tr_arena_Transition rs_arena_Transition ks hl h.out
set_option maxHeartbeats 4000000 in
theorem c_arena_Transition (a : Ar) (h0 frm to : Int) (hs : a.sl.length ≤ 64) (hh : a.sl ≠ []) : PureA Try.prog 13 [a.av, .fv (.int .i64 h0), .fv (.int .i64 frm), .fv (.int .i64 to)] (res2 (transR a h0 frm to)) := by
  refine ⟨fun Y => ?_⟩
  refine go_arena_Transition (kb := 100) (some []) (by simp) ?_
  unfold ac_arena_Transition
  have hc := c_arena_index a h0 hs hh
  unfold transR
  rcases idxR_spec a h0 with ⟨h2, i, hf, h1, hi⟩ | ⟨h2, hf⟩
  · rw [h2, h1] at hc
    rw [hf]
    clear h1 h2 hf
    unfold Ar.av at *
    repeat' (first
        | ((with_reducible refine ap_id ?_); have zT := zS; (repeat (first | clear ze | revert ze)); exact zT.out)
        | ((with_reducible apply w_dseq); intro zS)
        | ((fail_if_success exact (Hd.mk trivial : Hd True)); (with_reducible refine Hd.mk ?_))
        | with_reducible refine w_seq fun K1 zn zx zr => ?_
        | with_reducible refine w_region fun K1 zq => ?_
        | with_reducible refine w_draw fun K1 zq => ?_
        | with_reducible refine w_block fun K1 yn yb yx yr => ?_
        | with_reducible refine w_skip ?_
        | with_reducible refine w_ret ?_
        | with_reducible refine w_exit ?_
        | ((with_reducible refine w_gh ?_); simp)
        | ((with_reducible refine zq _ _ ?_); clear zq)
        | ((with_reducible refine zn _ _ ?_); clear zn zx zr)
        | ((with_reducible refine zr _ _ ?_); clear zn zx zr)
        | ((with_reducible refine zx _ _ _ ?_); clear zn zx zr)
        | ((with_reducible refine yn _ _ ?_); clear yn yb yx yr)
        | ((with_reducible refine yb _ _ ?_); clear yn yb yx yr)
        | ((with_reducible refine yr _ _ ?_); clear yn yb yx yr)
        | ((with_reducible refine yx _ _ _ (by decide) ?_); clear yn yb yx yr)
        | ((with_reducible refine e_endn ?_); simp)
        | ((with_reducible refine e_endr ?_); simp)
        | with_reducible refine e_un ?_
        | with_reducible refine e_ux ?_
        | with_reducible refine e_ur ?_
        | ((with_reducible refine u_step ?_); (try simp))
        | ((with_reducible apply s_rangeF); (case hc => rfl); intro zel zrr)
        | ((with_reducible apply o_yld); (case hf => rfl))
        | ((with_reducible refine rf_go ?h1 ?h2 ?_); (case h1 => rfl); (case h2 => first | rfl | simp); simp [tputs])
        | ((with_reducible refine r_an ?h1 ?_); (case h1 => first | rfl | simp); simp)
        | ((with_reducible refine r_bn ?h1 ?_); (case h1 => first | rfl | simp); simp)
        | ((with_reducible refine r_bx ?h1 ?_); (case h1 => first | rfl | simp); simp)
        | ((with_reducible refine r_br ?h1 ?_); (case h1 => first | rfl | simp); simp)
        | ((with_reducible refine f_en ?h1 ?_); (case h1 => rfl); simp)
        | ((with_reducible refine f_ex ?h1 ?_); (case h1 => rfl); simp)
        | ((with_reducible refine f_er ?h1 ?_); (case h1 => rfl); simp)
        | with_reducible refine e_loopx ?_
        | with_reducible refine e_loopr ?_
        | ((with_reducible refine c_true ?hc ?_); (case hc => rfl))
        | ((with_reducible refine c_false ?hc ?_); (case hc => rfl))
        | (rw [sls_some _ _ (by omega)]; simp [Sl.fv])
        | (rw [sls_get _ _ (by omega)]; simp [Sl.fv])
        | (rw [ints_get _ _ (by omega)]; simp)
        | rw [i64_in _ (by omega)]
        | ((with_reducible refine o_bin ?_); ((first | ((with_reducible apply o_lss); (case hx => rfl); (case hy => rfl); (case hk => rfl)) | ((with_reducible apply o_leq); (case hx => rfl); (case hy => rfl); (case hk => rfl)) | ((with_reducible apply o_gtr); (case hx => rfl); (case hy => rfl); (case hk => rfl)) | ((with_reducible apply o_geq); (case hx => rfl); (case hy => rfl); (case hk => rfl)) | ((with_reducible apply o_eql); (case hx => rfl); (case hy => rfl); (case hk => rfl)) | ((with_reducible apply o_neq); (case hx => rfl); (case hy => rfl); (case hk => rfl))) <;> (intro h; first | (exfalso; omega) | simp)))
        | ((with_reducible apply o_eqnil); (case hx => rfl); all_goals (try intro h); all_goals simp)
        | ((with_reducible refine o_op fun _ _ => ?_); simp)
        | ((with_reducible refine o_gt ?hg ?_); (case hg => rfl))
        | ((with_reducible apply o_gs); (case hg => rfl); (case hn => rfl); simp only [skipD, tdel, Nat.reduceEqDiff, reduceIte])
        | ((with_reducible refine o_cgt ?hg ?_); (case hg => rfl))
        | ((with_reducible apply o_cgs); (case hg => rfl); (case hn => rfl); simp only [skipD, tdel, Nat.reduceEqDiff, reduceIte])
        | with_reducible refine o_nil ?_
        | with_reducible exact d_stop
        | ((with_reducible refine d_done ?_); (try simp))
        | ((with_reducible refine d_bin ?_); ((first | ((with_reducible apply d_lss); (case hx => rfl); (case hy => rfl); (case hk => rfl)) | ((with_reducible apply d_leq); (case hx => rfl); (case hy => rfl); (case hk => rfl)) | ((with_reducible apply d_gtr); (case hx => rfl); (case hy => rfl); (case hk => rfl)) | ((with_reducible apply d_geq); (case hx => rfl); (case hy => rfl); (case hk => rfl)) | ((with_reducible apply d_eql); (case hx => rfl); (case hy => rfl); (case hk => rfl)) | ((with_reducible apply d_neq); (case hx => rfl); (case hy => rfl); (case hk => rfl))) <;> (intro h; first | (exfalso; omega) | simp)))
        | ((with_reducible refine d_fst ?_); simp [and_assoc])
        | ((with_reducible refine d_fst_gt ?hg ?_); (case hg => rfl))
        | ((with_reducible apply d_fst_gs); (case hg => rfl); (case hn => rfl); simp only [skipD, tdel, Nat.reduceEqDiff, reduceIte])
        | ((with_reducible refine d_main_gt ?hg ?_); (case hg => rfl))
        | ((with_reducible apply d_main_gs); (case hg => rfl); (case hn => rfl); all_goals (try simp only [skipD, tdel, Nat.reduceEqDiff, reduceIte]))
        | ((with_reducible refine d_call_gt ?hg ?_); (case hg => rfl))
        | ((with_reducible apply d_call_gs); (case hg => rfl); (case hn => rfl); all_goals (try simp only [skipD, tdel, Nat.reduceEqDiff, reduceIte]))
        | ((with_reducible refine d_main (fun ze => ?_) d_stop); simp)
        | ((with_reducible refine d_main (fun ze => ?_) ?_); simp)
        | ((with_reducible refine o_gh ?_); simp)
        | (with_reducible refine isR_mk ?_ (by simp))
        | ((with_reducible apply o_callp (n := 22)); (case hf => rfl); (case hp => exact hc);  simp)
        | ((with_reducible apply o_callp (n := 17)); (case hf => rfl); (case hp => exact c_arena_within _ _ _); ((refine o_dec (fun h => ?_) (fun h => ?_)) <;> (first | (exfalso; omega) | simp)))
        | ((with_reducible refine go_arena_modify (kb := 1000) none (by simp) ?_); unfold ac_arena_modify)
        | ((with_reducible refine go_arena_Transition_1 (kb := 2000) none (by simp) ?_); unfold ac_arena_Transition_1)
        | ((with_reducible apply o_call (n := 33)); (case hf => rfl); (refine (c_cloneSo a.sl (by omega) Y).frame0.mono ?_); (rintro r ob1 ⟨ob2, (⟨hnil, rfl, rfl⟩ | ⟨e, rfl, rfl⟩), rfl⟩ <;> first | (exfalso; omega) | simp))
        | (simp [Sl.fv, hi])
        | (with_reducible refine And.intro (by omega) ?_)
        | (refine And.intro (ints_hd _) ?_)
        | (refine And.intro (sls_hd _) ?_)
        | (with_reducible refine fun (ze : Nat) => ?_)
        | ((with_reducible apply o_call); (case hf => rfl))
        | ((with_reducible apply o_callc); (case hf => rfl))
        | fail)
    all_goals rw [if_neg (show ¬ ((i : Nat) : Int) < 0 by omega)]
    · rw [if_pos (.inl (by simpa using h))]; simp [res2, Ar.av]
    · rename_i hh1 hh2
      rw [if_neg (by simp at *; omega)]; simp [res2, Ar.av, sls_set, Sl.fv]
    · rw [if_pos (by simp at *; omega)]; simp [res2, Ar.av]
  · rw [h2] at hc
    rw [hf]
    generalize (idxR a h0).1 = x at *
    clear h2 hf
    unfold Ar.av at *
    repeat' (first
        | ((with_reducible refine ap_id ?_); have zT := zS; (repeat (first | clear ze | revert ze)); exact zT.out)
        | ((with_reducible apply w_dseq); intro zS)
        | ((fail_if_success exact (Hd.mk trivial : Hd True)); (with_reducible refine Hd.mk ?_))
        | with_reducible refine w_seq fun K1 zn zx zr => ?_
        | with_reducible refine w_region fun K1 zq => ?_
        | with_reducible refine w_draw fun K1 zq => ?_
        | with_reducible refine w_block fun K1 yn yb yx yr => ?_
        | with_reducible refine w_skip ?_
        | with_reducible refine w_ret ?_
        | with_reducible refine w_exit ?_
        | ((with_reducible refine w_gh ?_); simp)
        | ((with_reducible refine zq _ _ ?_); clear zq)
        | ((with_reducible refine zn _ _ ?_); clear zn zx zr)
        | ((with_reducible refine zr _ _ ?_); clear zn zx zr)
        | ((with_reducible refine zx _ _ _ ?_); clear zn zx zr)
        | ((with_reducible refine yn _ _ ?_); clear yn yb yx yr)
        | ((with_reducible refine yb _ _ ?_); clear yn yb yx yr)
        | ((with_reducible refine yr _ _ ?_); clear yn yb yx yr)
        | ((with_reducible refine yx _ _ _ (by decide) ?_); clear yn yb yx yr)
        | ((with_reducible refine e_endn ?_); simp)
        | ((with_reducible refine e_endr ?_); simp)
        | with_reducible refine e_un ?_
        | with_reducible refine e_ux ?_
        | with_reducible refine e_ur ?_
        | ((with_reducible refine u_step ?_); (try simp))
        | ((with_reducible apply s_rangeF); (case hc => rfl); intro zel zrr)
        | ((with_reducible apply o_yld); (case hf => rfl))
        | ((with_reducible refine rf_go ?h1 ?h2 ?_); (case h1 => rfl); (case h2 => first | rfl | simp); simp [tputs])
        | ((with_reducible refine r_an ?h1 ?_); (case h1 => first | rfl | simp); simp)
        | ((with_reducible refine r_bn ?h1 ?_); (case h1 => first | rfl | simp); simp)
        | ((with_reducible refine r_bx ?h1 ?_); (case h1 => first | rfl | simp); simp)
        | ((with_reducible refine r_br ?h1 ?_); (case h1 => first | rfl | simp); simp)
        | ((with_reducible refine f_en ?h1 ?_); (case h1 => rfl); simp)
        | ((with_reducible refine f_ex ?h1 ?_); (case h1 => rfl); simp)
        | ((with_reducible refine f_er ?h1 ?_); (case h1 => rfl); simp)
        | with_reducible refine e_loopx ?_
        | with_reducible refine e_loopr ?_
        | ((with_reducible refine c_true ?hc ?_); (case hc => rfl))
        | ((with_reducible refine c_false ?hc ?_); (case hc => rfl))
        | (rw [sls_some _ _ (by omega)]; simp [Sl.fv])
        | (rw [sls_get _ _ (by omega)]; simp [Sl.fv])
        | (rw [ints_get _ _ (by omega)]; simp)
        | rw [i64_in _ (by omega)]
        | ((with_reducible refine o_bin ?_); ((first | ((with_reducible apply o_lss); (case hx => rfl); (case hy => rfl); (case hk => rfl)) | ((with_reducible apply o_leq); (case hx => rfl); (case hy => rfl); (case hk => rfl)) | ((with_reducible apply o_gtr); (case hx => rfl); (case hy => rfl); (case hk => rfl)) | ((with_reducible apply o_geq); (case hx => rfl); (case hy => rfl); (case hk => rfl)) | ((with_reducible apply o_eql); (case hx => rfl); (case hy => rfl); (case hk => rfl)) | ((with_reducible apply o_neq); (case hx => rfl); (case hy => rfl); (case hk => rfl))) <;> (intro h; first | (exfalso; omega) | simp)))
        | ((with_reducible apply o_eqnil); (case hx => rfl); all_goals (try intro h); all_goals simp)
        | ((with_reducible refine o_op fun _ _ => ?_); simp)
        | ((with_reducible refine o_gt ?hg ?_); (case hg => rfl))
        | ((with_reducible apply o_gs); (case hg => rfl); (case hn => rfl); simp only [skipD, tdel, Nat.reduceEqDiff, reduceIte])
        | ((with_reducible refine o_cgt ?hg ?_); (case hg => rfl))
        | ((with_reducible apply o_cgs); (case hg => rfl); (case hn => rfl); simp only [skipD, tdel, Nat.reduceEqDiff, reduceIte])
        | with_reducible refine o_nil ?_
        | with_reducible exact d_stop
        | ((with_reducible refine d_done ?_); (try simp))
        | ((with_reducible refine d_bin ?_); ((first | ((with_reducible apply d_lss); (case hx => rfl); (case hy => rfl); (case hk => rfl)) | ((with_reducible apply d_leq); (case hx => rfl); (case hy => rfl); (case hk => rfl)) | ((with_reducible apply d_gtr); (case hx => rfl); (case hy => rfl); (case hk => rfl)) | ((with_reducible apply d_geq); (case hx => rfl); (case hy => rfl); (case hk => rfl)) | ((with_reducible apply d_eql); (case hx => rfl); (case hy => rfl); (case hk => rfl)) | ((with_reducible apply d_neq); (case hx => rfl); (case hy => rfl); (case hk => rfl))) <;> (intro h; first | (exfalso; omega) | simp)))
        | ((with_reducible refine d_fst ?_); simp [and_assoc])
        | ((with_reducible refine d_fst_gt ?hg ?_); (case hg => rfl))
        | ((with_reducible apply d_fst_gs); (case hg => rfl); (case hn => rfl); simp only [skipD, tdel, Nat.reduceEqDiff, reduceIte])
        | ((with_reducible refine d_main_gt ?hg ?_); (case hg => rfl))
        | ((with_reducible apply d_main_gs); (case hg => rfl); (case hn => rfl); all_goals (try simp only [skipD, tdel, Nat.reduceEqDiff, reduceIte]))
        | ((with_reducible refine d_call_gt ?hg ?_); (case hg => rfl))
        | ((with_reducible apply d_call_gs); (case hg => rfl); (case hn => rfl); all_goals (try simp only [skipD, tdel, Nat.reduceEqDiff, reduceIte]))
        | ((with_reducible refine d_main (fun ze => ?_) d_stop); simp)
        | ((with_reducible refine d_main (fun ze => ?_) ?_); simp)
        | ((with_reducible refine o_gh ?_); simp)
        | (with_reducible refine isR_mk ?_ (by simp))
        | ((with_reducible apply o_callp (n := 22)); (case hf => rfl); (case hp => exact hc);  simp)
        | (with_reducible refine And.intro (by omega) ?_)
        | (refine And.intro (ints_hd _) ?_)
        | (refine And.intro (sls_hd _) ?_)
        | (with_reducible refine fun (ze : Nat) => ?_)
        | ((with_reducible apply o_call); (case hf => rfl))
        | ((with_reducible apply o_callc); (case hf => rfl))
        | fail)
    all_goals simp [res2, Ar.av]

def ac_slices_Reverse_int_int : AC := (.seq (.region [.op (some 4) none false (.mv (.t 0)),
    .op (some 5) none false (.len false (.t 4)),
    .op (some 6) none false (.bin .sub (.t 5) (.c (.int .i64 1))),
    .op (some 2) none false (.mv (.c (.int .i64 0))),
    .op (some 3) none false (.mv (.t 6)),
    .gh (.keep [0, 2, 3])]) <|
  (.block 0 <|
    (.gh (.keep [0, 2, 3]) (.loop <|
      (.seq (.seq (.region [.op (some 7) none false (.mv (.t 2)),
        .op (some 8) none false (.mv (.t 3)),
        .op (some 9) none false (.bin .lss (.t 7) (.t 8)),
        .gh (.keep [0, 2, 3, 9])]) <|
      (.cond (.t 9)
        .skip
        (.exit 0))) <|
      (.seq (.block 1 <|
        (.draw <|
          .fst (.op (some 14) none false (.mv (.t 0))) <|
          .fst (.op (some 15) none false (.mv (.t 2))) <|
          .fst (.op (some 16) none false (.mv (.t 0))) <|
          .fst (.op (some 17) none false (.mv (.t 3))) <|
          .fst (.op (some 18) none false (.mv (.t 0))) <|
          .fst (.op (some 19) none false (.mv (.t 3))) <|
          .fst (.op (some 20) none false (.idxA 1 (.t 18) (.t 19))) <|
          .fst (.op (some 21) none false (.load false 1 (.t 20))) <|
          .fst (.op (some 22) none false (.mv (.t 0))) <|
          .fst (.op (some 23) none false (.mv (.t 2))) <|
          .fst (.op (some 24) none false (.idxA 1 (.t 22) (.t 23))) <|
          .fst (.op (some 25) none false (.load false 1 (.t 24))) <|
          .fst (.op (some 26) none false (.idxA 1 (.t 14) (.t 15))) <|
          .main1 [] (.op none none false (.store 1 (.t 26) (.t 21))) <|
          .fst (.op (some 27) none false (.idxA 1 (.t 16) (.t 17))) <|
          .main1 [] (.op none none false (.store 1 (.t 27) (.t 25))) <|
          .done)) <|
      (.region [.op (some 10) none false (.mv (.t 2)),
        .op (some 11) none false (.bin .add (.t 10) (.c (.int .i64 1))),
        .op (some 12) none false (.mv (.t 3)),
        .op (some 13) none false (.bin .sub (.t 12) (.c (.int .i64 1))),
        .op (some 2) none false (.mv (.t 11)),
        .op (some 3) none false (.mv (.t 13)),
        .gh (.keep [0, 2, 3])])))))))
theorem tr_slices_Reverse_int_int : trCode Try.prog Try.f24.ntmps (Try.f24.body.getD .skip) = some ac_slices_Reverse_int_int.erase := by kernel_rfl
theorem fn_slices_Reverse_int_int : Try.prog.funcs[24]? = some Try.f24 := by kernel_rfl
theorem bd_slices_Reverse_int_int : Try.f24.body = some (Try.f24.body.getD .skip) := by kernel_rfl
theorem rs_slices_Reverse_int_int : Try.f24.results.toList.mapM (trRes Try.prog) = some [] := by kernel_rfl
theorem go_slices_Reverse_int_int {Y : YT} {kb : Nat} {args : List AV} {ob : Ob} {K : AV → Ob → Prop} (ks : Option (List Nat)) (hl : args.length ≤ 28) (h : AP Try.prog Y kb ac_slices_Reverse_int_int (endK [] ks K) (mkTm 0 args) ob) : FnA Try.prog Y 24 args ob K :=
  FnA_of_awp hm fn_slices_Reverse_int_int (by kernel_rfl) bd_slices_Reverse_int_int tr_slices_Reverse_int_int rs_slices_Reverse_int_int ks hl h.out
def ac_arena_New : AC := (.seq (.region [.op (some 2) none false (.alloc [(.sl (some true) (some 0) []), (.sl (some true) (some 0) []), (.int .i64 0)]),
    .op (some 3) none false (.mv (.c (.int .i64 0))),
    .gh (.keep [0, 2])]) <|
  (.seq (.seq (.region [.op (some 6) none false (.mv (.t 0)),
    .op (some 7) none false (.bin .lss (.t 6) (.c (.int .i64 1))),
    .op (some 8) none false (.mv (.t 7)),
    .op (some 9) (some (8, false)) false (.mv (.t 0)),
    .op (some 10) (some (8, false)) false (.bin .gtr (.t 9) (.c (.int .i64 64))),
    .op (some 11) none false (.pick (.t 8) (.c (.bool true)) (.t 10)),
    .gh (.keep [0, 2, 11])]) <|
  (.cond (.t 11)
    (.seq (.region [.op (some 12) none false (.build [(.sl (some true) (some 0) []), (.sl (some true) (some 0) []), (.int .i64 0)] []),
      .op none none false (.store 3 (.t 2) (.t 12)),
      .op (some 3) none false (.mv (.c (.int .i64 1))),
      .gh (.keep [2, 3])]) <|
    .ret)
    .skip)) <|
  (.seq (.region [.op (some 13) none false (.mv (.t 0)),
    .op (some 14) none false (.mkSl 4 32 [(.int .i64 0), (.int .i64 0), (.int .i64 0), (.int .i64 0)] (.t 13)),
    .op (some 15) none false (.build [(.sl (some true) (some 0) []), (.sl (some true) (some 0) []), (.int .i64 0)] [(0, 1, (.t 14))]),
    .op (some 4) none false (.alloc [(.sl (some true) (some 0) []), (.sl (some true) (some 0) []), (.int .i64 0)]),
    .op none none false (.store 3 (.t 4) (.t 15)),
    .gh (.keep [0, 2, 4])]) <|
  (.seq (.seq (.region [.op (some 16) none false (.mv (.t 0)),
    .op (some 17) none false (.mv (.c (.int .i64 0))),
    .gh (.keep [2, 4, 16, 17])]) <|
  (.block 0 <|
    (.gh (.keep [2, 4, 16, 17]) (.loop <|
      (.seq (.region [.op (some 18) none false (.bin .lss (.t 17) (.t 16))]) <|
      (.seq (.cond (.t 18)
        .skip
        (.exit 0)) <|
      (.seq (.block 1 <|
        (.seq (.region [.op (some 19) none false (.mv (.t 17)),
          .op (some 5) none false (.mv (.t 19)),
          .gh (.keep [2, 4, 5, 16, 17])]) <|
        (.region [.op (some 20) none false (.fieldAddr 1 (.t 4)),
          .op (some 21) none false (.load false 1 (.t 20)),
          .op (some 22) none false (.mv (.t 5)),
          .op (some 23) none false (.buildSl 1 1 [(.int .i64 0)] [(0, (.t 22))]),
          .op (some 24) none false (.append 1 8 (.t 21) (.t 23)),
          .op (some 25) none false (.fieldAddr 1 (.t 4)),
          .op none none false (.store 1 (.t 25) (.t 24)),
          .gh (.keep [2, 4, 16, 17])]))) <|
      (.region [.op (some 26) none false (.bin .add (.t 17) (.c (.int .i64 1))),
        .op (some 17) none false (.mv (.t 26)),
        .gh (.keep [2, 4, 16, 17])])))))))) <|
  (.seq (.region [.op (some 27) none false (.fieldAddr 1 (.t 4)),
    .op (some 28) none false (.load false 1 (.t 27)),
    .call (some 29) none (.c (.func 24)) [(.t 28)],
    .gh (.keep [2, 4])]) <|
  (.seq (.region [.gh (.frz 114), .gh (.frz 124), .op (some 30) none false (.load true 3 (.t 4)),
    .op none none false (.store 3 (.t 2) (.t 30)),
    .op (some 3) none false (.mv (.c (.int .i64 0))),
    .gh (.keep [2, 3])]) <|
  .ret))))))
theorem tr_arena_New : trCode Try.prog Try.f12.ntmps (Try.f12.body.getD .skip) = some ac_arena_New.erase := by kernel_rfl
theorem fn_arena_New : Try.prog.funcs[12]? = some Try.f12 := by kernel_rfl
theorem bd_arena_New : Try.f12.body = some (Try.f12.body.getD .skip) := by kernel_rfl
theorem rs_arena_New : Try.f12.results.toList.mapM (trRes Try.prog) = some [.cell 2 true 3, .tmp 3] := by kernel_rfl
theorem go_arena_New {Y : YT} {kb : Nat} {args : List AV} {ob : Ob} {K : AV → Ob → Prop} (ks : Option (List Nat)) (hl : args.length ≤ 31) (h : AP Try.prog Y kb ac_arena_New (endK [.cell 2 true 3, .tmp 3] ks K) (mkTm 0 args) ob) : FnA Try.prog Y 12 args ob K :=
  FnA_of_awp hm fn_arena_New (by kernel_rfl) bd_arena_New tr_arena_New rs_arena_New ks hl h.out
def ar0 : Ar := ⟨[], [], 0⟩
def ar1 : Ar := ⟨[⟨0, 0, 0, 0⟩], [0], 0⟩
set_option maxHeartbeats 4000000 in
theorem c_new65 : PureA Try.prog 12 [.fv (.int .i64 65)] (resE (ar0, 1)) := by
  refine ⟨fun Y => ?_⟩
  refine go_arena_New (kb := 100) (some []) (by simp) ?_
  unfold ac_arena_New
  repeat' (first
      | ((with_reducible refine ap_id ?_); have zT := zS; (repeat (first | clear ze | revert ze)); exact zT.out)
      | ((with_reducible apply w_dseq); intro zS)
      | ((fail_if_success exact (Hd.mk trivial : Hd True)); (with_reducible refine Hd.mk ?_))
      | with_reducible refine w_seq fun K1 zn zx zr => ?_
      | with_reducible refine w_region fun K1 zq => ?_
      | with_reducible refine w_draw fun K1 zq => ?_
      | with_reducible refine w_block fun K1 yn yb yx yr => ?_
      | with_reducible refine w_skip ?_
      | with_reducible refine w_ret ?_
      | with_reducible refine w_exit ?_
      | ((with_reducible refine w_gh ?_); simp)
      | ((with_reducible refine zq _ _ ?_); clear zq)
      | ((with_reducible refine zn _ _ ?_); clear zn zx zr)
      | ((with_reducible refine zr _ _ ?_); clear zn zx zr)
      | ((with_reducible refine zx _ _ _ ?_); clear zn zx zr)
      | ((with_reducible refine yn _ _ ?_); clear yn yb yx yr)
      | ((with_reducible refine yb _ _ ?_); clear yn yb yx yr)
      | ((with_reducible refine yr _ _ ?_); clear yn yb yx yr)
      | ((with_reducible refine yx _ _ _ (by decide) ?_); clear yn yb yx yr)
      | ((with_reducible refine e_endn ?_); simp)
      | ((with_reducible refine e_endr ?_); simp)
      | with_reducible refine e_un ?_
      | with_reducible refine e_ux ?_
      | with_reducible refine e_ur ?_
      | ((with_reducible refine u_step ?_); (try simp))
      | ((with_reducible apply s_rangeF); (case hc => rfl); intro zel zrr)
      | ((with_reducible apply o_yld); (case hf => rfl))
      | ((with_reducible refine rf_go ?h1 ?h2 ?_); (case h1 => rfl); (case h2 => first | rfl | simp); simp [tputs])
      | ((with_reducible refine r_an ?h1 ?_); (case h1 => first | rfl | simp); simp)
      | ((with_reducible refine r_bn ?h1 ?_); (case h1 => first | rfl | simp); simp)
      | ((with_reducible refine r_bx ?h1 ?_); (case h1 => first | rfl | simp); simp)
      | ((with_reducible refine r_br ?h1 ?_); (case h1 => first | rfl | simp); simp)
      | ((with_reducible refine f_en ?h1 ?_); (case h1 => rfl); simp)
      | ((with_reducible refine f_ex ?h1 ?_); (case h1 => rfl); simp)
      | ((with_reducible refine f_er ?h1 ?_); (case h1 => rfl); simp)
      | with_reducible refine e_loopx ?_
      | with_reducible refine e_loopr ?_
      | ((with_reducible refine c_true ?hc ?_); (case hc => rfl))
      | ((with_reducible refine c_false ?hc ?_); (case hc => rfl))
      | (rw [sls_some _ _ (by omega)]; simp [Sl.fv])
      | (rw [sls_get _ _ (by omega)]; simp [Sl.fv])
      | (rw [ints_get _ _ (by omega)]; simp)
      | rw [i64_in _ (by omega)]
      | ((with_reducible refine o_bin ?_); ((first | ((with_reducible apply o_lss); (case hx => rfl); (case hy => rfl); (case hk => rfl)) | ((with_reducible apply o_leq); (case hx => rfl); (case hy => rfl); (case hk => rfl)) | ((with_reducible apply o_gtr); (case hx => rfl); (case hy => rfl); (case hk => rfl)) | ((with_reducible apply o_geq); (case hx => rfl); (case hy => rfl); (case hk => rfl)) | ((with_reducible apply o_eql); (case hx => rfl); (case hy => rfl); (case hk => rfl)) | ((with_reducible apply o_neq); (case hx => rfl); (case hy => rfl); (case hk => rfl))) <;> (intro h; first | (exfalso; omega) | simp)))
      | ((with_reducible apply o_eqnil); (case hx => rfl); all_goals (try intro h); all_goals simp)
      | ((with_reducible refine o_op fun _ _ => ?_); simp)
      | ((with_reducible refine o_gt ?hg ?_); (case hg => rfl))
      | ((with_reducible apply o_gs); (case hg => rfl); (case hn => rfl); simp only [skipD, tdel, Nat.reduceEqDiff, reduceIte])
      | ((with_reducible refine o_cgt ?hg ?_); (case hg => rfl))
      | ((with_reducible apply o_cgs); (case hg => rfl); (case hn => rfl); simp only [skipD, tdel, Nat.reduceEqDiff, reduceIte])
      | with_reducible refine o_nil ?_
      | with_reducible exact d_stop
      | ((with_reducible refine d_done ?_); (try simp))
      | ((with_reducible refine d_bin ?_); ((first | ((with_reducible apply d_lss); (case hx => rfl); (case hy => rfl); (case hk => rfl)) | ((with_reducible apply d_leq); (case hx => rfl); (case hy => rfl); (case hk => rfl)) | ((with_reducible apply d_gtr); (case hx => rfl); (case hy => rfl); (case hk => rfl)) | ((with_reducible apply d_geq); (case hx => rfl); (case hy => rfl); (case hk => rfl)) | ((with_reducible apply d_eql); (case hx => rfl); (case hy => rfl); (case hk => rfl)) | ((with_reducible apply d_neq); (case hx => rfl); (case hy => rfl); (case hk => rfl))) <;> (intro h; first | (exfalso; omega) | simp)))
      | ((with_reducible refine d_fst ?_); simp [and_assoc])
      | ((with_reducible refine d_fst_gt ?hg ?_); (case hg => rfl))
      | ((with_reducible apply d_fst_gs); (case hg => rfl); (case hn => rfl); simp only [skipD, tdel, Nat.reduceEqDiff, reduceIte])
      | ((with_reducible refine d_main_gt ?hg ?_); (case hg => rfl))
      | ((with_reducible apply d_main_gs); (case hg => rfl); (case hn => rfl); all_goals (try simp only [skipD, tdel, Nat.reduceEqDiff, reduceIte]))
      | ((with_reducible refine d_call_gt ?hg ?_); (case hg => rfl))
      | ((with_reducible apply d_call_gs); (case hg => rfl); (case hn => rfl); all_goals (try simp only [skipD, tdel, Nat.reduceEqDiff, reduceIte]))
      | ((with_reducible refine d_main (fun ze => ?_) d_stop); simp)
      | ((with_reducible refine d_main (fun ze => ?_) ?_); simp)
      | ((with_reducible refine o_gh ?_); simp)
      | (with_reducible refine isR_mk ?_ (by simp))
      | (with_reducible refine And.intro (by omega) ?_)
      | (refine And.intro (ints_hd _) ?_)
      | (refine And.intro (sls_hd _) ?_)
      | (with_reducible refine fun (ze : Nat) => ?_)
      | ((with_reducible apply o_call); (case hf => rfl))
      | ((with_reducible apply o_callc); (case hf => rfl))
      | fail)
  all_goals try simp [resE, Ar.av, ar0, sls, ints]
set_option maxHeartbeats 4000000 in
theorem c_new1 : PureA Try.prog 12 [.fv (.int .i64 1)] (resE (ar1, 0)) := by
  refine ⟨fun Y => ?_⟩
  refine go_arena_New (kb := 100) (some []) (by simp) ?_
  unfold ac_arena_New
  repeat' (first
      | ((with_reducible refine ap_id ?_); have zT := zS; (repeat (first | clear ze | revert ze)); exact zT.out)
      | ((with_reducible apply w_dseq); intro zS)
      | ((fail_if_success exact (Hd.mk trivial : Hd True)); (with_reducible refine Hd.mk ?_))
      | with_reducible refine w_seq fun K1 zn zx zr => ?_
      | with_reducible refine w_region fun K1 zq => ?_
      | with_reducible refine w_draw fun K1 zq => ?_
      | with_reducible refine w_block fun K1 yn yb yx yr => ?_
      | with_reducible refine w_skip ?_
      | with_reducible refine w_ret ?_
      | with_reducible refine w_exit ?_
      | ((with_reducible refine w_gh ?_); simp)
      | ((with_reducible refine zq _ _ ?_); clear zq)
      | ((with_reducible refine zn _ _ ?_); clear zn zx zr)
      | ((with_reducible refine zr _ _ ?_); clear zn zx zr)
      | ((with_reducible refine zx _ _ _ ?_); clear zn zx zr)
      | ((with_reducible refine yn _ _ ?_); clear yn yb yx yr)
      | ((with_reducible refine yb _ _ ?_); clear yn yb yx yr)
      | ((with_reducible refine yr _ _ ?_); clear yn yb yx yr)
      | ((with_reducible refine yx _ _ _ (by decide) ?_); clear yn yb yx yr)
      | ((with_reducible refine e_endn ?_); simp)
      | ((with_reducible refine e_endr ?_); simp)
      | with_reducible refine e_un ?_
      | with_reducible refine e_ux ?_
      | with_reducible refine e_ur ?_
      | ((with_reducible refine u_step ?_); (try simp))
      | ((with_reducible apply s_rangeF); (case hc => rfl); intro zel zrr)
      | ((with_reducible apply o_yld); (case hf => rfl))
      | ((with_reducible refine rf_go ?h1 ?h2 ?_); (case h1 => rfl); (case h2 => first | rfl | simp); simp [tputs])
      | ((with_reducible refine r_an ?h1 ?_); (case h1 => first | rfl | simp); simp)
      | ((with_reducible refine r_bn ?h1 ?_); (case h1 => first | rfl | simp); simp)
      | ((with_reducible refine r_bx ?h1 ?_); (case h1 => first | rfl | simp); simp)
      | ((with_reducible refine r_br ?h1 ?_); (case h1 => first | rfl | simp); simp)
      | ((with_reducible refine f_en ?h1 ?_); (case h1 => rfl); simp)
      | ((with_reducible refine f_ex ?h1 ?_); (case h1 => rfl); simp)
      | ((with_reducible refine f_er ?h1 ?_); (case h1 => rfl); simp)
      | with_reducible refine e_loopx ?_
      | with_reducible refine e_loopr ?_
      | ((with_reducible refine c_true ?hc ?_); (case hc => rfl))
      | ((with_reducible refine c_false ?hc ?_); (case hc => rfl))
      | (rw [sls_some _ _ (by omega)]; simp [Sl.fv])
      | (rw [sls_get _ _ (by omega)]; simp [Sl.fv])
      | (rw [ints_get _ _ (by omega)]; simp)
      | rw [i64_in _ (by omega)]
      | ((with_reducible refine o_bin ?_); ((first | ((with_reducible apply o_lss); (case hx => rfl); (case hy => rfl); (case hk => rfl)) | ((with_reducible apply o_leq); (case hx => rfl); (case hy => rfl); (case hk => rfl)) | ((with_reducible apply o_gtr); (case hx => rfl); (case hy => rfl); (case hk => rfl)) | ((with_reducible apply o_geq); (case hx => rfl); (case hy => rfl); (case hk => rfl)) | ((with_reducible apply o_eql); (case hx => rfl); (case hy => rfl); (case hk => rfl)) | ((with_reducible apply o_neq); (case hx => rfl); (case hy => rfl); (case hk => rfl))) <;> (intro h; first | (exfalso; omega) | simp)))
      | ((with_reducible apply o_eqnil); (case hx => rfl); all_goals (try intro h); all_goals simp)
      | ((with_reducible refine o_op fun _ _ => ?_); simp)
      | ((with_reducible refine o_gt ?hg ?_); (case hg => rfl))
      | ((with_reducible apply o_gs); (case hg => rfl); (case hn => rfl); simp only [skipD, tdel, Nat.reduceEqDiff, reduceIte])
      | ((with_reducible refine o_cgt ?hg ?_); (case hg => rfl))
      | ((with_reducible apply o_cgs); (case hg => rfl); (case hn => rfl); simp only [skipD, tdel, Nat.reduceEqDiff, reduceIte])
      | with_reducible refine o_nil ?_
      | with_reducible exact d_stop
      | ((with_reducible refine d_done ?_); (try simp))
      | ((with_reducible refine d_bin ?_); ((first | ((with_reducible apply d_lss); (case hx => rfl); (case hy => rfl); (case hk => rfl)) | ((with_reducible apply d_leq); (case hx => rfl); (case hy => rfl); (case hk => rfl)) | ((with_reducible apply d_gtr); (case hx => rfl); (case hy => rfl); (case hk => rfl)) | ((with_reducible apply d_geq); (case hx => rfl); (case hy => rfl); (case hk => rfl)) | ((with_reducible apply d_eql); (case hx => rfl); (case hy => rfl); (case hk => rfl)) | ((with_reducible apply d_neq); (case hx => rfl); (case hy => rfl); (case hk => rfl))) <;> (intro h; first | (exfalso; omega) | simp)))
      | ((with_reducible refine d_fst ?_); simp [and_assoc])
      | ((with_reducible refine d_fst_gt ?hg ?_); (case hg => rfl))
      | ((with_reducible apply d_fst_gs); (case hg => rfl); (case hn => rfl); simp only [skipD, tdel, Nat.reduceEqDiff, reduceIte])
      | ((with_reducible refine d_main_gt ?hg ?_); (case hg => rfl))
      | ((with_reducible apply d_main_gs); (case hg => rfl); (case hn => rfl); all_goals (try simp only [skipD, tdel, Nat.reduceEqDiff, reduceIte]))
      | ((with_reducible refine d_call_gt ?hg ?_); (case hg => rfl))
      | ((with_reducible apply d_call_gs); (case hg => rfl); (case hn => rfl); all_goals (try simp only [skipD, tdel, Nat.reduceEqDiff, reduceIte]))
      | ((with_reducible refine d_main (fun ze => ?_) d_stop); simp)
      | ((with_reducible refine d_main (fun ze => ?_) ?_); simp)
      | ((with_reducible refine o_gh ?_); simp)
      | (with_reducible refine isR_mk ?_ (by simp))
      | (with_reducible refine s_unroll 3 ?_)
      | ((with_reducible refine go_slices_Reverse_int_int (kb := 26000) none (by simp) ?_); unfold ac_slices_Reverse_int_int)
      | (with_reducible refine And.intro (by omega) ?_)
      | (refine And.intro (ints_hd _) ?_)
      | (refine And.intro (sls_hd _) ?_)
      | (with_reducible refine fun (ze : Nat) => ?_)
      | ((with_reducible apply o_call); (case hf => rfl))
      | ((with_reducible apply o_callc); (case hf => rfl))
      | fail)
  all_goals try simp [resE, Ar.av, ar1, sls, ints, Sl.fv]
end Go.Proofs.RL
