/- Functions of the arena seat. Conditions: none. -/
import Derived.Test.YthefjfcphgiggaaArJ
set_option linter.unusedVariables false
set_option linter.unusedSimpArgs false
namespace Go.Proofs.RL
def ac_arena_Live : AC := (.seq (.region [.op (some 1) none false (.box (.t 0)),
    .op (some 2) none false (.mv (.c (.int .i64 0))),
    .gh (.keep [1])]) <|
  (.seq (.region [.op (some 3) none false (.mv (.c (.int .i64 0)))]) <|
  (.seq (.seq (.region [.op (some 6) none false (.fieldAddr 0 (.t 1)),
    .op (some 7) none false (.load false 1 (.t 6)),
    .op (some 8) none false (.len false (.t 7)),
    .op (some 9) none false (.mv (.c (.int .i64 0))), .gh (.bnd 7), .gh (.keepO []),
    .gh (.keep [3, 7, 8, 9])]) <|
  (.block 0 <|
    (.gh (.keep [3, 7, 8, 9]) (.loop <|
      (.seq (.region [.op (some 10) none false (.bin .lss (.t 9) (.t 8))]) <|
      (.seq (.cond (.t 10)
        .skip
        (.exit 0)) <|
      (.seq (.block 1 <|
        (.seq (.region [.op (some 11) none false (.idxA 4 (.t 7) (.t 9)),
          .op (some 12) none false (.load true 4 (.t 11)),
          .op (some 5) none false (.alloc [(.int .i64 0), (.int .i64 0), (.int .i64 0), (.int .i64 0)]),
          .op none none false (.store 4 (.t 5) (.t 12)),
          .gh (.keep [3, 5, 7, 8, 9])]) <|
        (.seq (.region [.op (some 13) none false (.fieldAddr 1 (.t 5)),
          .op (some 14) none false (.load false 1 (.t 13)),
          .op (some 15) none false (.bin .neq (.t 14) (.c (.int .i64 0))),
          .gh (.keep [3, 7, 8, 9, 15])]) <|
        (.cond (.t 15)
          (.region [.op (some 16) none false (.mv (.t 3)),
            .op (some 17) none false (.bin .add (.t 16) (.c (.int .i64 1))),
            .op (some 3) none false (.mv (.t 17)),
            .gh (.keep [3, 7, 8, 9])])
          .skip)))) <|
      (.region [.op (some 18) none false (.bin .add (.t 9) (.c (.int .i64 1))),
        .op (some 9) none false (.mv (.t 18)), .gh (.keepO []),
        .gh (.keep [3, 7, 8, 9])])))))))) <|
  (.seq (.region [.op (some 19) none false (.mv (.t 3)),
    .op (some 2) none false (.mv (.t 19)),
    .gh (.keep [2])]) <|
  .ret))))
theorem tr_arena_Live : trCode Try.prog Try.f7.ntmps (Try.f7.body.getD .skip) = some ac_arena_Live.erase := by kernel_rfl
theorem fn_arena_Live : Try.prog.funcs[7]? = some Try.f7 := by kernel_rfl
theorem bd_arena_Live : Try.f7.body = some (Try.f7.body.getD .skip) := by kernel_rfl
theorem rs_arena_Live : Try.f7.results.toList.mapM (trRes Try.prog) = some [.tmp 2] := by kernel_rfl
theorem go_arena_Live {Y : YT} {kb : Nat} {args : List AV} {ob : Ob} {K : AV → Ob → Prop} (ks : Option (List Nat)) (hl : args.length ≤ 20) (h : AP Try.prog Y kb ac_arena_Live (endK [.tmp 2] ks K) (mkTm 0 args) ob) : FnA Try.prog Y 7 args ob K :=
  FnA_of_awp hm fn_arena_Live (by kernel_rfl) bd_arena_Live tr_arena_Live rs_arena_Live ks hl h.out
theorem c_arena_Live (a : Ar) : PureA Try.prog 7 [a.av] (.fv (.int .i64 (live a.sl))) := by
  refine ⟨fun Y => ?_⟩
  refine go_arena_Live (kb := 100) (some []) (by simp) ?_
  unfold ac_arena_Live
  unfold Ar.av
  repeat' (first
      | ((with_reducible refine ap_id ?_); have zT := zS; (repeat (first | clear ze | revert ze)); exact zT.out)
      | ((with_reducible apply w_dseq); intro zS)
      | ((fail_if_success exact (Hd.mk trivial : Hd True)); (with_reducible refine Hd.mk ?_))
      | with_reducible refine w_seq fun K1 zn zx zr => ?_
      | with_reducible refine w_region fun K1 zq => ?_
      | with_reducible refine w_draw fun K1 zq => ?_
      | with_reducible refine w_block fun K1 yn yb yx yr => ?_
      | with_reducible refine w_skip ?_
      | with_reducible refine w_ret ?_
      | with_reducible refine w_exit ?_
      | ((with_reducible refine w_gh ?_); simp)
      | ((with_reducible refine zq _ _ ?_); clear zq)
      | ((with_reducible refine zn _ _ ?_); clear zn zx zr)
      | ((with_reducible refine zr _ _ ?_); clear zn zx zr)
      | ((with_reducible refine zx _ _ _ ?_); clear zn zx zr)
      | ((with_reducible refine yn _ _ ?_); clear yn yb yx yr)
      | ((with_reducible refine yb _ _ ?_); clear yn yb yx yr)
      | ((with_reducible refine yr _ _ ?_); clear yn yb yx yr)
      | ((with_reducible refine yx _ _ _ (by decide) ?_); clear yn yb yx yr)
      | ((with_reducible refine e_endn ?_); simp)
      | ((with_reducible refine e_endr ?_); simp)
      | with_reducible refine e_un ?_
      | with_reducible refine e_ux ?_
      | with_reducible refine e_ur ?_
      | ((with_reducible refine u_step ?_); (try simp))
      | ((with_reducible apply s_rangeF); (case hc => rfl); intro zel zrr)
      | ((with_reducible apply o_yld); (case hf => rfl))
      | ((with_reducible refine rf_go ?h1 ?h2 ?_); (case h1 => rfl); (case h2 => first | rfl | simp); simp [tputs])
      | ((with_reducible refine r_an ?h1 ?_); (case h1 => first | rfl | simp); simp)
      | ((with_reducible refine r_bn ?h1 ?_); (case h1 => first | rfl | simp); simp)
      | ((with_reducible refine r_bx ?h1 ?_); (case h1 => first | rfl | simp); simp)
      | ((with_reducible refine r_br ?h1 ?_); (case h1 => first | rfl | simp); simp)
      | ((with_reducible refine f_en ?h1 ?_); (case h1 => rfl); simp)
      | ((with_reducible refine f_ex ?h1 ?_); (case h1 => rfl); simp)
      | ((with_reducible refine f_er ?h1 ?_); (case h1 => rfl); simp)
      | with_reducible refine e_loopx ?_
      | with_reducible refine e_loopr ?_
      | ((with_reducible refine c_true ?hc ?_); (case hc => rfl))
      | ((with_reducible refine c_false ?hc ?_); (case hc => rfl))
      | (rw [sls_some _ _ (by omega)]; simp [Sl.fv])
      | (rw [sls_get _ _ (by omega)]; simp [Sl.fv])
      | (rw [ints_get _ _ (by omega)]; simp)
      | rw [i64_in _ (by omega)]
      | ((with_reducible refine o_bin ?_); ((first | ((with_reducible apply o_lss); (case hx => rfl); (case hy => rfl); (case hk => rfl)) | ((with_reducible apply o_leq); (case hx => rfl); (case hy => rfl); (case hk => rfl)) | ((with_reducible apply o_gtr); (case hx => rfl); (case hy => rfl); (case hk => rfl)) | ((with_reducible apply o_geq); (case hx => rfl); (case hy => rfl); (case hk => rfl)) | ((with_reducible apply o_eql); (case hx => rfl); (case hy => rfl); (case hk => rfl)) | ((with_reducible apply o_neq); (case hx => rfl); (case hy => rfl); (case hk => rfl))) <;> (intro h; first | (exfalso; omega) | simp)))
      | ((with_reducible apply o_eqnil); (case hx => rfl); all_goals (try intro h); all_goals simp)
      | ((with_reducible refine o_op fun _ _ => ?_); simp)
      | ((with_reducible refine o_gt ?hg ?_); (case hg => rfl))
      | ((with_reducible apply o_gs); (case hg => rfl); (case hn => rfl); simp only [skipD, tdel, Nat.reduceEqDiff, reduceIte])
      | ((with_reducible refine o_cgt ?hg ?_); (case hg => rfl))
      | ((with_reducible apply o_cgs); (case hg => rfl); (case hn => rfl); simp only [skipD, tdel, Nat.reduceEqDiff, reduceIte])
      | with_reducible refine o_nil ?_
      | with_reducible exact d_stop
      | ((with_reducible refine d_done ?_); (try simp))
      | ((with_reducible refine d_bin ?_); ((first | ((with_reducible apply d_lss); (case hx => rfl); (case hy => rfl); (case hk => rfl)) | ((with_reducible apply d_leq); (case hx => rfl); (case hy => rfl); (case hk => rfl)) | ((with_reducible apply d_gtr); (case hx => rfl); (case hy => rfl); (case hk => rfl)) | ((with_reducible apply d_geq); (case hx => rfl); (case hy => rfl); (case hk => rfl)) | ((with_reducible apply d_eql); (case hx => rfl); (case hy => rfl); (case hk => rfl)) | ((with_reducible apply d_neq); (case hx => rfl); (case hy => rfl); (case hk => rfl))) <;> (intro h; first | (exfalso; omega) | simp)))
      | ((with_reducible refine d_fst ?_); simp [and_assoc])
      | ((with_reducible refine d_fst_gt ?hg ?_); (case hg => rfl))
      | ((with_reducible apply d_fst_gs); (case hg => rfl); (case hn => rfl); simp only [skipD, tdel, Nat.reduceEqDiff, reduceIte])
      | ((with_reducible refine d_main_gt ?hg ?_); (case hg => rfl))
      | ((with_reducible apply d_main_gs); (case hg => rfl); (case hn => rfl); all_goals (try simp only [skipD, tdel, Nat.reduceEqDiff, reduceIte]))
      | ((with_reducible refine d_call_gt ?hg ?_); (case hg => rfl))
      | ((with_reducible apply d_call_gs); (case hg => rfl); (case hn => rfl); all_goals (try simp only [skipD, tdel, Nat.reduceEqDiff, reduceIte]))
      | ((with_reducible refine d_main (fun ze => ?_) d_stop); simp)
      | ((with_reducible refine d_main (fun ze => ?_) ?_); simp)
      | ((with_reducible refine o_gh ?_); simp)
      | (with_reducible refine isR_mk ?_ (by simp))
      | (with_reducible refine And.intro (by omega) ?_)
      | (refine And.intro (ints_hd _) ?_)
      | (refine And.intro (sls_hd _) ?_)
      | (with_reducible refine fun (ze : Nat) => ?_)
      | ((with_reducible apply o_call); (case hf => rfl))
      | ((with_reducible apply o_callc); (case hf => rfl))
      | fail)
  intro hlen
  repeat' (first
      | ((with_reducible refine ap_id ?_); have zT := zS; (repeat (first | clear ze | revert ze)); exact zT.out)
      | ((with_reducible apply w_dseq); intro zS)
      | ((fail_if_success exact (Hd.mk trivial : Hd True)); (with_reducible refine Hd.mk ?_))
      | with_reducible refine w_seq fun K1 zn zx zr => ?_
      | with_reducible refine w_region fun K1 zq => ?_
      | with_reducible refine w_draw fun K1 zq => ?_
      | with_reducible refine w_block fun K1 yn yb yx yr => ?_
      | with_reducible refine w_skip ?_
      | with_reducible refine w_ret ?_
      | with_reducible refine w_exit ?_
      | ((with_reducible refine w_gh ?_); simp)
      | ((with_reducible refine zq _ _ ?_); clear zq)
      | ((with_reducible refine zn _ _ ?_); clear zn zx zr)
      | ((with_reducible refine zr _ _ ?_); clear zn zx zr)
      | ((with_reducible refine zx _ _ _ ?_); clear zn zx zr)
      | ((with_reducible refine yn _ _ ?_); clear yn yb yx yr)
      | ((with_reducible refine yb _ _ ?_); clear yn yb yx yr)
      | ((with_reducible refine yr _ _ ?_); clear yn yb yx yr)
      | ((with_reducible refine yx _ _ _ (by decide) ?_); clear yn yb yx yr)
      | ((with_reducible refine e_endn ?_); simp)
      | ((with_reducible refine e_endr ?_); simp)
      | with_reducible refine e_un ?_
      | with_reducible refine e_ux ?_
      | with_reducible refine e_ur ?_
      | ((with_reducible refine u_step ?_); (try simp))
      | ((with_reducible apply s_rangeF); (case hc => rfl); intro zel zrr)
      | ((with_reducible apply o_yld); (case hf => rfl))
      | ((with_reducible refine rf_go ?h1 ?h2 ?_); (case h1 => rfl); (case h2 => first | rfl | simp); simp [tputs])
      | ((with_reducible refine r_an ?h1 ?_); (case h1 => first | rfl | simp); simp)
      | ((with_reducible refine r_bn ?h1 ?_); (case h1 => first | rfl | simp); simp)
      | ((with_reducible refine r_bx ?h1 ?_); (case h1 => first | rfl | simp); simp)
      | ((with_reducible refine r_br ?h1 ?_); (case h1 => first | rfl | simp); simp)
      | ((with_reducible refine f_en ?h1 ?_); (case h1 => rfl); simp)
      | ((with_reducible refine f_ex ?h1 ?_); (case h1 => rfl); simp)
      | ((with_reducible refine f_er ?h1 ?_); (case h1 => rfl); simp)
      | with_reducible refine e_loopx ?_
      | with_reducible refine e_loopr ?_
      | ((with_reducible refine c_true ?hc ?_); (case hc => rfl))
      | ((with_reducible refine c_false ?hc ?_); (case hc => rfl))
      | (rw [sls_some _ _ (by omega)]; simp [Sl.fv])
      | (rw [sls_get _ _ (by omega)]; simp [Sl.fv])
      | (rw [ints_get _ _ (by omega)]; simp)
      | rw [i64_in _ (by omega)]
      | ((with_reducible refine o_bin ?_); ((first | ((with_reducible apply o_lss); (case hx => rfl); (case hy => rfl); (case hk => rfl)) | ((with_reducible apply o_leq); (case hx => rfl); (case hy => rfl); (case hk => rfl)) | ((with_reducible apply o_gtr); (case hx => rfl); (case hy => rfl); (case hk => rfl)) | ((with_reducible apply o_geq); (case hx => rfl); (case hy => rfl); (case hk => rfl)) | ((with_reducible apply o_eql); (case hx => rfl); (case hy => rfl); (case hk => rfl)) | ((with_reducible apply o_neq); (case hx => rfl); (case hy => rfl); (case hk => rfl))) <;> (intro h; first | (exfalso; omega) | simp)))
      | ((with_reducible apply o_eqnil); (case hx => rfl); all_goals (try intro h); all_goals simp)
      | ((with_reducible refine o_op fun _ _ => ?_); simp)
      | ((with_reducible refine o_gt ?hg ?_); (case hg => rfl))
      | ((with_reducible apply o_gs); (case hg => rfl); (case hn => rfl); simp only [skipD, tdel, Nat.reduceEqDiff, reduceIte])
      | ((with_reducible refine o_cgt ?hg ?_); (case hg => rfl))
      | ((with_reducible apply o_cgs); (case hg => rfl); (case hn => rfl); simp only [skipD, tdel, Nat.reduceEqDiff, reduceIte])
      | with_reducible refine o_nil ?_
      | with_reducible exact d_stop
      | ((with_reducible refine d_done ?_); (try simp))
      | ((with_reducible refine d_bin ?_); ((first | ((with_reducible apply d_lss); (case hx => rfl); (case hy => rfl); (case hk => rfl)) | ((with_reducible apply d_leq); (case hx => rfl); (case hy => rfl); (case hk => rfl)) | ((with_reducible apply d_gtr); (case hx => rfl); (case hy => rfl); (case hk => rfl)) | ((with_reducible apply d_geq); (case hx => rfl); (case hy => rfl); (case hk => rfl)) | ((with_reducible apply d_eql); (case hx => rfl); (case hy => rfl); (case hk => rfl)) | ((with_reducible apply d_neq); (case hx => rfl); (case hy => rfl); (case hk => rfl))) <;> (intro h; first | (exfalso; omega) | simp)))
      | ((with_reducible refine d_fst ?_); simp [and_assoc])
      | ((with_reducible refine d_fst_gt ?hg ?_); (case hg => rfl))
      | ((with_reducible apply d_fst_gs); (case hg => rfl); (case hn => rfl); simp only [skipD, tdel, Nat.reduceEqDiff, reduceIte])
      | ((with_reducible refine d_main_gt ?hg ?_); (case hg => rfl))
      | ((with_reducible apply d_main_gs); (case hg => rfl); (case hn => rfl); all_goals (try simp only [skipD, tdel, Nat.reduceEqDiff, reduceIte]))
      | ((with_reducible refine d_call_gt ?hg ?_); (case hg => rfl))
      | ((with_reducible apply d_call_gs); (case hg => rfl); (case hn => rfl); all_goals (try simp only [skipD, tdel, Nat.reduceEqDiff, reduceIte]))
      | ((with_reducible refine d_main (fun ze => ?_) d_stop); simp)
      | ((with_reducible refine d_main (fun ze => ?_) ?_); simp)
      | ((with_reducible refine o_gh ?_); simp)
      | (with_reducible refine isR_mk ?_ (by simp))
      | (with_reducible refine And.intro (by omega) ?_)
      | (refine And.intro (ints_hd _) ?_)
      | (refine And.intro (sls_hd _) ?_)
      | (with_reducible refine fun (ze : Nat) => ?_)
      | ((with_reducible apply o_call); (case hf => rfl))
      | ((with_reducible apply o_callc); (case hf => rfl))
      | fail)
  refine s_loop (fun m tm ob => ∃ i : Nat, m = a.sl.length - i ∧ i ≤ a.sl.length ∧ tm = [(3, .fv (.int .i64 (live (a.sl.take i)))), (7, .fv (.sl none none (sls a.sl))), (8, .fv (.int .i64 a.sl.length)), (9, .fv (.int .i64 i))] ∧ ob = []) a.sl.length ⟨0, rfl, by omega, by simp [live], rfl⟩ ?_
  rintro m _ _ ⟨i, rfl, hi, rfl, rfl⟩
  have hl2 : (live (a.sl.take i) : Int) ≤ i := by
    have : live (a.sl.take i) ≤ i := Nat.le_trans List.countP_le_length (by simp; omega)
    omega
  by_cases hlt : i < a.sl.length
  · have ht := Hd.mk (live_take a.sl i hlt)
    repeat' (first
        | ((with_reducible refine ap_id ?_); have zT := zS; (repeat (first | clear ze | revert ze)); exact zT.out)
        | ((with_reducible apply w_dseq); intro zS)
        | ((fail_if_success exact (Hd.mk trivial : Hd True)); (with_reducible refine Hd.mk ?_))
        | with_reducible refine w_seq fun K1 zn zx zr => ?_
        | with_reducible refine w_region fun K1 zq => ?_
        | with_reducible refine w_draw fun K1 zq => ?_
        | with_reducible refine w_block fun K1 yn yb yx yr => ?_
        | with_reducible refine w_skip ?_
        | with_reducible refine w_ret ?_
        | with_reducible refine w_exit ?_
        | ((with_reducible refine w_gh ?_); simp)
        | ((with_reducible refine zq _ _ ?_); clear zq)
        | ((with_reducible refine zn _ _ ?_); clear zn zx zr)
        | ((with_reducible refine zr _ _ ?_); clear zn zx zr)
        | ((with_reducible refine zx _ _ _ ?_); clear zn zx zr)
        | ((with_reducible refine yn _ _ ?_); clear yn yb yx yr)
        | ((with_reducible refine yb _ _ ?_); clear yn yb yx yr)
        | ((with_reducible refine yr _ _ ?_); clear yn yb yx yr)
        | ((with_reducible refine yx _ _ _ (by decide) ?_); clear yn yb yx yr)
        | ((with_reducible refine e_endn ?_); simp)
        | ((with_reducible refine e_endr ?_); simp)
        | with_reducible refine e_un ?_
        | with_reducible refine e_ux ?_
        | with_reducible refine e_ur ?_
        | ((with_reducible refine u_step ?_); (try simp))
        | ((with_reducible apply s_rangeF); (case hc => rfl); intro zel zrr)
        | ((with_reducible apply o_yld); (case hf => rfl))
        | ((with_reducible refine rf_go ?h1 ?h2 ?_); (case h1 => rfl); (case h2 => first | rfl | simp); simp [tputs])
        | ((with_reducible refine r_an ?h1 ?_); (case h1 => first | rfl | simp); simp)
        | ((with_reducible refine r_bn ?h1 ?_); (case h1 => first | rfl | simp); simp)
        | ((with_reducible refine r_bx ?h1 ?_); (case h1 => first | rfl | simp); simp)
        | ((with_reducible refine r_br ?h1 ?_); (case h1 => first | rfl | simp); simp)
        | ((with_reducible refine f_en ?h1 ?_); (case h1 => rfl); simp)
        | ((with_reducible refine f_ex ?h1 ?_); (case h1 => rfl); simp)
        | ((with_reducible refine f_er ?h1 ?_); (case h1 => rfl); simp)
        | with_reducible refine e_loopx ?_
        | with_reducible refine e_loopr ?_
        | ((with_reducible refine c_true ?hc ?_); (case hc => rfl))
        | ((with_reducible refine c_false ?hc ?_); (case hc => rfl))
        | (rw [sls_some _ _ (by omega)]; simp [Sl.fv])
        | (rw [sls_get _ _ (by omega)]; simp [Sl.fv])
        | (rw [ints_get _ _ (by omega)]; simp)
        | rw [i64_in _ (by omega)]
        | ((with_reducible refine o_bin ?_); ((first | ((with_reducible apply o_lss); (case hx => rfl); (case hy => rfl); (case hk => rfl)) | ((with_reducible apply o_leq); (case hx => rfl); (case hy => rfl); (case hk => rfl)) | ((with_reducible apply o_gtr); (case hx => rfl); (case hy => rfl); (case hk => rfl)) | ((with_reducible apply o_geq); (case hx => rfl); (case hy => rfl); (case hk => rfl)) | ((with_reducible apply o_eql); (case hx => rfl); (case hy => rfl); (case hk => rfl)) | ((with_reducible apply o_neq); (case hx => rfl); (case hy => rfl); (case hk => rfl))) <;> (intro h; first | (exfalso; omega) | simp)))
        | ((with_reducible apply o_eqnil); (case hx => rfl); all_goals (try intro h); all_goals simp)
        | ((with_reducible refine o_op fun _ _ => ?_); simp)
        | ((with_reducible refine o_gt ?hg ?_); (case hg => rfl))
        | ((with_reducible apply o_gs); (case hg => rfl); (case hn => rfl); simp only [skipD, tdel, Nat.reduceEqDiff, reduceIte])
        | ((with_reducible refine o_cgt ?hg ?_); (case hg => rfl))
        | ((with_reducible apply o_cgs); (case hg => rfl); (case hn => rfl); simp only [skipD, tdel, Nat.reduceEqDiff, reduceIte])
        | with_reducible refine o_nil ?_
        | with_reducible exact d_stop
        | ((with_reducible refine d_done ?_); (try simp))
        | ((with_reducible refine d_bin ?_); ((first | ((with_reducible apply d_lss); (case hx => rfl); (case hy => rfl); (case hk => rfl)) | ((with_reducible apply d_leq); (case hx => rfl); (case hy => rfl); (case hk => rfl)) | ((with_reducible apply d_gtr); (case hx => rfl); (case hy => rfl); (case hk => rfl)) | ((with_reducible apply d_geq); (case hx => rfl); (case hy => rfl); (case hk => rfl)) | ((with_reducible apply d_eql); (case hx => rfl); (case hy => rfl); (case hk => rfl)) | ((with_reducible apply d_neq); (case hx => rfl); (case hy => rfl); (case hk => rfl))) <;> (intro h; first | (exfalso; omega) | simp)))
        | ((with_reducible refine d_fst ?_); simp [and_assoc])
        | ((with_reducible refine d_fst_gt ?hg ?_); (case hg => rfl))
        | ((with_reducible apply d_fst_gs); (case hg => rfl); (case hn => rfl); simp only [skipD, tdel, Nat.reduceEqDiff, reduceIte])
        | ((with_reducible refine d_main_gt ?hg ?_); (case hg => rfl))
        | ((with_reducible apply d_main_gs); (case hg => rfl); (case hn => rfl); all_goals (try simp only [skipD, tdel, Nat.reduceEqDiff, reduceIte]))
        | ((with_reducible refine d_call_gt ?hg ?_); (case hg => rfl))
        | ((with_reducible apply d_call_gs); (case hg => rfl); (case hn => rfl); all_goals (try simp only [skipD, tdel, Nat.reduceEqDiff, reduceIte]))
        | ((with_reducible refine d_main (fun ze => ?_) d_stop); simp)
        | ((with_reducible refine d_main (fun ze => ?_) ?_); simp)
        | ((with_reducible refine o_gh ?_); simp)
        | (with_reducible refine isR_mk ?_ (by simp))
        | (with_reducible refine And.intro (by omega) ?_)
        | (refine And.intro (ints_hd _) ?_)
        | (refine And.intro (sls_hd _) ?_)
        | (with_reducible refine fun (ze : Nat) => ?_)
        | ((with_reducible apply o_call); (case hf => rfl))
        | ((with_reducible apply o_callc); (case hf => rfl))
        | fail)
    all_goals refine e_loopn (a.sl.length - (i + 1)) (by omega) ⟨i + 1, rfl, by omega, ?_, by simp⟩
    · rw [ht.out, if_pos h]; simp
    · rw [ht.out, if_neg h]; simp
  · obtain rfl : i = a.sl.length := by omega
    repeat' (first
        | ((with_reducible refine ap_id ?_); have zT := zS; (repeat (first | clear ze | revert ze)); exact zT.out)
        | ((with_reducible apply w_dseq); intro zS)
        | ((fail_if_success exact (Hd.mk trivial : Hd True)); (with_reducible refine Hd.mk ?_))
        | with_reducible refine w_seq fun K1 zn zx zr => ?_
        | with_reducible refine w_region fun K1 zq => ?_
        | with_reducible refine w_draw fun K1 zq => ?_
        | with_reducible refine w_block fun K1 yn yb yx yr => ?_
        | with_reducible refine w_skip ?_
        | with_reducible refine w_ret ?_
        | with_reducible refine w_exit ?_
        | ((with_reducible refine w_gh ?_); simp)
        | ((with_reducible refine zq _ _ ?_); clear zq)
        | ((with_reducible refine zn _ _ ?_); clear zn zx zr)
        | ((with_reducible refine zr _ _ ?_); clear zn zx zr)
        | ((with_reducible refine zx _ _ _ ?_); clear zn zx zr)
        | ((with_reducible refine yn _ _ ?_); clear yn yb yx yr)
        | ((with_reducible refine yb _ _ ?_); clear yn yb yx yr)
        | ((with_reducible refine yr _ _ ?_); clear yn yb yx yr)
        | ((with_reducible refine yx _ _ _ (by decide) ?_); clear yn yb yx yr)
        | ((with_reducible refine e_endn ?_); simp)
        | ((with_reducible refine e_endr ?_); simp)
        | with_reducible refine e_un ?_
        | with_reducible refine e_ux ?_
        | with_reducible refine e_ur ?_
        | ((with_reducible refine u_step ?_); (try simp))
        | ((with_reducible apply s_rangeF); (case hc => rfl); intro zel zrr)
        | ((with_reducible apply o_yld); (case hf => rfl))
        | ((with_reducible refine rf_go ?h1 ?h2 ?_); (case h1 => rfl); (case h2 => first | rfl | simp); simp [tputs])
        | ((with_reducible refine r_an ?h1 ?_); (case h1 => first | rfl | simp); simp)
        | ((with_reducible refine r_bn ?h1 ?_); (case h1 => first | rfl | simp); simp)
        | ((with_reducible refine r_bx ?h1 ?_); (case h1 => first | rfl | simp); simp)
        | ((with_reducible refine r_br ?h1 ?_); (case h1 => first | rfl | simp); simp)
        | ((with_reducible refine f_en ?h1 ?_); (case h1 => rfl); simp)
        | ((with_reducible refine f_ex ?h1 ?_); (case h1 => rfl); simp)
        | ((with_reducible refine f_er ?h1 ?_); (case h1 => rfl); simp)
        | with_reducible refine e_loopx ?_
        | with_reducible refine e_loopr ?_
        | ((with_reducible refine c_true ?hc ?_); (case hc => rfl))
        | ((with_reducible refine c_false ?hc ?_); (case hc => rfl))
        | (rw [sls_some _ _ (by omega)]; simp [Sl.fv])
        | (rw [sls_get _ _ (by omega)]; simp [Sl.fv])
        | (rw [ints_get _ _ (by omega)]; simp)
        | rw [i64_in _ (by omega)]
        | ((with_reducible refine o_bin ?_); ((first | ((with_reducible apply o_lss); (case hx => rfl); (case hy => rfl); (case hk => rfl)) | ((with_reducible apply o_leq); (case hx => rfl); (case hy => rfl); (case hk => rfl)) | ((with_reducible apply o_gtr); (case hx => rfl); (case hy => rfl); (case hk => rfl)) | ((with_reducible apply o_geq); (case hx => rfl); (case hy => rfl); (case hk => rfl)) | ((with_reducible apply o_eql); (case hx => rfl); (case hy => rfl); (case hk => rfl)) | ((with_reducible apply o_neq); (case hx => rfl); (case hy => rfl); (case hk => rfl))) <;> (intro h; first | (exfalso; omega) | simp)))
        | ((with_reducible apply o_eqnil); (case hx => rfl); all_goals (try intro h); all_goals simp)
        | ((with_reducible refine o_op fun _ _ => ?_); simp)
        | ((with_reducible refine o_gt ?hg ?_); (case hg => rfl))
        | ((with_reducible apply o_gs); (case hg => rfl); (case hn => rfl); simp only [skipD, tdel, Nat.reduceEqDiff, reduceIte])
        | ((with_reducible refine o_cgt ?hg ?_); (case hg => rfl))
        | ((with_reducible apply o_cgs); (case hg => rfl); (case hn => rfl); simp only [skipD, tdel, Nat.reduceEqDiff, reduceIte])
        | with_reducible refine o_nil ?_
        | with_reducible exact d_stop
        | ((with_reducible refine d_done ?_); (try simp))
        | ((with_reducible refine d_bin ?_); ((first | ((with_reducible apply d_lss); (case hx => rfl); (case hy => rfl); (case hk => rfl)) | ((with_reducible apply d_leq); (case hx => rfl); (case hy => rfl); (case hk => rfl)) | ((with_reducible apply d_gtr); (case hx => rfl); (case hy => rfl); (case hk => rfl)) | ((with_reducible apply d_geq); (case hx => rfl); (case hy => rfl); (case hk => rfl)) | ((with_reducible apply d_eql); (case hx => rfl); (case hy => rfl); (case hk => rfl)) | ((with_reducible apply d_neq); (case hx => rfl); (case hy => rfl); (case hk => rfl))) <;> (intro h; first | (exfalso; omega) | simp)))
        | ((with_reducible refine d_fst ?_); simp [and_assoc])
        | ((with_reducible refine d_fst_gt ?hg ?_); (case hg => rfl))
        | ((with_reducible apply d_fst_gs); (case hg => rfl); (case hn => rfl); simp only [skipD, tdel, Nat.reduceEqDiff, reduceIte])
        | ((with_reducible refine d_main_gt ?hg ?_); (case hg => rfl))
        | ((with_reducible apply d_main_gs); (case hg => rfl); (case hn => rfl); all_goals (try simp only [skipD, tdel, Nat.reduceEqDiff, reduceIte]))
        | ((with_reducible refine d_call_gt ?hg ?_); (case hg => rfl))
        | ((with_reducible apply d_call_gs); (case hg => rfl); (case hn => rfl); all_goals (try simp only [skipD, tdel, Nat.reduceEqDiff, reduceIte]))
        | ((with_reducible refine d_main (fun ze => ?_) d_stop); simp)
        | ((with_reducible refine d_main (fun ze => ?_) ?_); simp)
        | ((with_reducible refine o_gh ?_); simp)
        | (with_reducible refine isR_mk ?_ (by simp))
        | (with_reducible refine And.intro (by omega) ?_)
        | (refine And.intro (ints_hd _) ?_)
        | (refine And.intro (sls_hd _) ?_)
        | (with_reducible refine fun (ze : Nat) => ?_)
        | ((with_reducible apply o_call); (case hf => rfl))
        | ((with_reducible apply o_callc); (case hf => rfl))
        | fail)
    simp
end Go.Proofs.RL
