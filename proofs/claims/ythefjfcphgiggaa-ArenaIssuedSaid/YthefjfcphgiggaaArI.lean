/- Functions of the arena seat. Conditions: none. -/
import Derived.Test.YthefjfcphgiggaaArH
set_option linter.unusedVariables false
set_option linter.unusedSimpArgs false
namespace Go.Proofs.RL
theorem sls_ge (l : List Sl) (i : Nat) (h : i < (sls l).length) : (sls l)[i] = (l[i]'(by simpa using h)).fv := by simp [sls]
def ac_slices_Clone_api_Slot_api_Slot : AC := (.seq (.region [.op (some 2) none false (.mv (.c (.sl (some true) (some 0) [])))]) <|
  (.seq (.seq (.region [.op (some 3) none false (.mv (.t 0)),
    .op (some 4) none false (.eqNil 0 false (.t 3)),
    .gh (.keep [0, 4])]) <|
  (.cond (.t 4)
    (.seq (.region [.op (some 2) none false (.mv (.c (.sl (some true) (some 0) [])))]) <|
    .ret)
    .skip)) <|
  (.seq (.region [.op (some 5) none false (.buildSl 4 0 [(.int .i64 0), (.int .i64 0), (.int .i64 0), (.int .i64 0)] []),
    .op (some 6) none false (.mv (.t 0)),
    .op (some 7) none false (.append 4 32 (.t 5) (.t 6)),
    .op (some 2) none false (.mv (.t 7)),
    .gh (.keep [2])]) <|
  .ret)))
theorem tr_slices_Clone_api_Slot_api_Slot : trCode Try.prog Try.f33.ntmps (Try.f33.body.getD .skip) = some ac_slices_Clone_api_Slot_api_Slot.erase := by kernel_rfl
theorem fn_slices_Clone_api_Slot_api_Slot : Try.prog.funcs[33]? = some Try.f33 := by kernel_rfl
theorem bd_slices_Clone_api_Slot_api_Slot : Try.f33.body = some (Try.f33.body.getD .skip) := by kernel_rfl
theorem rs_slices_Clone_api_Slot_api_Slot : Try.f33.results.toList.mapM (trRes Try.prog) = some [.tmp 2] := by kernel_rfl
theorem go_slices_Clone_api_Slot_api_Slot {Y : YT} {kb : Nat} {args : List AV} {ob : Ob} {K : AV → Ob → Prop} (ks : Option (List Nat)) (hl : args.length ≤ 8) (h : AP Try.prog Y kb ac_slices_Clone_api_Slot_api_Slot (endK [.tmp 2] ks K) (mkTm 0 args) ob) : FnA Try.prog Y 33 args ob K :=
  FnA_of_awp hm fn_slices_Clone_api_Slot_api_Slot (by kernel_rfl) bd_slices_Clone_api_Slot_api_Slot tr_slices_Clone_api_Slot_api_Slot rs_slices_Clone_api_Slot_api_Slot ks hl h.out
def ac_slices_Clone_int_int : AC := (.seq (.region [.op (some 2) none false (.mv (.c (.sl (some true) (some 0) [])))]) <|
  (.seq (.seq (.region [.op (some 3) none false (.mv (.t 0)),
    .op (some 4) none false (.eqNil 0 false (.t 3)),
    .gh (.keep [0, 4])]) <|
  (.cond (.t 4)
    (.seq (.region [.op (some 2) none false (.mv (.c (.sl (some true) (some 0) [])))]) <|
    .ret)
    .skip)) <|
  (.seq (.region [.op (some 5) none false (.buildSl 1 0 [(.int .i64 0)] []),
    .op (some 6) none false (.mv (.t 0)),
    .op (some 7) none false (.append 1 8 (.t 5) (.t 6)),
    .op (some 2) none false (.mv (.t 7)),
    .gh (.keep [2])]) <|
  .ret)))
theorem tr_slices_Clone_int_int : trCode Try.prog Try.f20.ntmps (Try.f20.body.getD .skip) = some ac_slices_Clone_int_int.erase := by kernel_rfl
theorem fn_slices_Clone_int_int : Try.prog.funcs[20]? = some Try.f20 := by kernel_rfl
theorem bd_slices_Clone_int_int : Try.f20.body = some (Try.f20.body.getD .skip) := by kernel_rfl
theorem rs_slices_Clone_int_int : Try.f20.results.toList.mapM (trRes Try.prog) = some [.tmp 2] := by kernel_rfl
theorem go_slices_Clone_int_int {Y : YT} {kb : Nat} {args : List AV} {ob : Ob} {K : AV → Ob → Prop} (ks : Option (List Nat)) (hl : args.length ≤ 8) (h : AP Try.prog Y kb ac_slices_Clone_int_int (endK [.tmp 2] ks K) (mkTm 0 args) ob) : FnA Try.prog Y 20 args ob K :=
  FnA_of_awp hm fn_slices_Clone_int_int (by kernel_rfl) bd_slices_Clone_int_int tr_slices_Clone_int_int rs_slices_Clone_int_int ks hl h.out
def ac_slices_Clone_int_int_P : AC := (.seq (.region [.op (some 2) none false (.mv (.c (.sl (some true) (some 0) [])))]) <|
  (.seq (.seq (.region [.op (some 3) none false (.mv (.t 0)),
    .op (some 4) none false (.eqNil 0 false (.t 3)),
    .gh (.keep [0, 4])]) <|
  (.cond (.t 4)
    (.seq (.region [.op (some 2) none false (.mv (.c (.sl (some true) (some 0) [])))]) <|
    .ret)
    .skip)) <|
  (.seq (.region [.op (some 5) none false (.buildSl 1 0 [(.int .i64 0)] []),
    .op (some 6) none false (.mv (.t 0)),
    .op (some 7) none false (.append 1 8 (.t 5) (.t 6)),
    .op (some 2) none false (.mv (.t 7)), .gh (.frz 3007),
    .gh (.keep [2])]) <|
  .ret)))
theorem tr_slices_Clone_int_int_P : trCode Try.prog Try.f20.ntmps (Try.f20.body.getD .skip) = some ac_slices_Clone_int_int_P.erase := by kernel_rfl
theorem fn_slices_Clone_int_int_P : Try.prog.funcs[20]? = some Try.f20 := by kernel_rfl
theorem bd_slices_Clone_int_int_P : Try.f20.body = some (Try.f20.body.getD .skip) := by kernel_rfl
theorem rs_slices_Clone_int_int_P : Try.f20.results.toList.mapM (trRes Try.prog) = some [.tmp 2] := by kernel_rfl
theorem go_slices_Clone_int_int_P {Y : YT} {kb : Nat} {args : List AV} {ob : Ob} {K : AV → Ob → Prop} (ks : Option (List Nat)) (hl : args.length ≤ 8) (h : AP Try.prog Y kb ac_slices_Clone_int_int_P (endK [.tmp 2] ks K) (mkTm 0 args) ob) : FnA Try.prog Y 20 args ob K :=
  FnA_of_awp hm fn_slices_Clone_int_int_P (by kernel_rfl) bd_slices_Clone_int_int_P tr_slices_Clone_int_int_P rs_slices_Clone_int_int_P ks hl h.out
theorem c_cloneI (l : List Int) (hl : l.length ≤ 1000) : PureA Try.prog 20 [.fv (.sl none none (ints l))] (.fv (.sl none none (ints l))) := by
  refine ⟨fun Y => ?_⟩
  refine go_slices_Clone_int_int_P (kb := 3000) (some []) (by simp) ?_
  unfold ac_slices_Clone_int_int_P
  repeat' (first
      | ((with_reducible refine ap_id ?_); have zT := zS; (repeat (first | clear ze | revert ze)); exact zT.out)
      | ((with_reducible apply w_dseq); intro zS)
      | ((fail_if_success exact (Hd.mk trivial : Hd True)); (with_reducible refine Hd.mk ?_))
      | with_reducible refine w_seq fun K1 zn zx zr => ?_
      | with_reducible refine w_region fun K1 zq => ?_
      | with_reducible refine w_draw fun K1 zq => ?_
      | with_reducible refine w_block fun K1 yn yb yx yr => ?_
      | with_reducible refine w_skip ?_
      | with_reducible refine w_ret ?_
      | with_reducible refine w_exit ?_
      | ((with_reducible refine w_gh ?_); simp)
      | ((with_reducible refine zq _ _ ?_); clear zq)
      | ((with_reducible refine zn _ _ ?_); clear zn zx zr)
      | ((with_reducible refine zr _ _ ?_); clear zn zx zr)
      | ((with_reducible refine zx _ _ _ ?_); clear zn zx zr)
      | ((with_reducible refine yn _ _ ?_); clear yn yb yx yr)
      | ((with_reducible refine yb _ _ ?_); clear yn yb yx yr)
      | ((with_reducible refine yr _ _ ?_); clear yn yb yx yr)
      | ((with_reducible refine yx _ _ _ (by decide) ?_); clear yn yb yx yr)
      | ((with_reducible refine e_endn ?_); simp)
      | ((with_reducible refine e_endr ?_); simp)
      | with_reducible refine e_un ?_
      | with_reducible refine e_ux ?_
      | with_reducible refine e_ur ?_
      | ((with_reducible refine u_step ?_); (try simp))
      | ((with_reducible apply s_rangeF); (case hc => rfl); intro zel zrr)
      | ((with_reducible apply o_yld); (case hf => rfl))
      | ((with_reducible refine rf_go ?h1 ?h2 ?_); (case h1 => rfl); (case h2 => first | rfl | simp); simp [tputs])
      | ((with_reducible refine r_an ?h1 ?_); (case h1 => first | rfl | simp); simp)
      | ((with_reducible refine r_bn ?h1 ?_); (case h1 => first | rfl | simp); simp)
      | ((with_reducible refine r_bx ?h1 ?_); (case h1 => first | rfl | simp); simp)
      | ((with_reducible refine r_br ?h1 ?_); (case h1 => first | rfl | simp); simp)
      | ((with_reducible refine f_en ?h1 ?_); (case h1 => rfl); simp)
      | ((with_reducible refine f_ex ?h1 ?_); (case h1 => rfl); simp)
      | ((with_reducible refine f_er ?h1 ?_); (case h1 => rfl); simp)
      | with_reducible refine e_loopx ?_
      | with_reducible refine e_loopr ?_
      | ((with_reducible refine c_true ?hc ?_); (case hc => rfl))
      | ((with_reducible refine c_false ?hc ?_); (case hc => rfl))
      | (rw [sls_some _ _ (by omega)]; simp [Sl.fv])
      | (rw [sls_get _ _ (by omega)]; simp [Sl.fv])
      | (rw [ints_get _ _ (by omega)]; simp)
      | rw [i64_in _ (by omega)]
      | ((with_reducible refine o_bin ?_); ((first | ((with_reducible apply o_lss); (case hx => rfl); (case hy => rfl); (case hk => rfl)) | ((with_reducible apply o_leq); (case hx => rfl); (case hy => rfl); (case hk => rfl)) | ((with_reducible apply o_gtr); (case hx => rfl); (case hy => rfl); (case hk => rfl)) | ((with_reducible apply o_geq); (case hx => rfl); (case hy => rfl); (case hk => rfl)) | ((with_reducible apply o_eql); (case hx => rfl); (case hy => rfl); (case hk => rfl)) | ((with_reducible apply o_neq); (case hx => rfl); (case hy => rfl); (case hk => rfl))) <;> (intro h; first | (exfalso; omega) | simp)))
      | ((with_reducible apply o_eqnil); (case hx => rfl); all_goals (try intro h); all_goals simp)
      | ((with_reducible refine o_op fun _ _ => ?_); simp)
      | ((with_reducible refine o_gt ?hg ?_); (case hg => rfl))
      | ((with_reducible apply o_gs); (case hg => rfl); (case hn => rfl); simp only [skipD, tdel, Nat.reduceEqDiff, reduceIte])
      | ((with_reducible refine o_cgt ?hg ?_); (case hg => rfl))
      | ((with_reducible apply o_cgs); (case hg => rfl); (case hn => rfl); simp only [skipD, tdel, Nat.reduceEqDiff, reduceIte])
      | with_reducible refine o_nil ?_
      | with_reducible exact d_stop
      | ((with_reducible refine d_done ?_); (try simp))
      | ((with_reducible refine d_bin ?_); ((first | ((with_reducible apply d_lss); (case hx => rfl); (case hy => rfl); (case hk => rfl)) | ((with_reducible apply d_leq); (case hx => rfl); (case hy => rfl); (case hk => rfl)) | ((with_reducible apply d_gtr); (case hx => rfl); (case hy => rfl); (case hk => rfl)) | ((with_reducible apply d_geq); (case hx => rfl); (case hy => rfl); (case hk => rfl)) | ((with_reducible apply d_eql); (case hx => rfl); (case hy => rfl); (case hk => rfl)) | ((with_reducible apply d_neq); (case hx => rfl); (case hy => rfl); (case hk => rfl))) <;> (intro h; first | (exfalso; omega) | simp)))
      | ((with_reducible refine d_fst ?_); simp [and_assoc])
      | ((with_reducible refine d_fst_gt ?hg ?_); (case hg => rfl))
      | ((with_reducible apply d_fst_gs); (case hg => rfl); (case hn => rfl); simp only [skipD, tdel, Nat.reduceEqDiff, reduceIte])
      | ((with_reducible refine d_main_gt ?hg ?_); (case hg => rfl))
      | ((with_reducible apply d_main_gs); (case hg => rfl); (case hn => rfl); all_goals (try simp only [skipD, tdel, Nat.reduceEqDiff, reduceIte]))
      | ((with_reducible refine d_call_gt ?hg ?_); (case hg => rfl))
      | ((with_reducible apply d_call_gs); (case hg => rfl); (case hn => rfl); all_goals (try simp only [skipD, tdel, Nat.reduceEqDiff, reduceIte]))
      | ((with_reducible refine d_main (fun ze => ?_) d_stop); simp)
      | ((with_reducible refine d_main (fun ze => ?_) ?_); simp)
      | ((with_reducible refine o_gh ?_); simp)
      | (with_reducible refine isR_mk ?_ (by simp))
      | (with_reducible refine And.intro (by omega) ?_)
      | (refine And.intro (ints_hd _) ?_)
      | (refine And.intro (sls_hd _) ?_)
      | (with_reducible refine fun (ze : Nat) => ?_)
      | ((with_reducible apply o_call); (case hf => rfl))
      | ((with_reducible apply o_callc); (case hf => rfl))
      | fail)
  all_goals simp [*]
def CloneK (sz n : Nat) (xs : List (List FV)) : AV → Ob → Prop := fun r ob' => (n = 0 ∧ r = .fv (.sl (some true) (some 0) []) ∧ ob' = []) ∨ ∃ e, r = .ms 3007 e sz 0 n none ∧ ob' = [(3007, e, .row sz (xs.map (·.map .fv)))]
theorem c_cloneIo (l : List Int) (hl : l.length ≤ 1000) (Y : YT) : FnA Try.prog Y 20 [.fv (.sl none none (ints l))] [] (CloneK 1 l.length (ints l)) := by
  refine go_slices_Clone_int_int (kb := 3000) (some [3007]) (by simp) ?_
  unfold ac_slices_Clone_int_int
  repeat' (first
      | ((with_reducible refine ap_id ?_); have zT := zS; (repeat (first | clear ze | revert ze)); exact zT.out)
      | ((with_reducible apply w_dseq); intro zS)
      | ((fail_if_success exact (Hd.mk trivial : Hd True)); (with_reducible refine Hd.mk ?_))
      | with_reducible refine w_seq fun K1 zn zx zr => ?_
      | with_reducible refine w_region fun K1 zq => ?_
      | with_reducible refine w_draw fun K1 zq => ?_
      | with_reducible refine w_block fun K1 yn yb yx yr => ?_
      | with_reducible refine w_skip ?_
      | with_reducible refine w_ret ?_
      | with_reducible refine w_exit ?_
      | ((with_reducible refine w_gh ?_); simp)
      | ((with_reducible refine zq _ _ ?_); clear zq)
      | ((with_reducible refine zn _ _ ?_); clear zn zx zr)
      | ((with_reducible refine zr _ _ ?_); clear zn zx zr)
      | ((with_reducible refine zx _ _ _ ?_); clear zn zx zr)
      | ((with_reducible refine yn _ _ ?_); clear yn yb yx yr)
      | ((with_reducible refine yb _ _ ?_); clear yn yb yx yr)
      | ((with_reducible refine yr _ _ ?_); clear yn yb yx yr)
      | ((with_reducible refine yx _ _ _ (by decide) ?_); clear yn yb yx yr)
      | ((with_reducible refine e_endn ?_); simp)
      | ((with_reducible refine e_endr ?_); simp)
      | with_reducible refine e_un ?_
      | with_reducible refine e_ux ?_
      | with_reducible refine e_ur ?_
      | ((with_reducible refine u_step ?_); (try simp))
      | ((with_reducible apply s_rangeF); (case hc => rfl); intro zel zrr)
      | ((with_reducible apply o_yld); (case hf => rfl))
      | ((with_reducible refine rf_go ?h1 ?h2 ?_); (case h1 => rfl); (case h2 => first | rfl | simp); simp [tputs])
      | ((with_reducible refine r_an ?h1 ?_); (case h1 => first | rfl | simp); simp)
      | ((with_reducible refine r_bn ?h1 ?_); (case h1 => first | rfl | simp); simp)
      | ((with_reducible refine r_bx ?h1 ?_); (case h1 => first | rfl | simp); simp)
      | ((with_reducible refine r_br ?h1 ?_); (case h1 => first | rfl | simp); simp)
      | ((with_reducible refine f_en ?h1 ?_); (case h1 => rfl); simp)
      | ((with_reducible refine f_ex ?h1 ?_); (case h1 => rfl); simp)
      | ((with_reducible refine f_er ?h1 ?_); (case h1 => rfl); simp)
      | with_reducible refine e_loopx ?_
      | with_reducible refine e_loopr ?_
      | ((with_reducible refine c_true ?hc ?_); (case hc => rfl))
      | ((with_reducible refine c_false ?hc ?_); (case hc => rfl))
      | (rw [sls_some _ _ (by omega)]; simp [Sl.fv])
      | (rw [sls_get _ _ (by omega)]; simp [Sl.fv])
      | (rw [ints_get _ _ (by omega)]; simp)
      | rw [i64_in _ (by omega)]
      | ((with_reducible refine o_bin ?_); ((first | ((with_reducible apply o_lss); (case hx => rfl); (case hy => rfl); (case hk => rfl)) | ((with_reducible apply o_leq); (case hx => rfl); (case hy => rfl); (case hk => rfl)) | ((with_reducible apply o_gtr); (case hx => rfl); (case hy => rfl); (case hk => rfl)) | ((with_reducible apply o_geq); (case hx => rfl); (case hy => rfl); (case hk => rfl)) | ((with_reducible apply o_eql); (case hx => rfl); (case hy => rfl); (case hk => rfl)) | ((with_reducible apply o_neq); (case hx => rfl); (case hy => rfl); (case hk => rfl))) <;> (intro h; first | (exfalso; omega) | simp)))
      | ((with_reducible apply o_eqnil); (case hx => rfl); all_goals (try intro h); all_goals simp)
      | ((with_reducible refine o_op fun _ _ => ?_); simp)
      | ((with_reducible refine o_gt ?hg ?_); (case hg => rfl))
      | ((with_reducible apply o_gs); (case hg => rfl); (case hn => rfl); simp only [skipD, tdel, Nat.reduceEqDiff, reduceIte])
      | ((with_reducible refine o_cgt ?hg ?_); (case hg => rfl))
      | ((with_reducible apply o_cgs); (case hg => rfl); (case hn => rfl); simp only [skipD, tdel, Nat.reduceEqDiff, reduceIte])
      | with_reducible refine o_nil ?_
      | with_reducible exact d_stop
      | ((with_reducible refine d_done ?_); (try simp))
      | ((with_reducible refine d_bin ?_); ((first | ((with_reducible apply d_lss); (case hx => rfl); (case hy => rfl); (case hk => rfl)) | ((with_reducible apply d_leq); (case hx => rfl); (case hy => rfl); (case hk => rfl)) | ((with_reducible apply d_gtr); (case hx => rfl); (case hy => rfl); (case hk => rfl)) | ((with_reducible apply d_geq); (case hx => rfl); (case hy => rfl); (case hk => rfl)) | ((with_reducible apply d_eql); (case hx => rfl); (case hy => rfl); (case hk => rfl)) | ((with_reducible apply d_neq); (case hx => rfl); (case hy => rfl); (case hk => rfl))) <;> (intro h; first | (exfalso; omega) | simp)))
      | ((with_reducible refine d_fst ?_); simp [and_assoc])
      | ((with_reducible refine d_fst_gt ?hg ?_); (case hg => rfl))
      | ((with_reducible apply d_fst_gs); (case hg => rfl); (case hn => rfl); simp only [skipD, tdel, Nat.reduceEqDiff, reduceIte])
      | ((with_reducible refine d_main_gt ?hg ?_); (case hg => rfl))
      | ((with_reducible apply d_main_gs); (case hg => rfl); (case hn => rfl); all_goals (try simp only [skipD, tdel, Nat.reduceEqDiff, reduceIte]))
      | ((with_reducible refine d_call_gt ?hg ?_); (case hg => rfl))
      | ((with_reducible apply d_call_gs); (case hg => rfl); (case hn => rfl); all_goals (try simp only [skipD, tdel, Nat.reduceEqDiff, reduceIte]))
      | ((with_reducible refine d_main (fun ze => ?_) d_stop); simp)
      | ((with_reducible refine d_main (fun ze => ?_) ?_); simp)
      | ((with_reducible refine o_gh ?_); simp)
      | (with_reducible refine isR_mk ?_ (by simp))
      | (with_reducible refine And.intro (by omega) ?_)
      | (refine And.intro (ints_hd _) ?_)
      | (refine And.intro (sls_hd _) ?_)
      | (with_reducible refine fun (ze : Nat) => ?_)
      | ((with_reducible apply o_call); (case hf => rfl))
      | ((with_reducible apply o_callc); (case hf => rfl))
      | fail)
  · have : l = [] := by simpa [ints] using h
    subst this
    exact .inl (by simp)
  · exact .inr ⟨_, rfl, rfl⟩
theorem c_cloneSo (l : List Sl) (hl : l.length ≤ 1000) (Y : YT) : FnA Try.prog Y 33 [.fv (.sl none none (sls l))] [] (CloneK 4 l.length (sls l)) := by
  refine go_slices_Clone_api_Slot_api_Slot (kb := 3000) (some [3007]) (by simp) ?_
  unfold ac_slices_Clone_api_Slot_api_Slot
  repeat' (first
      | ((with_reducible refine ap_id ?_); have zT := zS; (repeat (first | clear ze | revert ze)); exact zT.out)
      | ((with_reducible apply w_dseq); intro zS)
      | ((fail_if_success exact (Hd.mk trivial : Hd True)); (with_reducible refine Hd.mk ?_))
      | with_reducible refine w_seq fun K1 zn zx zr => ?_
      | with_reducible refine w_region fun K1 zq => ?_
      | with_reducible refine w_draw fun K1 zq => ?_
      | with_reducible refine w_block fun K1 yn yb yx yr => ?_
      | with_reducible refine w_skip ?_
      | with_reducible refine w_ret ?_
      | with_reducible refine w_exit ?_
      | ((with_reducible refine w_gh ?_); simp)
      | ((with_reducible refine zq _ _ ?_); clear zq)
      | ((with_reducible refine zn _ _ ?_); clear zn zx zr)
      | ((with_reducible refine zr _ _ ?_); clear zn zx zr)
      | ((with_reducible refine zx _ _ _ ?_); clear zn zx zr)
      | ((with_reducible refine yn _ _ ?_); clear yn yb yx yr)
      | ((with_reducible refine yb _ _ ?_); clear yn yb yx yr)
      | ((with_reducible refine yr _ _ ?_); clear yn yb yx yr)
      | ((with_reducible refine yx _ _ _ (by decide) ?_); clear yn yb yx yr)
      | ((with_reducible refine e_endn ?_); simp)
      | ((with_reducible refine e_endr ?_); simp)
      | with_reducible refine e_un ?_
      | with_reducible refine e_ux ?_
      | with_reducible refine e_ur ?_
      | ((with_reducible refine u_step ?_); (try simp))
      | ((with_reducible apply s_rangeF); (case hc => rfl); intro zel zrr)
      | ((with_reducible apply o_yld); (case hf => rfl))
      | ((with_reducible refine rf_go ?h1 ?h2 ?_); (case h1 => rfl); (case h2 => first | rfl | simp); simp [tputs])
      | ((with_reducible refine r_an ?h1 ?_); (case h1 => first | rfl | simp); simp)
      | ((with_reducible refine r_bn ?h1 ?_); (case h1 => first | rfl | simp); simp)
      | ((with_reducible refine r_bx ?h1 ?_); (case h1 => first | rfl | simp); simp)
      | ((with_reducible refine r_br ?h1 ?_); (case h1 => first | rfl | simp); simp)
      | ((with_reducible refine f_en ?h1 ?_); (case h1 => rfl); simp)
      | ((with_reducible refine f_ex ?h1 ?_); (case h1 => rfl); simp)
      | ((with_reducible refine f_er ?h1 ?_); (case h1 => rfl); simp)
      | with_reducible refine e_loopx ?_
      | with_reducible refine e_loopr ?_
      | ((with_reducible refine c_true ?hc ?_); (case hc => rfl))
      | ((with_reducible refine c_false ?hc ?_); (case hc => rfl))
      | (rw [sls_some _ _ (by omega)]; simp [Sl.fv])
      | (rw [sls_get _ _ (by omega)]; simp [Sl.fv])
      | (rw [ints_get _ _ (by omega)]; simp)
      | rw [i64_in _ (by omega)]
      | ((with_reducible refine o_bin ?_); ((first | ((with_reducible apply o_lss); (case hx => rfl); (case hy => rfl); (case hk => rfl)) | ((with_reducible apply o_leq); (case hx => rfl); (case hy => rfl); (case hk => rfl)) | ((with_reducible apply o_gtr); (case hx => rfl); (case hy => rfl); (case hk => rfl)) | ((with_reducible apply o_geq); (case hx => rfl); (case hy => rfl); (case hk => rfl)) | ((with_reducible apply o_eql); (case hx => rfl); (case hy => rfl); (case hk => rfl)) | ((with_reducible apply o_neq); (case hx => rfl); (case hy => rfl); (case hk => rfl))) <;> (intro h; first | (exfalso; omega) | simp)))
      | ((with_reducible apply o_eqnil); (case hx => rfl); all_goals (try intro h); all_goals simp)
      | ((with_reducible refine o_op fun _ _ => ?_); simp)
      | ((with_reducible refine o_gt ?hg ?_); (case hg => rfl))
      | ((with_reducible apply o_gs); (case hg => rfl); (case hn => rfl); simp only [skipD, tdel, Nat.reduceEqDiff, reduceIte])
      | ((with_reducible refine o_cgt ?hg ?_); (case hg => rfl))
      | ((with_reducible apply o_cgs); (case hg => rfl); (case hn => rfl); simp only [skipD, tdel, Nat.reduceEqDiff, reduceIte])
      | with_reducible refine o_nil ?_
      | with_reducible exact d_stop
      | ((with_reducible refine d_done ?_); (try simp))
      | ((with_reducible refine d_bin ?_); ((first | ((with_reducible apply d_lss); (case hx => rfl); (case hy => rfl); (case hk => rfl)) | ((with_reducible apply d_leq); (case hx => rfl); (case hy => rfl); (case hk => rfl)) | ((with_reducible apply d_gtr); (case hx => rfl); (case hy => rfl); (case hk => rfl)) | ((with_reducible apply d_geq); (case hx => rfl); (case hy => rfl); (case hk => rfl)) | ((with_reducible apply d_eql); (case hx => rfl); (case hy => rfl); (case hk => rfl)) | ((with_reducible apply d_neq); (case hx => rfl); (case hy => rfl); (case hk => rfl))) <;> (intro h; first | (exfalso; omega) | simp)))
      | ((with_reducible refine d_fst ?_); simp [and_assoc])
      | ((with_reducible refine d_fst_gt ?hg ?_); (case hg => rfl))
      | ((with_reducible apply d_fst_gs); (case hg => rfl); (case hn => rfl); simp only [skipD, tdel, Nat.reduceEqDiff, reduceIte])
      | ((with_reducible refine d_main_gt ?hg ?_); (case hg => rfl))
      | ((with_reducible apply d_main_gs); (case hg => rfl); (case hn => rfl); all_goals (try simp only [skipD, tdel, Nat.reduceEqDiff, reduceIte]))
      | ((with_reducible refine d_call_gt ?hg ?_); (case hg => rfl))
      | ((with_reducible apply d_call_gs); (case hg => rfl); (case hn => rfl); all_goals (try simp only [skipD, tdel, Nat.reduceEqDiff, reduceIte]))
      | ((with_reducible refine d_main (fun ze => ?_) d_stop); simp)
      | ((with_reducible refine d_main (fun ze => ?_) ?_); simp)
      | ((with_reducible refine o_gh ?_); simp)
      | (with_reducible refine isR_mk ?_ (by simp))
      | (with_reducible refine And.intro (by omega) ?_)
      | (refine And.intro (ints_hd _) ?_)
      | (refine And.intro (sls_hd _) ?_)
      | (with_reducible refine fun (ze : Nat) => ?_)
      | ((with_reducible apply o_call); (case hf => rfl))
      | ((with_reducible apply o_callc); (case hf => rfl))
      | fail)
  · have : l = [] := by simpa [sls] using h
    subst this
    exact .inl (by simp)
  · exact .inr ⟨_, rfl, rfl⟩

def ac_arena_Alloc_1 : AC := (.draw <|
    .fst (.op (some 4) none false (.mv (.t 0))) <|
    .fst (.op (some 5) none false (.mv (.t 0))) <|
    .fst (.op (some 6) none false (.mv (.t 0))) <|
    .fst (.op (some 7) none false (.load false 1 (.t 1))) <|
    .fst (.op (some 8) none false (.load false 1 (.t 2))) <|
    .fst (.op (some 9) none false (.nilCheck (.t 4))) <|
    .fst (.op (some 10) none false (.fieldAddr 1 (.t 9))) <|
    .main1 [(.t 2), (.t 1)] (.op none none false (.store 1 (.t 10) (.c (.int .i64 1)))) <|
    .fst (.op (some 11) none false (.nilCheck (.t 5))) <|
    .fst (.op (some 12) none false (.fieldAddr 2 (.t 11))) <|
    .main1 [(.t 2)] (.op none none false (.store 1 (.t 12) (.t 7))) <|
    .fst (.op (some 13) none false (.nilCheck (.t 6))) <|
    .fst (.op (some 14) none false (.fieldAddr 3 (.t 13))) <|
    .main1 [] (.op none none false (.store 1 (.t 14) (.t 8))) <|
    .done)
theorem tr_arena_Alloc_1 : trCode Try.prog Try.f19.ntmps (Try.f19.body.getD .skip) = some ac_arena_Alloc_1.erase := by kernel_rfl
theorem fn_arena_Alloc_1 : Try.prog.funcs[19]? = some Try.f19 := by kernel_rfl
theorem bd_arena_Alloc_1 : Try.f19.body = some (Try.f19.body.getD .skip) := by kernel_rfl
theorem rs_arena_Alloc_1 : Try.f19.results.toList.mapM (trRes Try.prog) = some [] := by kernel_rfl
theorem go_arena_Alloc_1 {Y : YT} {kb : Nat} {args : List AV} {ob : Ob} {K : AV → Ob → Prop} (ks : Option (List Nat)) (hl : args.length ≤ 15) (h : AP Try.prog Y kb ac_arena_Alloc_1 (endK [] ks K) (mkTm 0 args) ob) : FnA Try.prog Y 19 args ob K :=
  FnA_of_awp hm fn_arena_Alloc_1 (by kernel_rfl) bd_arena_Alloc_1 tr_arena_Alloc_1 rs_arena_Alloc_1 ks hl h.out
def ac_arena_Release_1 : AC := (.region [.op (some 2) none false (.mv (.t 0)),
    .op (some 3) none false (.mv (.t 0)),
    .op (some 4) none false (.nilCheck (.t 3)),
    .op (some 5) none false (.fieldAddr 0 (.t 4)),
    .op (some 6) none false (.load false 1 (.t 5)),
    .op (some 7) none false (.bin .add (.t 6) (.c (.int .i64 1))),
    .op (some 8) none false (.build [(.int .i64 0), (.int .i64 0), (.int .i64 0), (.int .i64 0)] [(0, 1, (.t 7))]),
    .op (some 9) none false (.nilCheck (.t 2)),
    .op none none false (.store 4 (.t 9) (.t 8)),
    .gh (.keep [])])
theorem tr_arena_Release_1 : trCode Try.prog Try.f23.ntmps (Try.f23.body.getD .skip) = some ac_arena_Release_1.erase := by kernel_rfl
theorem fn_arena_Release_1 : Try.prog.funcs[23]? = some Try.f23 := by kernel_rfl
theorem bd_arena_Release_1 : Try.f23.body = some (Try.f23.body.getD .skip) := by kernel_rfl
theorem rs_arena_Release_1 : Try.f23.results.toList.mapM (trRes Try.prog) = some [] := by kernel_rfl
theorem go_arena_Release_1 {Y : YT} {kb : Nat} {args : List AV} {ob : Ob} {K : AV → Ob → Prop} (ks : Option (List Nat)) (hl : args.length ≤ 10) (h : AP Try.prog Y kb ac_arena_Release_1 (endK [] ks K) (mkTm 0 args) ob) : FnA Try.prog Y 23 args ob K :=
  FnA_of_awp hm fn_arena_Release_1 (by kernel_rfl) bd_arena_Release_1 tr_arena_Release_1 rs_arena_Release_1 ks hl h.out
def ac_arena_modify : AC := (.seq (.region [.op (some 3) none false (.box (.t 0)),
    .op (some 6) none false (.alloc [(.sl (some true) (some 0) []), (.sl (some true) (some 0) []), (.int .i64 0)]),
    .gh (.keep [1, 2, 3, 6])]) <|
  (.seq (.region [.op (some 7) none false (.fieldAddr 0 (.t 3)),
    .op (some 8) none false (.load false 1 (.t 7)),
    .call (some 9) none (.c (.func 33)) [(.t 8)],
    .op (some 10) none false (.fieldAddr 0 (.t 3)),
    .op none none false (.store 1 (.t 10) (.t 9)),
    .gh (.keep [1, 2, 3, 6])]) <|
  (.seq (.region [.op (some 11) none false (.mv (.t 2)),
    .op (some 12) none false (.fieldAddr 0 (.t 3)),
    .op (some 13) none false (.load false 1 (.t 12)),
    .op (some 14) none false (.mv (.t 1)),
    .op (some 15) none false (.idxA 4 (.t 13) (.t 14)),
    .call (some 16) none (.t 11) [(.t 15)],
    .gh (.keep [3, 6])]) <|
  (.seq (.region [.gh (.frz 3007), .op (some 17) none false (.load true 3 (.t 3)),
    .op none none false (.store 3 (.t 6) (.t 17)),
    .gh (.keep [6])]) <|
  .ret))))
theorem tr_arena_modify : trCode Try.prog Try.f18.ntmps (Try.f18.body.getD .skip) = some ac_arena_modify.erase := by kernel_rfl
theorem fn_arena_modify : Try.prog.funcs[18]? = some Try.f18 := by kernel_rfl
theorem bd_arena_modify : Try.f18.body = some (Try.f18.body.getD .skip) := by kernel_rfl
theorem rs_arena_modify : Try.f18.results.toList.mapM (trRes Try.prog) = some [.cell 6 true 3] := by kernel_rfl
theorem go_arena_modify {Y : YT} {kb : Nat} {args : List AV} {ob : Ob} {K : AV → Ob → Prop} (ks : Option (List Nat)) (hl : args.length ≤ 18) (h : AP Try.prog Y kb ac_arena_modify (endK [.cell 6 true 3] ks K) (mkTm 0 args) ob) : FnA Try.prog Y 18 args ob K :=
  FnA_of_awp hm fn_arena_modify (by kernel_rfl) bd_arena_modify tr_arena_modify rs_arena_modify ks hl h.out
set_option maxHeartbeats 4000000 in
theorem c_modifyA (a : Ar) (i : Nat) (t q : Int) (e3 e9 : Nat) (hi : i < a.sl.length) (hs : a.sl.length ≤ 64) (Y : YT) :
    FnA Try.prog Y 18 [a.av, .fv (.int .i64 i), .clo 19 [] [.ptr 103 e3 0, .ptr 109 e9 0]] [(103, e3, .var [.fv (.int .i64 t)]), (109, e9, .var [.fv (.int .i64 q)])]
      (fun r ob' => r = Ar.av { a with sl := a.sl.set i ⟨(a.sl[i]?.getD default).g, 1, t, q⟩ } ∧ ob' = [(103, e3, .var [.fv (.int .i64 t)]), (109, e9, .var [.fv (.int .i64 q)])]) := by
  refine go_arena_modify (kb := 1000) (some [103, 109]) (by simp) ?_
  unfold ac_arena_modify Ar.av
  repeat' (first
      | ((with_reducible refine ap_id ?_); have zT := zS; (repeat (first | clear ze | revert ze)); exact zT.out)
      | ((with_reducible apply w_dseq); intro zS)
      | ((fail_if_success exact (Hd.mk trivial : Hd True)); (with_reducible refine Hd.mk ?_))
      | with_reducible refine w_seq fun K1 zn zx zr => ?_
      | with_reducible refine w_region fun K1 zq => ?_
      | with_reducible refine w_draw fun K1 zq => ?_
      | with_reducible refine w_block fun K1 yn yb yx yr => ?_
      | with_reducible refine w_skip ?_
      | with_reducible refine w_ret ?_
      | with_reducible refine w_exit ?_
      | ((with_reducible refine w_gh ?_); simp)
      | ((with_reducible refine zq _ _ ?_); clear zq)
      | ((with_reducible refine zn _ _ ?_); clear zn zx zr)
      | ((with_reducible refine zr _ _ ?_); clear zn zx zr)
      | ((with_reducible refine zx _ _ _ ?_); clear zn zx zr)
      | ((with_reducible refine yn _ _ ?_); clear yn yb yx yr)
      | ((with_reducible refine yb _ _ ?_); clear yn yb yx yr)
      | ((with_reducible refine yr _ _ ?_); clear yn yb yx yr)
      | ((with_reducible refine yx _ _ _ (by decide) ?_); clear yn yb yx yr)
      | ((with_reducible refine e_endn ?_); simp)
      | ((with_reducible refine e_endr ?_); simp)
      | with_reducible refine e_un ?_
      | with_reducible refine e_ux ?_
      | with_reducible refine e_ur ?_
      | ((with_reducible refine u_step ?_); (try simp))
      | ((with_reducible apply s_rangeF); (case hc => rfl); intro zel zrr)
      | ((with_reducible apply o_yld); (case hf => rfl))
      | ((with_reducible refine rf_go ?h1 ?h2 ?_); (case h1 => rfl); (case h2 => first | rfl | simp); simp [tputs])
      | ((with_reducible refine r_an ?h1 ?_); (case h1 => first | rfl | simp); simp)
      | ((with_reducible refine r_bn ?h1 ?_); (case h1 => first | rfl | simp); simp)
      | ((with_reducible refine r_bx ?h1 ?_); (case h1 => first | rfl | simp); simp)
      | ((with_reducible refine r_br ?h1 ?_); (case h1 => first | rfl | simp); simp)
      | ((with_reducible refine f_en ?h1 ?_); (case h1 => rfl); simp)
      | ((with_reducible refine f_ex ?h1 ?_); (case h1 => rfl); simp)
      | ((with_reducible refine f_er ?h1 ?_); (case h1 => rfl); simp)
      | with_reducible refine e_loopx ?_
      | with_reducible refine e_loopr ?_
      | ((with_reducible refine c_true ?hc ?_); (case hc => rfl))
      | ((with_reducible refine c_false ?hc ?_); (case hc => rfl))
      | (rw [sls_some _ _ (by omega)]; simp [Sl.fv])
      | (rw [sls_get _ _ (by omega)]; simp [Sl.fv])
      | (rw [ints_get _ _ (by omega)]; simp)
      | rw [i64_in _ (by omega)]
      | ((with_reducible refine o_bin ?_); ((first | ((with_reducible apply o_lss); (case hx => rfl); (case hy => rfl); (case hk => rfl)) | ((with_reducible apply o_leq); (case hx => rfl); (case hy => rfl); (case hk => rfl)) | ((with_reducible apply o_gtr); (case hx => rfl); (case hy => rfl); (case hk => rfl)) | ((with_reducible apply o_geq); (case hx => rfl); (case hy => rfl); (case hk => rfl)) | ((with_reducible apply o_eql); (case hx => rfl); (case hy => rfl); (case hk => rfl)) | ((with_reducible apply o_neq); (case hx => rfl); (case hy => rfl); (case hk => rfl))) <;> (intro h; first | (exfalso; omega) | simp)))
      | ((with_reducible apply o_eqnil); (case hx => rfl); all_goals (try intro h); all_goals simp)
      | ((with_reducible refine o_op fun _ _ => ?_); simp)
      | ((with_reducible refine o_gt ?hg ?_); (case hg => rfl))
      | ((with_reducible apply o_gs); (case hg => rfl); (case hn => rfl); simp only [skipD, tdel, Nat.reduceEqDiff, reduceIte])
      | ((with_reducible refine o_cgt ?hg ?_); (case hg => rfl))
      | ((with_reducible apply o_cgs); (case hg => rfl); (case hn => rfl); simp only [skipD, tdel, Nat.reduceEqDiff, reduceIte])
      | with_reducible refine o_nil ?_
      | with_reducible exact d_stop
      | ((with_reducible refine d_done ?_); (try simp))
      | ((with_reducible refine d_bin ?_); ((first | ((with_reducible apply d_lss); (case hx => rfl); (case hy => rfl); (case hk => rfl)) | ((with_reducible apply d_leq); (case hx => rfl); (case hy => rfl); (case hk => rfl)) | ((with_reducible apply d_gtr); (case hx => rfl); (case hy => rfl); (case hk => rfl)) | ((with_reducible apply d_geq); (case hx => rfl); (case hy => rfl); (case hk => rfl)) | ((with_reducible apply d_eql); (case hx => rfl); (case hy => rfl); (case hk => rfl)) | ((with_reducible apply d_neq); (case hx => rfl); (case hy => rfl); (case hk => rfl))) <;> (intro h; first | (exfalso; omega) | simp)))
      | ((with_reducible refine d_fst ?_); simp [and_assoc])
      | ((with_reducible refine d_fst_gt ?hg ?_); (case hg => rfl))
      | ((with_reducible apply d_fst_gs); (case hg => rfl); (case hn => rfl); simp only [skipD, tdel, Nat.reduceEqDiff, reduceIte])
      | ((with_reducible refine d_main_gt ?hg ?_); (case hg => rfl))
      | ((with_reducible apply d_main_gs); (case hg => rfl); (case hn => rfl); all_goals (try simp only [skipD, tdel, Nat.reduceEqDiff, reduceIte]))
      | ((with_reducible refine d_call_gt ?hg ?_); (case hg => rfl))
      | ((with_reducible apply d_call_gs); (case hg => rfl); (case hn => rfl); all_goals (try simp only [skipD, tdel, Nat.reduceEqDiff, reduceIte]))
      | ((with_reducible refine d_main (fun ze => ?_) d_stop); simp)
      | ((with_reducible refine d_main (fun ze => ?_) ?_); simp)
      | ((with_reducible refine o_gh ?_); simp)
      | (with_reducible refine isR_mk ?_ (by simp))
      | ((with_reducible apply o_call (n := 33)); (case hf => rfl); (refine (c_cloneSo a.sl (by omega) Y).frame0.mono ?_); (rintro r ob1 ⟨ob2, (⟨hnil, rfl, rfl⟩ | ⟨e, rfl, rfl⟩), rfl⟩ <;> first | (exfalso; omega) | simp))
      | ((with_reducible apply o_callc); (case hf => rfl); (refine go_arena_Alloc_1 (kb := 2000) none (by simp) ?_); unfold ac_arena_Alloc_1)
      | (with_reducible refine And.intro (by omega) ?_)
      | (refine And.intro (ints_hd _) ?_)
      | (refine And.intro (sls_hd _) ?_)
      | (with_reducible refine fun (ze : Nat) => ?_)
      | ((with_reducible apply o_call); (case hf => rfl))
      | ((with_reducible apply o_callc); (case hf => rfl))
      | fail)
  simp [Sl.fv, hi]
  repeat' (first
      | ((with_reducible refine ap_id ?_); have zT := zS; (repeat (first | clear ze | revert ze)); exact zT.out)
      | ((with_reducible apply w_dseq); intro zS)
      | ((fail_if_success exact (Hd.mk trivial : Hd True)); (with_reducible refine Hd.mk ?_))
      | with_reducible refine w_seq fun K1 zn zx zr => ?_
      | with_reducible refine w_region fun K1 zq => ?_
      | with_reducible refine w_draw fun K1 zq => ?_
      | with_reducible refine w_block fun K1 yn yb yx yr => ?_
      | with_reducible refine w_skip ?_
      | with_reducible refine w_ret ?_
      | with_reducible refine w_exit ?_
      | ((with_reducible refine w_gh ?_); simp)
      | ((with_reducible refine zq _ _ ?_); clear zq)
      | ((with_reducible refine zn _ _ ?_); clear zn zx zr)
      | ((with_reducible refine zr _ _ ?_); clear zn zx zr)
      | ((with_reducible refine zx _ _ _ ?_); clear zn zx zr)
      | ((with_reducible refine yn _ _ ?_); clear yn yb yx yr)
      | ((with_reducible refine yb _ _ ?_); clear yn yb yx yr)
      | ((with_reducible refine yr _ _ ?_); clear yn yb yx yr)
      | ((with_reducible refine yx _ _ _ (by decide) ?_); clear yn yb yx yr)
      | ((with_reducible refine e_endn ?_); simp)
      | ((with_reducible refine e_endr ?_); simp)
      | with_reducible refine e_un ?_
      | with_reducible refine e_ux ?_
      | with_reducible refine e_ur ?_
      | ((with_reducible refine u_step ?_); (try simp))
      | ((with_reducible apply s_rangeF); (case hc => rfl); intro zel zrr)
      | ((with_reducible apply o_yld); (case hf => rfl))
      | ((with_reducible refine rf_go ?h1 ?h2 ?_); (case h1 => rfl); (case h2 => first | rfl | simp); simp [tputs])
      | ((with_reducible refine r_an ?h1 ?_); (case h1 => first | rfl | simp); simp)
      | ((with_reducible refine r_bn ?h1 ?_); (case h1 => first | rfl | simp); simp)
      | ((with_reducible refine r_bx ?h1 ?_); (case h1 => first | rfl | simp); simp)
      | ((with_reducible refine r_br ?h1 ?_); (case h1 => first | rfl | simp); simp)
      | ((with_reducible refine f_en ?h1 ?_); (case h1 => rfl); simp)
      | ((with_reducible refine f_ex ?h1 ?_); (case h1 => rfl); simp)
      | ((with_reducible refine f_er ?h1 ?_); (case h1 => rfl); simp)
      | with_reducible refine e_loopx ?_
      | with_reducible refine e_loopr ?_
      | ((with_reducible refine c_true ?hc ?_); (case hc => rfl))
      | ((with_reducible refine c_false ?hc ?_); (case hc => rfl))
      | (rw [sls_some _ _ (by omega)]; simp [Sl.fv])
      | (rw [sls_get _ _ (by omega)]; simp [Sl.fv])
      | (rw [ints_get _ _ (by omega)]; simp)
      | rw [i64_in _ (by omega)]
      | ((with_reducible refine o_bin ?_); ((first | ((with_reducible apply o_lss); (case hx => rfl); (case hy => rfl); (case hk => rfl)) | ((with_reducible apply o_leq); (case hx => rfl); (case hy => rfl); (case hk => rfl)) | ((with_reducible apply o_gtr); (case hx => rfl); (case hy => rfl); (case hk => rfl)) | ((with_reducible apply o_geq); (case hx => rfl); (case hy => rfl); (case hk => rfl)) | ((with_reducible apply o_eql); (case hx => rfl); (case hy => rfl); (case hk => rfl)) | ((with_reducible apply o_neq); (case hx => rfl); (case hy => rfl); (case hk => rfl))) <;> (intro h; first | (exfalso; omega) | simp)))
      | ((with_reducible apply o_eqnil); (case hx => rfl); all_goals (try intro h); all_goals simp)
      | ((with_reducible refine o_op fun _ _ => ?_); simp)
      | ((with_reducible refine o_gt ?hg ?_); (case hg => rfl))
      | ((with_reducible apply o_gs); (case hg => rfl); (case hn => rfl); simp only [skipD, tdel, Nat.reduceEqDiff, reduceIte])
      | ((with_reducible refine o_cgt ?hg ?_); (case hg => rfl))
      | ((with_reducible apply o_cgs); (case hg => rfl); (case hn => rfl); simp only [skipD, tdel, Nat.reduceEqDiff, reduceIte])
      | with_reducible refine o_nil ?_
      | with_reducible exact d_stop
      | ((with_reducible refine d_done ?_); (try simp))
      | ((with_reducible refine d_bin ?_); ((first | ((with_reducible apply d_lss); (case hx => rfl); (case hy => rfl); (case hk => rfl)) | ((with_reducible apply d_leq); (case hx => rfl); (case hy => rfl); (case hk => rfl)) | ((with_reducible apply d_gtr); (case hx => rfl); (case hy => rfl); (case hk => rfl)) | ((with_reducible apply d_geq); (case hx => rfl); (case hy => rfl); (case hk => rfl)) | ((with_reducible apply d_eql); (case hx => rfl); (case hy => rfl); (case hk => rfl)) | ((with_reducible apply d_neq); (case hx => rfl); (case hy => rfl); (case hk => rfl))) <;> (intro h; first | (exfalso; omega) | simp)))
      | ((with_reducible refine d_fst ?_); simp [and_assoc])
      | ((with_reducible refine d_fst_gt ?hg ?_); (case hg => rfl))
      | ((with_reducible apply d_fst_gs); (case hg => rfl); (case hn => rfl); simp only [skipD, tdel, Nat.reduceEqDiff, reduceIte])
      | ((with_reducible refine d_main_gt ?hg ?_); (case hg => rfl))
      | ((with_reducible apply d_main_gs); (case hg => rfl); (case hn => rfl); all_goals (try simp only [skipD, tdel, Nat.reduceEqDiff, reduceIte]))
      | ((with_reducible refine d_call_gt ?hg ?_); (case hg => rfl))
      | ((with_reducible apply d_call_gs); (case hg => rfl); (case hn => rfl); all_goals (try simp only [skipD, tdel, Nat.reduceEqDiff, reduceIte]))
      | ((with_reducible refine d_main (fun ze => ?_) d_stop); simp)
      | ((with_reducible refine d_main (fun ze => ?_) ?_); simp)
      | ((with_reducible refine o_gh ?_); simp)
      | (with_reducible refine isR_mk ?_ (by simp))
      | (with_reducible refine And.intro (by omega) ?_)
      | (refine And.intro (ints_hd _) ?_)
      | (refine And.intro (sls_hd _) ?_)
      | (with_reducible refine fun (ze : Nat) => ?_)
      | ((with_reducible apply o_call); (case hf => rfl))
      | ((with_reducible apply o_callc); (case hf => rfl))
      | fail)
  simp [Ar.av, sls_set, Sl.fv, hi]
def ac_arena_modify_B : AC := (.seq (.region [.op (some 3) none false (.box (.t 0)),
    .op (some 6) none false (.alloc [(.sl (some true) (some 0) []), (.sl (some true) (some 0) []), (.int .i64 0)]),
    .gh (.keep [1, 2, 3, 6])]) <|
  (.seq (.region [.op (some 7) none false (.fieldAddr 0 (.t 3)),
    .op (some 8) none false (.load false 1 (.t 7)),
    .call (some 9) none (.c (.func 33)) [(.t 8)],
    .op (some 10) none false (.fieldAddr 0 (.t 3)),
    .op none none false (.store 1 (.t 10) (.t 9)),
    .gh (.keep [1, 2, 3, 6])]) <|
  (.seq (.region [.op (some 11) none false (.mv (.t 2)),
    .op (some 12) none false (.fieldAddr 0 (.t 3)),
    .op (some 13) none false (.load false 1 (.t 12)),
    .op (some 14) none false (.mv (.t 1)),
    .op (some 15) none false (.idxA 4 (.t 13) (.t 14)),
    .call (some 16) none (.t 11) [(.t 15)],
    .gh (.keep [3, 6])]) <|
  (.seq (.region [.gh (.frz 3007), .op (some 17) none false (.load true 3 (.t 3)),
    .op none none false (.store 3 (.t 6) (.t 17)),
    .gh (.keep [6])]) <|
  .ret))))
theorem tr_arena_modify_B : trCode Try.prog Try.f18.ntmps (Try.f18.body.getD .skip) = some ac_arena_modify_B.erase := by kernel_rfl
theorem fn_arena_modify_B : Try.prog.funcs[18]? = some Try.f18 := by kernel_rfl
theorem bd_arena_modify_B : Try.f18.body = some (Try.f18.body.getD .skip) := by kernel_rfl
theorem rs_arena_modify_B : Try.f18.results.toList.mapM (trRes Try.prog) = some [.cell 6 true 3] := by kernel_rfl
theorem go_arena_modify_B {Y : YT} {kb : Nat} {args : List AV} {ob : Ob} {K : AV → Ob → Prop} (ks : Option (List Nat)) (hl : args.length ≤ 18) (h : AP Try.prog Y kb ac_arena_modify_B (endK [.cell 6 true 3] ks K) (mkTm 0 args) ob) : FnA Try.prog Y 18 args ob K :=
  FnA_of_awp hm fn_arena_modify_B (by kernel_rfl) bd_arena_modify_B tr_arena_modify_B rs_arena_modify_B ks hl h.out
set_option maxHeartbeats 4000000 in
theorem c_modifyR (a : Ar) (i : Nat) (hi : i < a.sl.length) (hg : 0 ≤ (a.sl[i]?.getD default).g ∧ (a.sl[i]?.getD default).g ≤ 1099511627776) (hs : a.sl.length ≤ 64) :
    PureA Try.prog 18 [a.av, .fv (.int .i64 i), .fv (.func 23)] (Ar.av { a with sl := a.sl.set i ⟨(a.sl[i]?.getD default).g + 1, 0, 0, 0⟩ }) := by
  refine ⟨fun Y => ?_⟩
  refine go_arena_modify_B (kb := 1000) (some []) (by simp) ?_
  unfold ac_arena_modify_B
  unfold Ar.av
  have hgi : (sls a.sl)[i]? = some (a.sl[i]?.getD default).fv := sls_some _ _ hi
  repeat' (first
      | ((with_reducible refine ap_id ?_); have zT := zS; (repeat (first | clear ze | revert ze)); exact zT.out)
      | ((with_reducible apply w_dseq); intro zS)
      | ((fail_if_success exact (Hd.mk trivial : Hd True)); (with_reducible refine Hd.mk ?_))
      | with_reducible refine w_seq fun K1 zn zx zr => ?_
      | with_reducible refine w_region fun K1 zq => ?_
      | with_reducible refine w_draw fun K1 zq => ?_
      | with_reducible refine w_block fun K1 yn yb yx yr => ?_
      | with_reducible refine w_skip ?_
      | with_reducible refine w_ret ?_
      | with_reducible refine w_exit ?_
      | ((with_reducible refine w_gh ?_); simp)
      | ((with_reducible refine zq _ _ ?_); clear zq)
      | ((with_reducible refine zn _ _ ?_); clear zn zx zr)
      | ((with_reducible refine zr _ _ ?_); clear zn zx zr)
      | ((with_reducible refine zx _ _ _ ?_); clear zn zx zr)
      | ((with_reducible refine yn _ _ ?_); clear yn yb yx yr)
      | ((with_reducible refine yb _ _ ?_); clear yn yb yx yr)
      | ((with_reducible refine yr _ _ ?_); clear yn yb yx yr)
      | ((with_reducible refine yx _ _ _ (by decide) ?_); clear yn yb yx yr)
      | ((with_reducible refine e_endn ?_); simp)
      | ((with_reducible refine e_endr ?_); simp)
      | with_reducible refine e_un ?_
      | with_reducible refine e_ux ?_
      | with_reducible refine e_ur ?_
      | ((with_reducible refine u_step ?_); (try simp))
      | ((with_reducible apply s_rangeF); (case hc => rfl); intro zel zrr)
      | ((with_reducible apply o_yld); (case hf => rfl))
      | ((with_reducible refine rf_go ?h1 ?h2 ?_); (case h1 => rfl); (case h2 => first | rfl | simp); simp [tputs])
      | ((with_reducible refine r_an ?h1 ?_); (case h1 => first | rfl | simp); simp)
      | ((with_reducible refine r_bn ?h1 ?_); (case h1 => first | rfl | simp); simp)
      | ((with_reducible refine r_bx ?h1 ?_); (case h1 => first | rfl | simp); simp)
      | ((with_reducible refine r_br ?h1 ?_); (case h1 => first | rfl | simp); simp)
      | ((with_reducible refine f_en ?h1 ?_); (case h1 => rfl); simp)
      | ((with_reducible refine f_ex ?h1 ?_); (case h1 => rfl); simp)
      | ((with_reducible refine f_er ?h1 ?_); (case h1 => rfl); simp)
      | with_reducible refine e_loopx ?_
      | with_reducible refine e_loopr ?_
      | ((with_reducible refine c_true ?hc ?_); (case hc => rfl))
      | ((with_reducible refine c_false ?hc ?_); (case hc => rfl))
      | (rw [sls_some _ _ (by omega)]; simp [Sl.fv])
      | (rw [sls_get _ _ (by omega)]; simp [Sl.fv])
      | (rw [ints_get _ _ (by omega)]; simp)
      | rw [i64_in _ (by omega)]
      | ((with_reducible refine o_bin ?_); ((first | ((with_reducible apply o_lss); (case hx => rfl); (case hy => rfl); (case hk => rfl)) | ((with_reducible apply o_leq); (case hx => rfl); (case hy => rfl); (case hk => rfl)) | ((with_reducible apply o_gtr); (case hx => rfl); (case hy => rfl); (case hk => rfl)) | ((with_reducible apply o_geq); (case hx => rfl); (case hy => rfl); (case hk => rfl)) | ((with_reducible apply o_eql); (case hx => rfl); (case hy => rfl); (case hk => rfl)) | ((with_reducible apply o_neq); (case hx => rfl); (case hy => rfl); (case hk => rfl))) <;> (intro h; first | (exfalso; omega) | simp)))
      | ((with_reducible apply o_eqnil); (case hx => rfl); all_goals (try intro h); all_goals simp)
      | ((with_reducible refine o_op fun _ _ => ?_); simp)
      | ((with_reducible refine o_gt ?hg ?_); (case hg => rfl))
      | ((with_reducible apply o_gs); (case hg => rfl); (case hn => rfl); simp only [skipD, tdel, Nat.reduceEqDiff, reduceIte])
      | ((with_reducible refine o_cgt ?hg ?_); (case hg => rfl))
      | ((with_reducible apply o_cgs); (case hg => rfl); (case hn => rfl); simp only [skipD, tdel, Nat.reduceEqDiff, reduceIte])
      | with_reducible refine o_nil ?_
      | with_reducible exact d_stop
      | ((with_reducible refine d_done ?_); (try simp))
      | ((with_reducible refine d_bin ?_); ((first | ((with_reducible apply d_lss); (case hx => rfl); (case hy => rfl); (case hk => rfl)) | ((with_reducible apply d_leq); (case hx => rfl); (case hy => rfl); (case hk => rfl)) | ((with_reducible apply d_gtr); (case hx => rfl); (case hy => rfl); (case hk => rfl)) | ((with_reducible apply d_geq); (case hx => rfl); (case hy => rfl); (case hk => rfl)) | ((with_reducible apply d_eql); (case hx => rfl); (case hy => rfl); (case hk => rfl)) | ((with_reducible apply d_neq); (case hx => rfl); (case hy => rfl); (case hk => rfl))) <;> (intro h; first | (exfalso; omega) | simp)))
      | ((with_reducible refine d_fst ?_); simp [and_assoc])
      | ((with_reducible refine d_fst_gt ?hg ?_); (case hg => rfl))
      | ((with_reducible apply d_fst_gs); (case hg => rfl); (case hn => rfl); simp only [skipD, tdel, Nat.reduceEqDiff, reduceIte])
      | ((with_reducible refine d_main_gt ?hg ?_); (case hg => rfl))
      | ((with_reducible apply d_main_gs); (case hg => rfl); (case hn => rfl); all_goals (try simp only [skipD, tdel, Nat.reduceEqDiff, reduceIte]))
      | ((with_reducible refine d_call_gt ?hg ?_); (case hg => rfl))
      | ((with_reducible apply d_call_gs); (case hg => rfl); (case hn => rfl); all_goals (try simp only [skipD, tdel, Nat.reduceEqDiff, reduceIte]))
      | ((with_reducible refine d_main (fun ze => ?_) d_stop); simp)
      | ((with_reducible refine d_main (fun ze => ?_) ?_); simp)
      | ((with_reducible refine o_gh ?_); simp)
      | (with_reducible refine isR_mk ?_ (by simp))
      | ((with_reducible apply o_call (n := 33)); (case hf => rfl); (refine (c_cloneSo a.sl (by omega) Y).frame0.mono ?_); (rintro r ob1 ⟨ob2, (⟨hnil, rfl, rfl⟩ | ⟨e, rfl, rfl⟩), rfl⟩ <;> first | (exfalso; omega) | simp))
      | ((with_reducible apply o_call (n := 23)); (case hf => rfl); (refine go_arena_Release_1 (kb := 2000) none (by simp) ?_); unfold ac_arena_Release_1)
      | (with_reducible refine And.intro (by omega) ?_)
      | (refine And.intro (ints_hd _) ?_)
      | (refine And.intro (sls_hd _) ?_)
      | (with_reducible refine fun (ze : Nat) => ?_)
      | ((with_reducible apply o_call); (case hf => rfl))
      | ((with_reducible apply o_callc); (case hf => rfl))
      | fail)
  simp [sls_set, Sl.fv]

def lookR (a : Ar) (h : Int) : Sl × Bool := if findR a h < 0 then (⟨0, 0, 0, 0⟩, false) else ((a.sl[(findR a h).toNat]?.getD default), true)
def idxR (a : Ar) (h : Int) : Int × Bool :=
  if validH h = false then (0, false) else if (a.sl.length : Int) ≤ h % 64 then (0, false) else (h % 64, decide ((a.sl[(h % 64).toNat]?.getD default).g = h / 64 ∧ (a.sl[(h % 64).toNat]?.getD default).st ≠ 0))
def ac_arena_index : AC := (.seq (.region [.op (some 2) none false (.box (.t 0)),
    .op (some 4) none false (.mv (.c (.int .i64 0))),
    .op (some 5) none false (.mv (.c (.bool false))),
    .gh (.keep [1, 2])]) <|
  (.seq (.region [.op (some 8) none false (.mv (.t 1)),
    .call (some 9) none (.c (.func 34)) [(.t 8)],
    .op (some 6) none false (.mv (.t 9)),
    .gh (.keep [1, 2, 6])]) <|
  (.seq (.seq (.region [.op (some 10) none false (.mv (.t 6)),
    .op (some 11) none false (.fieldAddr 0 (.t 2)),
    .op (some 12) none false (.load false 1 (.t 11)),
    .op (some 13) none false (.len false (.t 12)),
    .op (some 14) none false (.bin .sub (.t 13) (.c (.int .i64 1))),
    .call (some 15) none (.c (.func 17)) [(.t 10), (.c (.int .i64 0)), (.t 14)],
    .op (some 16) none false (.not (.t 15)),
    .gh (.keep [1, 2, 6, 16])]) <|
  (.cond (.t 16)
    (.seq (.region [.op (some 4) none false (.mv (.c (.int .i64 0))),
      .op (some 5) none false (.mv (.c (.bool false))),
      .gh (.keep [4, 5])]) <|
    .ret)
    .skip)) <|
  (.seq (.region [.op (some 17) none false (.fieldAddr 0 (.t 2)),
    .op (some 18) none false (.load false 1 (.t 17)),
    .op (some 19) none false (.mv (.t 6)),
    .op (some 20) none false (.idxA 4 (.t 18) (.t 19)),
    .op (some 21) none false (.load true 4 (.t 20)),
    .op (some 7) none false (.alloc [(.int .i64 0), (.int .i64 0), (.int .i64 0), (.int .i64 0)]),
    .op none none false (.store 4 (.t 7) (.t 21)),
    .gh (.keep [1, 6, 7])]) <|
  (.seq (.draw <|
    .fst (.op (some 22) none false (.mv (.t 6))) <|
    .fst (.op (some 23) none false (.fieldAddr 0 (.t 7))) <|
    .fst (.op (some 24) none false (.load false 1 (.t 23))) <|
    .fst (.op (some 25) none false (.mv (.t 1))) <|
    .main1 [(.t 23)] (.call (some 26) none (.c (.func 35)) [(.t 25)]) <|
    .fst (.op (some 27) none false (.bin .eql (.t 24) (.t 26))) <|
    .fst (.op (some 28) none false (.mv (.t 27))) <|
    .fst (.op (some 29) (some (28, true)) false (.fieldAddr 1 (.t 7))) <|
    .fst (.op (some 30) (some (28, true)) false (.load false 1 (.t 29))) <|
    .fst (.op (some 31) (some (28, true)) false (.bin .neq (.t 30) (.c (.int .i64 0)))) <|
    .fst (.op (some 32) none false (.pick (.t 28) (.t 31) (.c (.bool false)))) <|
    .fst (.op (some 4) none false (.mv (.t 22))) <|
    .fst (.op (some 5) none false (.mv (.t 32))) <|
    .done) <|
  (.gh (.keep [4, 5]) .ret))))))
theorem tr_arena_index : trCode Try.prog Try.f22.ntmps (Try.f22.body.getD .skip) = some ac_arena_index.erase := by kernel_rfl
theorem fn_arena_index : Try.prog.funcs[22]? = some Try.f22 := by kernel_rfl
theorem bd_arena_index : Try.f22.body = some (Try.f22.body.getD .skip) := by kernel_rfl
theorem rs_arena_index : Try.f22.results.toList.mapM (trRes Try.prog) = some [.tmp 4, .tmp 5] := by kernel_rfl
theorem go_arena_index {Y : YT} {kb : Nat} {args : List AV} {ob : Ob} {K : AV → Ob → Prop} (ks : Option (List Nat)) (hl : args.length ≤ 33) (h : AP Try.prog Y kb ac_arena_index (endK [.tmp 4, .tmp 5] ks K) (mkTm 0 args) ob) : FnA Try.prog Y 22 args ob K :=
  FnA_of_awp hm fn_arena_index (by kernel_rfl) bd_arena_index tr_arena_index rs_arena_index ks hl h.out
set_option maxHeartbeats 4000000 in
theorem c_arena_index (a : Ar) (h0 : Int) (hs : a.sl.length ≤ 64) (hh : a.sl ≠ []) : PureA Try.prog 22 [a.av, .fv (.int .i64 h0)] (.tup [.fv (.int .i64 (idxR a h0).1), .fv (.bool (idxR a h0).2)]) := by
  refine ⟨fun Y => ?_⟩
  refine go_arena_index (kb := 100) (some []) (by simp) ?_
  unfold ac_arena_index
  unfold Ar.av
  have hn : 0 < a.sl.length := List.length_pos_iff.2 hh
  by_cases hv : 0 ≤ h0 ∧ h0 ≤ 70368744177727
  · repeat' (first
     | ((with_reducible refine ap_id ?_); have zT := zS; (repeat (first | clear ze | revert ze)); exact zT.out)
     | ((with_reducible apply w_dseq); intro zS)
     | ((fail_if_success exact (Hd.mk trivial : Hd True)); (with_reducible refine Hd.mk ?_))
     | with_reducible refine w_seq fun K1 zn zx zr => ?_
     | with_reducible refine w_region fun K1 zq => ?_
     | with_reducible refine w_draw fun K1 zq => ?_
     | with_reducible refine w_block fun K1 yn yb yx yr => ?_
     | with_reducible refine w_skip ?_
     | with_reducible refine w_ret ?_
     | with_reducible refine w_exit ?_
     | ((with_reducible refine w_gh ?_); simp)
     | ((with_reducible refine zq _ _ ?_); clear zq)
     | ((with_reducible refine zn _ _ ?_); clear zn zx zr)
     | ((with_reducible refine zr _ _ ?_); clear zn zx zr)
     | ((with_reducible refine zx _ _ _ ?_); clear zn zx zr)
     | ((with_reducible refine yn _ _ ?_); clear yn yb yx yr)
     | ((with_reducible refine yb _ _ ?_); clear yn yb yx yr)
     | ((with_reducible refine yr _ _ ?_); clear yn yb yx yr)
     | ((with_reducible refine yx _ _ _ (by decide) ?_); clear yn yb yx yr)
     | ((with_reducible refine e_endn ?_); simp)
     | ((with_reducible refine e_endr ?_); simp)
     | with_reducible refine e_un ?_
     | with_reducible refine e_ux ?_
     | with_reducible refine e_ur ?_
     | ((with_reducible refine u_step ?_); (try simp))
     | ((with_reducible apply s_rangeF); (case hc => rfl); intro zel zrr)
     | ((with_reducible apply o_yld); (case hf => rfl))
     | ((with_reducible refine rf_go ?h1 ?h2 ?_); (case h1 => rfl); (case h2 => first | rfl | simp); simp [tputs])
     | ((with_reducible refine r_an ?h1 ?_); (case h1 => first | rfl | simp); simp)
     | ((with_reducible refine r_bn ?h1 ?_); (case h1 => first | rfl | simp); simp)
     | ((with_reducible refine r_bx ?h1 ?_); (case h1 => first | rfl | simp); simp)
     | ((with_reducible refine r_br ?h1 ?_); (case h1 => first | rfl | simp); simp)
     | ((with_reducible refine f_en ?h1 ?_); (case h1 => rfl); simp)
     | ((with_reducible refine f_ex ?h1 ?_); (case h1 => rfl); simp)
     | ((with_reducible refine f_er ?h1 ?_); (case h1 => rfl); simp)
     | with_reducible refine e_loopx ?_
     | with_reducible refine e_loopr ?_
     | ((with_reducible refine c_true ?hc ?_); (case hc => rfl))
     | ((with_reducible refine c_false ?hc ?_); (case hc => rfl))
     | (rw [sls_some _ _ (by omega)]; simp [Sl.fv])
     | (rw [sls_get _ _ (by omega)]; simp [Sl.fv])
     | (rw [ints_get _ _ (by omega)]; simp)
     | rw [i64_in _ (by omega)]
     | ((with_reducible refine o_bin ?_); ((first | ((with_reducible apply o_lss); (case hx => rfl); (case hy => rfl); (case hk => rfl)) | ((with_reducible apply o_leq); (case hx => rfl); (case hy => rfl); (case hk => rfl)) | ((with_reducible apply o_gtr); (case hx => rfl); (case hy => rfl); (case hk => rfl)) | ((with_reducible apply o_geq); (case hx => rfl); (case hy => rfl); (case hk => rfl)) | ((with_reducible apply o_eql); (case hx => rfl); (case hy => rfl); (case hk => rfl)) | ((with_reducible apply o_neq); (case hx => rfl); (case hy => rfl); (case hk => rfl))) <;> (intro h; first | (exfalso; omega) | simp)))
     | ((with_reducible apply o_eqnil); (case hx => rfl); all_goals (try intro h); all_goals simp)
     | ((with_reducible refine o_op fun _ _ => ?_); simp)
     | ((with_reducible refine o_gt ?hg ?_); (case hg => rfl))
     | ((with_reducible apply o_gs); (case hg => rfl); (case hn => rfl); simp only [skipD, tdel, Nat.reduceEqDiff, reduceIte])
     | ((with_reducible refine o_cgt ?hg ?_); (case hg => rfl))
     | ((with_reducible apply o_cgs); (case hg => rfl); (case hn => rfl); simp only [skipD, tdel, Nat.reduceEqDiff, reduceIte])
     | with_reducible refine o_nil ?_
     | with_reducible exact d_stop
     | ((with_reducible refine d_done ?_); (try simp))
     | ((with_reducible refine d_bin ?_); ((first | ((with_reducible apply d_lss); (case hx => rfl); (case hy => rfl); (case hk => rfl)) | ((with_reducible apply d_leq); (case hx => rfl); (case hy => rfl); (case hk => rfl)) | ((with_reducible apply d_gtr); (case hx => rfl); (case hy => rfl); (case hk => rfl)) | ((with_reducible apply d_geq); (case hx => rfl); (case hy => rfl); (case hk => rfl)) | ((with_reducible apply d_eql); (case hx => rfl); (case hy => rfl); (case hk => rfl)) | ((with_reducible apply d_neq); (case hx => rfl); (case hy => rfl); (case hk => rfl))) <;> (intro h; first | (exfalso; omega) | simp)))
     | ((with_reducible refine d_fst ?_); simp [and_assoc])
     | ((with_reducible refine d_fst_gt ?hg ?_); (case hg => rfl))
     | ((with_reducible apply d_fst_gs); (case hg => rfl); (case hn => rfl); simp only [skipD, tdel, Nat.reduceEqDiff, reduceIte])
     | ((with_reducible refine d_main_gt ?hg ?_); (case hg => rfl))
     | ((with_reducible apply d_main_gs); (case hg => rfl); (case hn => rfl); all_goals (try simp only [skipD, tdel, Nat.reduceEqDiff, reduceIte]))
     | ((with_reducible refine d_call_gt ?hg ?_); (case hg => rfl))
     | ((with_reducible apply d_call_gs); (case hg => rfl); (case hn => rfl); all_goals (try simp only [skipD, tdel, Nat.reduceEqDiff, reduceIte]))
     | ((with_reducible refine d_main (fun ze => ?_) d_stop); simp)
     | ((with_reducible refine d_main (fun ze => ?_) ?_); simp)
     | ((with_reducible refine o_gh ?_); simp)
     | (with_reducible refine isR_mk ?_ (by simp))
     | ((with_reducible apply o_callp (n := 34)); (case hf => rfl); (case hp => exact c_handle_Slot _);  (simp only [if_pos hv]; simp))
     | ((with_reducible apply o_callp (n := 17)); (case hf => rfl); (case hp => exact c_arena_within _ _ _); ((refine o_dec (fun h => ?_) (fun h => ?_)) <;> (first | (exfalso; omega) | simp)))
     | ((with_reducible apply d_callp (n := 35)); (case hf => rfl); (case hp => exact c_handle_Generation _); (try (case hr => exact d_stop));  (simp only [if_pos hv]; simp))
     | (with_reducible refine And.intro (by omega) ?_)
     | (refine And.intro (ints_hd _) ?_)
     | (refine And.intro (sls_hd _) ?_)
     | (with_reducible refine fun (ze : Nat) => ?_)
     | ((with_reducible apply o_call); (case hf => rfl))
     | ((with_reducible apply o_callc); (case hf => rfl))
     | fail)
    all_goals (have hvv : validH h0 = true := decide_eq_true hv; unfold idxR; rw [if_neg (by simp [hvv])]; (first | rw [if_neg (by omega)] | rw [if_pos (by omega)]); simp [*])
  · repeat' (first
     | ((with_reducible refine ap_id ?_); have zT := zS; (repeat (first | clear ze | revert ze)); exact zT.out)
     | ((with_reducible apply w_dseq); intro zS)
     | ((fail_if_success exact (Hd.mk trivial : Hd True)); (with_reducible refine Hd.mk ?_))
     | with_reducible refine w_seq fun K1 zn zx zr => ?_
     | with_reducible refine w_region fun K1 zq => ?_
     | with_reducible refine w_draw fun K1 zq => ?_
     | with_reducible refine w_block fun K1 yn yb yx yr => ?_
     | with_reducible refine w_skip ?_
     | with_reducible refine w_ret ?_
     | with_reducible refine w_exit ?_
     | ((with_reducible refine w_gh ?_); simp)
     | ((with_reducible refine zq _ _ ?_); clear zq)
     | ((with_reducible refine zn _ _ ?_); clear zn zx zr)
     | ((with_reducible refine zr _ _ ?_); clear zn zx zr)
     | ((with_reducible refine zx _ _ _ ?_); clear zn zx zr)
     | ((with_reducible refine yn _ _ ?_); clear yn yb yx yr)
     | ((with_reducible refine yb _ _ ?_); clear yn yb yx yr)
     | ((with_reducible refine yr _ _ ?_); clear yn yb yx yr)
     | ((with_reducible refine yx _ _ _ (by decide) ?_); clear yn yb yx yr)
     | ((with_reducible refine e_endn ?_); simp)
     | ((with_reducible refine e_endr ?_); simp)
     | with_reducible refine e_un ?_
     | with_reducible refine e_ux ?_
     | with_reducible refine e_ur ?_
     | ((with_reducible refine u_step ?_); (try simp))
     | ((with_reducible apply s_rangeF); (case hc => rfl); intro zel zrr)
     | ((with_reducible apply o_yld); (case hf => rfl))
     | ((with_reducible refine rf_go ?h1 ?h2 ?_); (case h1 => rfl); (case h2 => first | rfl | simp); simp [tputs])
     | ((with_reducible refine r_an ?h1 ?_); (case h1 => first | rfl | simp); simp)
     | ((with_reducible refine r_bn ?h1 ?_); (case h1 => first | rfl | simp); simp)
     | ((with_reducible refine r_bx ?h1 ?_); (case h1 => first | rfl | simp); simp)
     | ((with_reducible refine r_br ?h1 ?_); (case h1 => first | rfl | simp); simp)
     | ((with_reducible refine f_en ?h1 ?_); (case h1 => rfl); simp)
     | ((with_reducible refine f_ex ?h1 ?_); (case h1 => rfl); simp)
     | ((with_reducible refine f_er ?h1 ?_); (case h1 => rfl); simp)
     | with_reducible refine e_loopx ?_
     | with_reducible refine e_loopr ?_
     | ((with_reducible refine c_true ?hc ?_); (case hc => rfl))
     | ((with_reducible refine c_false ?hc ?_); (case hc => rfl))
     | (rw [sls_some _ _ (by omega)]; simp [Sl.fv])
     | (rw [sls_get _ _ (by omega)]; simp [Sl.fv])
     | (rw [ints_get _ _ (by omega)]; simp)
     | rw [i64_in _ (by omega)]
     | ((with_reducible refine o_bin ?_); ((first | ((with_reducible apply o_lss); (case hx => rfl); (case hy => rfl); (case hk => rfl)) | ((with_reducible apply o_leq); (case hx => rfl); (case hy => rfl); (case hk => rfl)) | ((with_reducible apply o_gtr); (case hx => rfl); (case hy => rfl); (case hk => rfl)) | ((with_reducible apply o_geq); (case hx => rfl); (case hy => rfl); (case hk => rfl)) | ((with_reducible apply o_eql); (case hx => rfl); (case hy => rfl); (case hk => rfl)) | ((with_reducible apply o_neq); (case hx => rfl); (case hy => rfl); (case hk => rfl))) <;> (intro h; first | (exfalso; omega) | simp)))
     | ((with_reducible apply o_eqnil); (case hx => rfl); all_goals (try intro h); all_goals simp)
     | ((with_reducible refine o_op fun _ _ => ?_); simp)
     | ((with_reducible refine o_gt ?hg ?_); (case hg => rfl))
     | ((with_reducible apply o_gs); (case hg => rfl); (case hn => rfl); simp only [skipD, tdel, Nat.reduceEqDiff, reduceIte])
     | ((with_reducible refine o_cgt ?hg ?_); (case hg => rfl))
     | ((with_reducible apply o_cgs); (case hg => rfl); (case hn => rfl); simp only [skipD, tdel, Nat.reduceEqDiff, reduceIte])
     | with_reducible refine o_nil ?_
     | with_reducible exact d_stop
     | ((with_reducible refine d_done ?_); (try simp))
     | ((with_reducible refine d_bin ?_); ((first | ((with_reducible apply d_lss); (case hx => rfl); (case hy => rfl); (case hk => rfl)) | ((with_reducible apply d_leq); (case hx => rfl); (case hy => rfl); (case hk => rfl)) | ((with_reducible apply d_gtr); (case hx => rfl); (case hy => rfl); (case hk => rfl)) | ((with_reducible apply d_geq); (case hx => rfl); (case hy => rfl); (case hk => rfl)) | ((with_reducible apply d_eql); (case hx => rfl); (case hy => rfl); (case hk => rfl)) | ((with_reducible apply d_neq); (case hx => rfl); (case hy => rfl); (case hk => rfl))) <;> (intro h; first | (exfalso; omega) | simp)))
     | ((with_reducible refine d_fst ?_); simp [and_assoc])
     | ((with_reducible refine d_fst_gt ?hg ?_); (case hg => rfl))
     | ((with_reducible apply d_fst_gs); (case hg => rfl); (case hn => rfl); simp only [skipD, tdel, Nat.reduceEqDiff, reduceIte])
     | ((with_reducible refine d_main_gt ?hg ?_); (case hg => rfl))
     | ((with_reducible apply d_main_gs); (case hg => rfl); (case hn => rfl); all_goals (try simp only [skipD, tdel, Nat.reduceEqDiff, reduceIte]))
     | ((with_reducible refine d_call_gt ?hg ?_); (case hg => rfl))
     | ((with_reducible apply d_call_gs); (case hg => rfl); (case hn => rfl); all_goals (try simp only [skipD, tdel, Nat.reduceEqDiff, reduceIte]))
     | ((with_reducible refine d_main (fun ze => ?_) d_stop); simp)
     | ((with_reducible refine d_main (fun ze => ?_) ?_); simp)
     | ((with_reducible refine o_gh ?_); simp)
     | (with_reducible refine isR_mk ?_ (by simp))
     | ((with_reducible apply o_callp (n := 34)); (case hf => rfl); (case hp => exact c_handle_Slot _);  (simp only [if_neg hv]; simp))
     | ((with_reducible apply o_callp (n := 17)); (case hf => rfl); (case hp => exact c_arena_within _ _ _); ((refine o_dec (fun h => ?_) (fun h => ?_)) <;> (first | (exfalso; omega) | simp)))
     | (with_reducible refine And.intro (by omega) ?_)
     | (refine And.intro (ints_hd _) ?_)
     | (refine And.intro (sls_hd _) ?_)
     | (with_reducible refine fun (ze : Nat) => ?_)
     | ((with_reducible apply o_call); (case hf => rfl))
     | ((with_reducible apply o_callc); (case hf => rfl))
     | fail)
    all_goals (have hvv : validH h0 = false := decide_eq_false hv; unfold idxR; rw [if_pos hvv]; simp)
end Go.Proofs.RL
