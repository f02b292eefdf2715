/- Functions of the arena seat. Conditions: none. -/
import Derived.Test.YthefjfcphgiggaaArD
set_option linter.unusedVariables false
set_option linter.unusedSimpArgs false
namespace Go.Proofs.RL
def relR (a : Ar) (h : Int) : Ar × Bool :=
  if findR a h < 0 then (a, false)
  else if (a.sl[(findR a h).toNat]?.getD default).g ≥ 1099511627776 then (a, false)
  else ({ a with sl := a.sl.set (findR a h).toNat ⟨(a.sl[(findR a h).toNat]?.getD default).g + 1, 0, 0, 0⟩, idle := a.idle ++ [findR a h] }, true)

def ac_ref05_Release : AC := (.seq (.region [.op (some 2) none false (.box (.t 0)),
    .op (some 4) none false (.alloc [(.sl (some true) (some 0) []), (.sl (some true) (some 0) []), (.int .i64 0)]),
    .op (some 5) none false (.mv (.c (.bool false))),
    .gh (.keep [1, 2, 4])]) <|
  (.seq (.region [.op (some 8) none false (.load true 3 (.t 2)),
    .op (some 9) none false (.mv (.t 1)),
    .call (some 10) none (.c (.func 41)) [(.t 8), (.t 9)],
    .op (some 6) none false (.mv (.t 10)),
    .gh (.keep [2, 4, 6])]) <|
  (.seq (.seq (.region [.op (some 11) none false (.mv (.t 6)),
    .op (some 12) none false (.bin .lss (.t 11) (.c (.int .i64 0))),
    .op (some 13) none false (.mv (.t 12)),
    .op (some 14) (some (13, false)) false (.fieldAddr 0 (.t 2)),
    .op (some 15) (some (13, false)) false (.load false 1 (.t 14)),
    .op (some 16) (some (13, false)) false (.mv (.t 6)),
    .op (some 17) (some (13, false)) false (.idxA 4 (.t 15) (.t 16)),
    .op (some 18) (some (13, false)) false (.fieldAddr 0 (.t 17)),
    .op (some 19) (some (13, false)) false (.load false 1 (.t 18)),
    .op (some 20) (some (13, false)) false (.bin .geq (.t 19) (.c (.int .i64 1099511627776))),
    .op (some 21) none false (.pick (.t 13) (.c (.bool true)) (.t 20)),
    .gh (.keep [2, 4, 6, 21])]) <|
  (.cond (.t 21)
    (.seq (.region [.op (some 22) none false (.load true 3 (.t 2)),
      .op none none false (.store 3 (.t 4) (.t 22)),
      .op (some 5) none false (.mv (.c (.bool false))),
      .gh (.keep [4, 5])]) <|
    .ret)
    .skip)) <|
  (.seq (drawC <|
    .fst (.op (some 23) none false (.load true 3 (.t 2))) <|
    .fst (.op (some 24) none false (.mv (.t 6))) <|
    .fst (.op (some 25) none false (.fieldAddr 0 (.t 2))) <|
    .fst (.op (some 26) none false (.load false 1 (.t 25))) <|
    .fst (.op (some 27) none false (.mv (.t 6))) <|
    .fst (.op (some 28) none false (.idxA 4 (.t 26) (.t 27))) <|
    .fst (.op (some 29) none false (.fieldAddr 0 (.t 28))) <|
    .fst (.op (some 30) none false (.load false 1 (.t 29))) <|
    .fst (.op (some 31) none false (.bin .add (.t 30) (.c (.int .i64 1)))) <|
    .fst (.op (some 32) none false (.build [(.int .i64 0), (.int .i64 0), (.int .i64 0), (.int .i64 0)] [(0, 1, (.t 31))])) <|
    .main [] (.call (some 33) none (.c (.func 39)) [(.t 23), (.t 24), (.t 32)])
      (.main1 [(.t 29), (.t 25), (.t 2)] (.op (some 7) none false (.alloc [(.sl (some true) (some 0) []), (.sl (some true) (some 0) []), (.int .i64 0)])) <|
      .main1 [] (.op none none false (.store 3 (.t 7) (.t 33))) <|
      .done)
      (.main1 [(.t 29), (.t 25), (.t 2)] (.op (some 7) none false (.alloc [(.sl (some true) (some 0) []), (.sl (some true) (some 0) []), (.int .i64 0)])) <|
      .main1 [] (.call (some 33) none (.c (.func 39)) [(.t 23), (.t 24), (.t 32)]) <|
      .main1 [] (.op none none false (.store 3 (.t 7) (.t 33))) <|
      .done)) <|
  (.gh (.keep [2, 4, 6, 7]) (.seq (.region [.op (some 34) none false (.buildSl 1 0 [(.int .i64 0)] []),
    .op (some 35) none false (.fieldAddr 1 (.t 2)),
    .op (some 36) none false (.load false 1 (.t 35)),
    .op (some 37) none false (.append 1 8 (.t 34) (.t 36)),
    .op (some 38) none false (.mv (.t 6)),
    .op (some 39) none false (.buildSl 1 1 [(.int .i64 0)] [(0, (.t 38))]),
    .op (some 40) none false (.append 1 8 (.t 37) (.t 39)),
    .op (some 41) none false (.fieldAddr 1 (.t 7)),
    .op none none false (.store 1 (.t 41) (.t 40)), .gh (.frz 140),
    .gh (.keep [4, 7])]) <|
  (.seq (.region [.op (some 42) none false (.load true 3 (.t 7)),
    .op none none false (.store 3 (.t 4) (.t 42)),
    .op (some 5) none false (.mv (.c (.bool true))),
    .gh (.keep [4, 5])]) <|
  .ret)))))))
theorem tr_ref05_Release : trCode Try.prog Try.f32.ntmps (Try.f32.body.getD .skip) = some ac_ref05_Release.erase := by kernel_rfl
theorem fn_ref05_Release : Try.prog.funcs[32]? = some Try.f32 := by kernel_rfl
theorem bd_ref05_Release : Try.f32.body = some (Try.f32.body.getD .skip) := by kernel_rfl
theorem rs_ref05_Release : Try.f32.results.toList.mapM (trRes Try.prog) = some [.cell 4 true 3, .tmp 5] := by kernel_rfl
theorem go_ref05_Release {Y : YT} {kb : Nat} {args : List AV} {ob : Ob} {K : AV → Ob → Prop} (ks : Option (List Nat)) (hl : args.length ≤ 43) (h : AP Try.prog Y kb ac_ref05_Release (endK [.cell 4 true 3, .tmp 5] ks K) (mkTm 0 args) ob) : FnA Try.prog Y 32 args ob K :=
  FnA_of_awp hm fn_ref05_Release (by kernel_rfl) bd_ref05_Release tr_ref05_Release rs_ref05_Release ks hl h.out
set_option maxHeartbeats 4000000 in
theorem c_ref05_Release (a : Ar) (h0 : Int) (hok : ArOK a) : PureA Try.prog 32 [a.av, .fv (.int .i64 h0)] (res2 (relR a h0)) := by
  refine ⟨fun Y => ?_⟩
  refine go_ref05_Release (kb := 100) (some []) (by simp) ?_
  unfold ac_ref05_Release
  unfold Ar.av
  have hs := hok.hs
  have hil := hok.hi
  have hc := c_ref05_find a h0 hs
  rcases findR_spec a h0 with he | ⟨i, he, hi⟩
  all_goals rw [he] at hc
  all_goals replace he := Hd.mk he
  · repeat' (first
     | ((with_reducible refine ap_id ?_); have zT := zS; (repeat (first | clear ze | revert ze)); exact zT.out)
     | ((with_reducible apply w_dseq); intro zS)
     | ((fail_if_success exact (Hd.mk trivial : Hd True)); (with_reducible refine Hd.mk ?_))
     | with_reducible refine w_seq fun K1 zn zx zr => ?_
     | with_reducible refine w_region fun K1 zq => ?_
     | with_reducible refine w_draw fun K1 zq => ?_
     | with_reducible refine w_block fun K1 yn yb yx yr => ?_
     | with_reducible refine w_skip ?_
     | with_reducible refine w_ret ?_
     | with_reducible refine w_exit ?_
     | ((with_reducible refine w_gh ?_); simp)
     | ((with_reducible refine zq _ _ ?_); clear zq)
     | ((with_reducible refine zn _ _ ?_); clear zn zx zr)
     | ((with_reducible refine zr _ _ ?_); clear zn zx zr)
     | ((with_reducible refine zx _ _ _ ?_); clear zn zx zr)
     | ((with_reducible refine yn _ _ ?_); clear yn yb yx yr)
     | ((with_reducible refine yb _ _ ?_); clear yn yb yx yr)
     | ((with_reducible refine yr _ _ ?_); clear yn yb yx yr)
     | ((with_reducible refine yx _ _ _ (by decide) ?_); clear yn yb yx yr)
     | ((with_reducible refine e_endn ?_); simp)
     | ((with_reducible refine e_endr ?_); simp)
     | with_reducible refine e_un ?_
     | with_reducible refine e_ux ?_
     | with_reducible refine e_ur ?_
     | ((with_reducible refine u_step ?_); (try simp))
     | ((with_reducible apply s_rangeF); (case hc => rfl); intro zel zrr)
     | ((with_reducible apply o_yld); (case hf => rfl))
     | ((with_reducible refine rf_go ?h1 ?h2 ?_); (case h1 => rfl); (case h2 => first | rfl | simp); simp [tputs])
     | ((with_reducible refine r_an ?h1 ?_); (case h1 => first | rfl | simp); simp)
     | ((with_reducible refine r_bn ?h1 ?_); (case h1 => first | rfl | simp); simp)
     | ((with_reducible refine r_bx ?h1 ?_); (case h1 => first | rfl | simp); simp)
     | ((with_reducible refine r_br ?h1 ?_); (case h1 => first | rfl | simp); simp)
     | ((with_reducible refine f_en ?h1 ?_); (case h1 => rfl); simp)
     | ((with_reducible refine f_ex ?h1 ?_); (case h1 => rfl); simp)
     | ((with_reducible refine f_er ?h1 ?_); (case h1 => rfl); simp)
     | with_reducible refine e_loopx ?_
     | with_reducible refine e_loopr ?_
     | ((with_reducible refine c_true ?hc ?_); (case hc => rfl))
     | ((with_reducible refine c_false ?hc ?_); (case hc => rfl))
     | (rw [sls_get _ _ (by omega)]; simp [Sl.fv])
     | (rw [ints_get _ _ (by omega)]; simp)
     | rw [i64_in _ (by omega)]
     | ((with_reducible refine o_bin ?_); ((first | ((with_reducible apply o_lss); (case hx => rfl); (case hy => rfl); (case hk => rfl)) | ((with_reducible apply o_leq); (case hx => rfl); (case hy => rfl); (case hk => rfl)) | ((with_reducible apply o_gtr); (case hx => rfl); (case hy => rfl); (case hk => rfl)) | ((with_reducible apply o_geq); (case hx => rfl); (case hy => rfl); (case hk => rfl)) | ((with_reducible apply o_eql); (case hx => rfl); (case hy => rfl); (case hk => rfl)) | ((with_reducible apply o_neq); (case hx => rfl); (case hy => rfl); (case hk => rfl))) <;> (intro h; first | (exfalso; omega) | simp)))
     | ((with_reducible apply o_eqnil); (case hx => rfl); all_goals (try intro h); all_goals simp)
     | ((with_reducible refine o_op fun _ _ => ?_); simp)
     | ((with_reducible refine o_gt ?hg ?_); (case hg => rfl))
     | ((with_reducible apply o_gs); (case hg => rfl); (case hn => rfl); simp only [skipD, tdel, Nat.reduceEqDiff, reduceIte])
     | ((with_reducible refine o_cgt ?hg ?_); (case hg => rfl))
     | ((with_reducible apply o_cgs); (case hg => rfl); (case hn => rfl); simp only [skipD, tdel, Nat.reduceEqDiff, reduceIte])
     | with_reducible refine o_nil ?_
     | with_reducible exact d_stop
     | ((with_reducible refine d_done ?_); (try simp))
     | ((with_reducible refine d_bin ?_); ((first | ((with_reducible apply d_lss); (case hx => rfl); (case hy => rfl); (case hk => rfl)) | ((with_reducible apply d_leq); (case hx => rfl); (case hy => rfl); (case hk => rfl)) | ((with_reducible apply d_gtr); (case hx => rfl); (case hy => rfl); (case hk => rfl)) | ((with_reducible apply d_geq); (case hx => rfl); (case hy => rfl); (case hk => rfl)) | ((with_reducible apply d_eql); (case hx => rfl); (case hy => rfl); (case hk => rfl)) | ((with_reducible apply d_neq); (case hx => rfl); (case hy => rfl); (case hk => rfl))) <;> (intro h; first | (exfalso; omega) | simp)))
     | ((with_reducible refine d_fst ?_); simp [and_assoc])
     | ((with_reducible refine d_fst_gt ?hg ?_); (case hg => rfl))
     | ((with_reducible apply d_fst_gs); (case hg => rfl); (case hn => rfl); simp only [skipD, tdel, Nat.reduceEqDiff, reduceIte])
     | ((with_reducible refine d_main_gt ?hg ?_); (case hg => rfl))
     | ((with_reducible apply d_main_gs); (case hg => rfl); (case hn => rfl); all_goals (try simp only [skipD, tdel, Nat.reduceEqDiff, reduceIte]))
     | ((with_reducible refine d_call_gt ?hg ?_); (case hg => rfl))
     | ((with_reducible apply d_call_gs); (case hg => rfl); (case hn => rfl); all_goals (try simp only [skipD, tdel, Nat.reduceEqDiff, reduceIte]))
     | ((with_reducible refine d_main (fun ze => ?_) d_stop); simp)
     | ((with_reducible refine d_main (fun ze => ?_) ?_); simp)
     | ((with_reducible refine o_gh ?_); simp)
     | (with_reducible refine isR_mk ?_ (by simp))
     | ((with_reducible apply o_callp (n := 41)); (case hf => rfl); (case hp => exact hc);  simp)
     | (with_reducible refine And.intro (by omega) ?_)
     | (refine ex_idx (by omega) (by omega) ?_)
     | (refine And.intro (ints_hd _) ?_)
     | (refine And.intro (sls_hd _) ?_)
     | (with_reducible refine fun (ze : Nat) => ?_)
     | ((with_reducible apply o_call); (case hf => rfl))
     | ((with_reducible apply o_callc); (case hf => rfl))
     | fail)
    all_goals (unfold relR; rw [he.out, if_pos (by omega)]; simp [res2, Ar.av])
  · have hg := hok.hg i hi
    repeat' (first
        | ((with_reducible refine ap_id ?_); have zT := zS; (repeat (first | clear ze | revert ze)); exact zT.out)
        | ((with_reducible apply w_dseq); intro zS)
        | ((fail_if_success exact (Hd.mk trivial : Hd True)); (with_reducible refine Hd.mk ?_))
        | with_reducible refine w_seq fun K1 zn zx zr => ?_
        | with_reducible refine w_region fun K1 zq => ?_
        | with_reducible refine w_draw fun K1 zq => ?_
        | with_reducible refine w_block fun K1 yn yb yx yr => ?_
        | with_reducible refine w_skip ?_
        | with_reducible refine w_ret ?_
        | with_reducible refine w_exit ?_
        | ((with_reducible refine w_gh ?_); simp)
        | ((with_reducible refine zq _ _ ?_); clear zq)
        | ((with_reducible refine zn _ _ ?_); clear zn zx zr)
        | ((with_reducible refine zr _ _ ?_); clear zn zx zr)
        | ((with_reducible refine zx _ _ _ ?_); clear zn zx zr)
        | ((with_reducible refine yn _ _ ?_); clear yn yb yx yr)
        | ((with_reducible refine yb _ _ ?_); clear yn yb yx yr)
        | ((with_reducible refine yr _ _ ?_); clear yn yb yx yr)
        | ((with_reducible refine yx _ _ _ (by decide) ?_); clear yn yb yx yr)
        | ((with_reducible refine e_endn ?_); simp)
        | ((with_reducible refine e_endr ?_); simp)
        | with_reducible refine e_un ?_
        | with_reducible refine e_ux ?_
        | with_reducible refine e_ur ?_
        | ((with_reducible refine u_step ?_); (try simp))
        | ((with_reducible apply s_rangeF); (case hc => rfl); intro zel zrr)
        | ((with_reducible apply o_yld); (case hf => rfl))
        | ((with_reducible refine rf_go ?h1 ?h2 ?_); (case h1 => rfl); (case h2 => first | rfl | simp); simp [tputs])
        | ((with_reducible refine r_an ?h1 ?_); (case h1 => first | rfl | simp); simp)
        | ((with_reducible refine r_bn ?h1 ?_); (case h1 => first | rfl | simp); simp)
        | ((with_reducible refine r_bx ?h1 ?_); (case h1 => first | rfl | simp); simp)
        | ((with_reducible refine r_br ?h1 ?_); (case h1 => first | rfl | simp); simp)
        | ((with_reducible refine f_en ?h1 ?_); (case h1 => rfl); simp)
        | ((with_reducible refine f_ex ?h1 ?_); (case h1 => rfl); simp)
        | ((with_reducible refine f_er ?h1 ?_); (case h1 => rfl); simp)
        | with_reducible refine e_loopx ?_
        | with_reducible refine e_loopr ?_
        | ((with_reducible refine c_true ?hc ?_); (case hc => rfl))
        | ((with_reducible refine c_false ?hc ?_); (case hc => rfl))
        | (rw [sls_get _ _ (by omega)]; simp [Sl.fv])
        | (rw [ints_get _ _ (by omega)]; simp)
        | rw [i64_in _ (by omega)]
        | ((with_reducible refine o_bin ?_); ((first | ((with_reducible apply o_lss); (case hx => rfl); (case hy => rfl); (case hk => rfl)) | ((with_reducible apply o_leq); (case hx => rfl); (case hy => rfl); (case hk => rfl)) | ((with_reducible apply o_gtr); (case hx => rfl); (case hy => rfl); (case hk => rfl)) | ((with_reducible apply o_geq); (case hx => rfl); (case hy => rfl); (case hk => rfl)) | ((with_reducible apply o_eql); (case hx => rfl); (case hy => rfl); (case hk => rfl)) | ((with_reducible apply o_neq); (case hx => rfl); (case hy => rfl); (case hk => rfl))) <;> (intro h; first | (exfalso; omega) | simp)))
        | ((with_reducible apply o_eqnil); (case hx => rfl); all_goals (try intro h); all_goals simp)
        | ((with_reducible refine o_op fun _ _ => ?_); simp)
        | ((with_reducible refine o_gt ?hg ?_); (case hg => rfl))
        | ((with_reducible apply o_gs); (case hg => rfl); (case hn => rfl); simp only [skipD, tdel, Nat.reduceEqDiff, reduceIte])
        | ((with_reducible refine o_cgt ?hg ?_); (case hg => rfl))
        | ((with_reducible apply o_cgs); (case hg => rfl); (case hn => rfl); simp only [skipD, tdel, Nat.reduceEqDiff, reduceIte])
        | with_reducible refine o_nil ?_
        | with_reducible exact d_stop
        | ((with_reducible refine d_done ?_); (try simp))
        | ((with_reducible refine d_bin ?_); ((first | ((with_reducible apply d_lss); (case hx => rfl); (case hy => rfl); (case hk => rfl)) | ((with_reducible apply d_leq); (case hx => rfl); (case hy => rfl); (case hk => rfl)) | ((with_reducible apply d_gtr); (case hx => rfl); (case hy => rfl); (case hk => rfl)) | ((with_reducible apply d_geq); (case hx => rfl); (case hy => rfl); (case hk => rfl)) | ((with_reducible apply d_eql); (case hx => rfl); (case hy => rfl); (case hk => rfl)) | ((with_reducible apply d_neq); (case hx => rfl); (case hy => rfl); (case hk => rfl))) <;> (intro h; first | (exfalso; omega) | simp)))
        | ((with_reducible refine d_fst ?_); simp [and_assoc])
        | ((with_reducible refine d_fst_gt ?hg ?_); (case hg => rfl))
        | ((with_reducible apply d_fst_gs); (case hg => rfl); (case hn => rfl); simp only [skipD, tdel, Nat.reduceEqDiff, reduceIte])
        | ((with_reducible refine d_main_gt ?hg ?_); (case hg => rfl))
        | ((with_reducible apply d_main_gs); (case hg => rfl); (case hn => rfl); all_goals (try simp only [skipD, tdel, Nat.reduceEqDiff, reduceIte]))
        | ((with_reducible refine d_call_gt ?hg ?_); (case hg => rfl))
        | ((with_reducible apply d_call_gs); (case hg => rfl); (case hn => rfl); all_goals (try simp only [skipD, tdel, Nat.reduceEqDiff, reduceIte]))
        | ((with_reducible refine d_main (fun ze => ?_) d_stop); simp)
        | ((with_reducible refine d_main (fun ze => ?_) ?_); simp)
        | ((with_reducible refine o_gh ?_); simp)
        | (with_reducible refine isR_mk ?_ (by simp))
        | ((with_reducible apply o_callp (n := 41)); (case hf => rfl); (case hp => exact hc);  simp)
        | ((with_reducible apply d_callp (n := 39)); (case hf => rfl); (case hp => exact c_ref05_with a i ⟨(a.sl[i]?.getD default).g + 1, 0, 0, 0⟩ hi hs); (try (case hr => exact d_stop));  (simp [Ar.av]))
        | (with_reducible refine And.intro (by omega) ?_)
        | (refine ex_idx (by omega) (by omega) ?_)
        | (refine And.intro (ints_hd _) ?_)
        | (refine And.intro (sls_hd _) ?_)
        | (with_reducible refine fun (ze : Nat) => ?_)
        | ((with_reducible apply o_call); (case hf => rfl))
        | ((with_reducible apply o_callc); (case hf => rfl))
        | fail)
    all_goals (unfold relR; rw [he.out, if_neg (by omega)]; simp only [Int.toNat_natCast])
    · rw [if_pos h]; simp [res2, Ar.av]
    · rw [if_neg h]; simp [res2, Ar.av, ints_app]; rfl
end Go.Proofs.RL
