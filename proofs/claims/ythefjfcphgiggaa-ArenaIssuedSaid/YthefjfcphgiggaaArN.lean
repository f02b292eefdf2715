/- Functions of the arena seat. Conditions: none. -/
import Derived.Test.YthefjfcphgiggaaArM
set_option linter.unusedVariables false
set_option linter.unusedSimpArgs false
namespace Go.Proofs.RL
def arb : Ar := ⟨[⟨0, 1, 7, 0⟩], [], 1⟩
def arc : Ar := ⟨[⟨0, 2, 7, 0⟩], [], 1⟩
def are : Ar := ⟨[⟨1, 1, 9, 1⟩], [], 2⟩
theorem ok1 : ArOK ar1 := ⟨by decide, by decide, by intro j hj; simp [ar1] at hj ⊢; subst hj; decide, by intro j hj; simp [ar1] at hj ⊢; subst hj; decide, by decide⟩
theorem okb : ArOK arb := ⟨by decide, by decide, by intro j hj; simp [arb] at hj, by intro j hj; simp [arb] at hj ⊢; subst hj; decide, by decide⟩
theorem okc : ArOK arc := ⟨by decide, by decide, by intro j hj; simp [arc] at hj, by intro j hj; simp [arc] at hj ⊢; subst hj; decide, by decide⟩
theorem okd : ArOK ard := ⟨by decide, by decide, by intro j hj; simp [ard] at hj ⊢; subst hj; decide, by intro j hj; simp [ard] at hj ⊢; subst hj; decide, by decide⟩
theorem h_b : PureA Try.prog 8 [ar1.av, .fv (.int .i64 7)] (res3 (arb, 0, 0)) := by
  have := c_arena_Alloc ar1 7 ok1
  rwa [show allocR ar1 7 = (arb, 0, 0) by decide] at this
theorem h_g : PureA Try.prog 8 [arb.av, .fv (.int .i64 8)] (res3 (arb, 0, 10)) := by
  have := c_arena_Alloc arb 8 okb
  rwa [show allocR arb 8 = (arb, 0, 10) by decide] at this
theorem h_e : PureA Try.prog 8 [ard.av, .fv (.int .i64 9)] (res3 (are, 64, 0)) := by
  have := c_arena_Alloc ard 9 okd
  rwa [show allocR ard 9 = (are, 64, 0) by decide] at this
theorem h_l : PureA Try.prog 11 [arb.av, .fv (.int .i64 0)] (.tup [.agg ((Sl.mk 0 1 7 0).fv.map .fv), .fv (.bool true)]) := by
  have := c_arena_Lookup arb 0 (by decide) (by decide)
  rwa [show lookR arb 0 = (⟨0, 1, 7, 0⟩, true) by decide] at this
theorem h_m : PureA Try.prog 11 [ard.av, .fv (.int .i64 0)] (.tup [.agg ((Sl.mk 0 0 0 0).fv.map .fv), .fv (.bool false)]) := by
  have := c_arena_Lookup ard 0 (by decide) (by decide)
  rwa [show lookR ard 0 = (⟨0, 0, 0, 0⟩, false) by decide] at this
theorem h_t : PureA Try.prog 13 [arb.av, .fv (.int .i64 0), .fv (.int .i64 1), .fv (.int .i64 2)] (res2 (arc, true)) := by
  have := c_arena_Transition arb 0 1 2 (by decide) (by decide)
  rwa [show transR arb 0 1 2 = (arc, true) by decide] at this
theorem h_u : PureA Try.prog 13 [arc.av, .fv (.int .i64 0), .fv (.int .i64 1), .fv (.int .i64 3)] (res2 (arc, false)) := by
  have := c_arena_Transition arc 0 1 3 (by decide) (by decide)
  rwa [show transR arc 0 1 3 = (arc, false) by decide] at this
theorem h_r : PureA Try.prog 9 [arc.av, .fv (.int .i64 0)] (res2 (ard, true)) := by
  have := c_arena_Release arc 0 okc (by decide)
  rwa [show relR arc 0 = (ard, true) by decide] at this
theorem h_v : PureA Try.prog 7 [arb.av] (.fv (.int .i64 1)) := by
  have := c_arena_Live arb
  rwa [show live arb.sl = 1 by decide] at this
theorem h_0 : PureA Try.prog 14 [.agg [.fv (.sl (some true) (some 0) []), .fv (.sl (some true) (some 0) []), .fv (.int .i64 0)]] (.fv (.bool false)) :=
  c_valid0.weak (by simp [ar0, Ar.av, sls, ints])
def ac_law05_head : AC := (.seq (.region [.op (some 0) none false (.mv (.c (.bool false)))]) <|
  (.seq (.region [.call (some 25) none (.c (.func 12)) [(.c (.int .i64 1))],
    .op (some 24) none false (.mv (.t 25)),
    .op (some 26) none false (.extract (.t 24) 0),
    .op (some 27) none false (.extract (.t 24) 1),
    .op (some 1) none false (.alloc [(.sl (some true) (some 0) []), (.sl (some true) (some 0) []), (.int .i64 0)]),
    .op none none false (.store 3 (.t 1) (.t 26)),
    .op (some 2) none false (.mv (.t 27)),
    .gh (.keep [1, 2])]) <|
  (.seq (.region [.op (some 29) none false (.load true 3 (.t 1)),
    .call (some 30) none (.c (.func 8)) [(.t 29), (.c (.int .i64 7))],
    .op (some 28) none false (.mv (.t 30)),
    .op (some 31) none false (.extract (.t 28) 0),
    .op (some 32) none false (.extract (.t 28) 1),
    .op (some 33) none false (.extract (.t 28) 2),
    .op (some 3) none false (.alloc [(.sl (some true) (some 0) []), (.sl (some true) (some 0) []), (.int .i64 0)]),
    .op none none false (.store 3 (.t 3) (.t 31)),
    .op (some 4) none false (.mv (.t 32)),
    .op (some 5) none false (.mv (.t 33)),
    .gh (.keep [2, 3, 4, 5])]) <|
  (.seq (.region [.op (some 35) none false (.load true 3 (.t 3)),
    .call (some 36) none (.c (.func 8)) [(.t 35), (.c (.int .i64 8))],
    .op (some 34) none false (.mv (.t 36)),
    .op (some 37) none false (.extract (.t 34) 0),
    .op (some 38) none false (.extract (.t 34) 1),
    .op (some 39) none false (.extract (.t 34) 2),
    .op (some 6) none false (.alloc [(.sl (some true) (some 0) []), (.sl (some true) (some 0) []), (.int .i64 0)]),
    .op none none false (.store 3 (.t 6) (.t 37)),
    .op (some 7) none false (.mv (.t 38)),
    .op (some 8) none false (.mv (.t 39)),
    .gh (.keep [2, 3, 4, 5, 8])]) <|
  (.seq (.region [.op (some 41) none false (.load true 3 (.t 3)),
    .op (some 42) none false (.mv (.t 4)),
    .call (some 43) none (.c (.func 11)) [(.t 41), (.t 42)],
    .op (some 40) none false (.mv (.t 43)),
    .op (some 44) none false (.extract (.t 40) 0),
    .op (some 45) none false (.extract (.t 40) 1),
    .op (some 9) none false (.alloc [(.int .i64 0), (.int .i64 0), (.int .i64 0), (.int .i64 0)]),
    .op none none false (.store 4 (.t 9) (.t 44)),
    .op (some 10) none false (.mv (.t 45)),
    .gh (.keep [2, 3, 4, 5, 8, 9, 10])]) <|
  (.seq (.region [.op (some 47) none false (.load true 3 (.t 3)),
    .op (some 48) none false (.mv (.t 4)),
    .call (some 49) none (.c (.func 13)) [(.t 47), (.t 48), (.c (.int .i64 1)), (.c (.int .i64 2))],
    .op (some 46) none false (.mv (.t 49)),
    .op (some 50) none false (.extract (.t 46) 0),
    .op (some 51) none false (.extract (.t 46) 1),
    .op (some 11) none false (.alloc [(.sl (some true) (some 0) []), (.sl (some true) (some 0) []), (.int .i64 0)]),
    .op none none false (.store 3 (.t 11) (.t 50)),
    .op (some 12) none false (.mv (.t 51)),
    .gh (.keep [2, 3, 4, 5, 8, 9, 10, 11, 12])]) <|
  (.seq (.region [.op (some 53) none false (.load true 3 (.t 11)),
    .op (some 54) none false (.mv (.t 4)),
    .call (some 55) none (.c (.func 13)) [(.t 53), (.t 54), (.c (.int .i64 1)), (.c (.int .i64 3))],
    .op (some 52) none false (.mv (.t 55)),
    .op (some 56) none false (.extract (.t 52) 0),
    .op (some 57) none false (.extract (.t 52) 1),
    .op (some 13) none false (.alloc [(.sl (some true) (some 0) []), (.sl (some true) (some 0) []), (.int .i64 0)]),
    .op none none false (.store 3 (.t 13) (.t 56)),
    .op (some 14) none false (.mv (.t 57)),
    .gh (.keep [2, 3, 4, 5, 8, 9, 10, 11, 12, 14])]) <|
  (.seq (.region [.op (some 59) none false (.load true 3 (.t 11)),
    .op (some 60) none false (.mv (.t 4)),
    .call (some 61) none (.c (.func 9)) [(.t 59), (.t 60)],
    .op (some 58) none false (.mv (.t 61)),
    .op (some 62) none false (.extract (.t 58) 0),
    .op (some 63) none false (.extract (.t 58) 1),
    .op (some 15) none false (.alloc [(.sl (some true) (some 0) []), (.sl (some true) (some 0) []), (.int .i64 0)]),
    .op none none false (.store 3 (.t 15) (.t 62)),
    .op (some 16) none false (.mv (.t 63)),
    .gh (.keep [2, 3, 4, 5, 8, 9, 10, 12, 14, 15, 16])]) <|
  (.seq (.region [.op (some 65) none false (.load true 3 (.t 15)),
    .op (some 66) none false (.mv (.t 4)),
    .call (some 67) none (.c (.func 11)) [(.t 65), (.t 66)],
    .op (some 64) none false (.mv (.t 67)),
    .op (some 68) none false (.extract (.t 64) 0),
    .op (some 69) none false (.extract (.t 64) 1),
    .op (some 17) none false (.alloc [(.int .i64 0), (.int .i64 0), (.int .i64 0), (.int .i64 0)]),
    .op none none false (.store 4 (.t 17) (.t 68)),
    .op (some 18) none false (.mv (.t 69)),
    .gh (.keep [2, 3, 4, 5, 8, 9, 10, 12, 14, 15, 16, 18])]) <|
  (.seq (.region [.op (some 71) none false (.load true 3 (.t 15)),
    .call (some 72) none (.c (.func 8)) [(.t 71), (.c (.int .i64 9))],
    .op (some 70) none false (.mv (.t 72)),
    .op (some 73) none false (.extract (.t 70) 0),
    .op (some 74) none false (.extract (.t 70) 1),
    .op (some 75) none false (.extract (.t 70) 2),
    .op (some 19) none false (.alloc [(.sl (some true) (some 0) []), (.sl (some true) (some 0) []), (.int .i64 0)]),
    .op none none false (.store 3 (.t 19) (.t 73)),
    .op (some 20) none false (.mv (.t 74)),
    .op (some 21) none false (.mv (.t 75)),
    .gh (.keep [2, 3, 4, 5, 8, 9, 10, 12, 14, 15, 16, 18, 20, 21])]) <|
  (.seq (.region [.call (some 77) none (.c (.func 12)) [(.c (.int .i64 65))],
    .op (some 76) none false (.mv (.t 77)),
    .op (some 78) none false (.extract (.t 76) 0),
    .op (some 79) none false (.extract (.t 76) 1),
    .op (some 22) none false (.alloc [(.sl (some true) (some 0) []), (.sl (some true) (some 0) []), (.int .i64 0)]),
    .op none none false (.store 3 (.t 22) (.t 78)),
    .op (some 23) none false (.mv (.t 79)),
    .gh (.keep [2, 3, 4, 5, 8, 9, 10, 12, 14, 15, 16, 18, 20, 21, 23])]) <|
  (.seq (.region [.op (some 80) none false (.mv (.t 2)),
    .op (some 81) none false (.bin .eql (.t 80) (.c (.int .i64 0))),
    .op (some 82) none false (.mv (.t 81)),
    .op (some 83) (some (82, true)) false (.mv (.t 5)),
    .op (some 84) (some (82, true)) false (.bin .eql (.t 83) (.c (.int .i64 0))),
    .op (some 85) none false (.pick (.t 82) (.t 84) (.c (.bool false))),
    .op (some 86) none false (.mv (.t 85)),
    .op (some 87) (some (86, true)) false (.mv (.t 8)),
    .op (some 88) (some (86, true)) false (.bin .eql (.t 87) (.c (.int .i64 10))),
    .op (some 89) none false (.pick (.t 86) (.t 88) (.c (.bool false))),
    .op (some 90) none false (.mv (.t 89)),
    .op (some 91) (some (90, true)) false (.mv (.t 4)),
    .op (some 92) (some (90, true)) false (.bin .eql (.t 91) (.c (.int .i64 0))),
    .op (some 93) none false (.pick (.t 90) (.t 92) (.c (.bool false))),
    .op (some 94) none false (.mv (.t 93)),
    .op (some 95) (some (94, true)) false (.mv (.t 10)),
    .op (some 96) none false (.pick (.t 94) (.t 95) (.c (.bool false))),
    .op (some 97) none false (.mv (.t 96)),
    .op (some 98) (some (97, true)) false (.load true 4 (.t 9)),
    .op (some 99) (some (97, true)) false (.build [(.int .i64 0), (.int .i64 0), (.int .i64 0), (.int .i64 0)] [(1, 1, (.c (.int .i64 1))), (2, 1, (.c (.int .i64 7)))]),
    .op (some 100) (some (97, true)) false (.eqAgg false [0, 0, 0, 0] (.t 98) (.t 99)),
    .op (some 101) none false (.pick (.t 97) (.t 100) (.c (.bool false))),
    .op (some 102) none false (.mv (.t 101)),
    .op (some 103) (some (102, true)) false (.mv (.t 12)),
    .op (some 104) none false (.pick (.t 102) (.t 103) (.c (.bool false))),
    .op (some 105) none false (.mv (.t 104)),
    .op (some 106) (some (105, true)) false (.mv (.t 14)),
    .op (some 107) (some (105, true)) false (.not (.t 106)),
    .op (some 108) none false (.pick (.t 105) (.t 107) (.c (.bool false))),
    .op (some 109) none false (.mv (.t 108)),
    .op (some 110) (some (109, true)) false (.mv (.t 16)),
    .op (some 111) none false (.pick (.t 109) (.t 110) (.c (.bool false))),
    .op (some 112) none false (.mv (.t 111)),
    .op (some 113) (some (112, true)) false (.mv (.t 18)),
    .op (some 114) (some (112, true)) false (.not (.t 113)),
    .op (some 115) none false (.pick (.t 112) (.t 114) (.c (.bool false))),
    .op (some 116) none false (.mv (.t 115)),
    .op (some 117) (some (116, true)) false (.mv (.t 20)),
    .op (some 118) (some (116, true)) false (.bin .eql (.t 117) (.c (.int .i64 64))),
    .op (some 119) none false (.pick (.t 116) (.t 118) (.c (.bool false))),
    .op (some 120) none false (.mv (.t 119)),
    .op (some 121) (some (120, true)) false (.mv (.t 21)),
    .op (some 122) (some (120, true)) false (.bin .eql (.t 121) (.c (.int .i64 0))),
    .op (some 123) none false (.pick (.t 120) (.t 122) (.c (.bool false))),
    .op (some 124) none false (.mv (.t 123)),
    .op (some 125) (some (124, true)) false (.mv (.t 23)),
    .op (some 126) (some (124, true)) false (.bin .eql (.t 125) (.c (.int .i64 1))),
    .op (some 127) none false (.pick (.t 124) (.t 126) (.c (.bool false))),
    .op (some 128) none false (.mv (.t 127)),
    .op (some 129) (some (128, true)) false (.load true 3 (.t 3)),
    .call (some 130) (some (128, true)) (.c (.func 7)) [(.t 129)],
    .op (some 131) (some (128, true)) false (.bin .eql (.t 130) (.c (.int .i64 1))),
    .op (some 132) none false (.pick (.t 128) (.t 131) (.c (.bool false))),
    .op (some 133) none false (.mv (.t 132)),
    .op (some 134) (some (133, true)) false (.load true 3 (.t 15)),
    .call (some 135) (some (133, true)) (.c (.func 14)) [(.t 134)],
    .op (some 136) none false (.pick (.t 133) (.t 135) (.c (.bool false))),
    .op (some 137) none false (.mv (.t 136)),
    .op (some 138) (some (137, true)) false (.build [(.sl (some true) (some 0) []), (.sl (some true) (some 0) []), (.int .i64 0)] []),
    .call (some 139) (some (137, true)) (.c (.func 14)) [(.t 138)],
    .op (some 140) (some (137, true)) false (.not (.t 139)),
    .op (some 141) none false (.pick (.t 137) (.t 140) (.c (.bool false))),
    .op (some 0) none false (.mv (.t 141)),
    .gh (.keep [0])]) <|
  .ret))))))))))))
theorem tr_law05_head : trCode Try.prog Try.f5.ntmps (Try.f5.body.getD .skip) = some ac_law05_head.erase := by kernel_rfl
theorem fn_law05_head : Try.prog.funcs[5]? = some Try.f5 := by kernel_rfl
theorem bd_law05_head : Try.f5.body = some (Try.f5.body.getD .skip) := by kernel_rfl
theorem rs_law05_head : Try.f5.results.toList.mapM (trRes Try.prog) = some [.tmp 0] := by kernel_rfl
theorem go_law05_head {Y : YT} {kb : Nat} {args : List AV} {ob : Ob} {K : AV → Ob → Prop} (ks : Option (List Nat)) (hl : args.length ≤ 142) (h : AP Try.prog Y kb ac_law05_head (endK [.tmp 0] ks K) (mkTm 0 args) ob) : FnA Try.prog Y 5 args ob K :=
  FnA_of_awp hm fn_law05_head (by kernel_rfl) bd_law05_head tr_law05_head rs_law05_head ks hl h.out
set_option maxHeartbeats 8000000 in
theorem c_head : PureA Try.prog 5 [] (.fv (.bool true)) := by
  refine ⟨fun Y => ?_⟩
  refine go_law05_head (kb := 100) (some []) (by simp) ?_
  unfold ac_law05_head
  have n1 := c_new1
  have n2 := c_new65
  have a1 := h_b
  have a2 := h_g
  have a3 := h_e
  have l1 := h_l
  have l2 := h_m
  have t1 := h_t
  have t2 := h_u
  have r1 := h_r
  have v1 := h_v
  have v2 := c_validd
  unfold Ar.av at a1 a2 a3 l1 l2 t1 t2 r1 v1 v2
  repeat' (first
      | ((with_reducible refine ap_id ?_); have zT := zS; (repeat (first | clear ze | revert ze)); exact zT.out)
      | ((with_reducible apply w_dseq); intro zS)
      | ((fail_if_success exact (Hd.mk trivial : Hd True)); (with_reducible refine Hd.mk ?_))
      | with_reducible refine w_seq fun K1 zn zx zr => ?_
      | with_reducible refine w_region fun K1 zq => ?_
      | with_reducible refine w_draw fun K1 zq => ?_
      | with_reducible refine w_block fun K1 yn yb yx yr => ?_
      | with_reducible refine w_skip ?_
      | with_reducible refine w_ret ?_
      | with_reducible refine w_exit ?_
      | ((with_reducible refine w_gh ?_); simp)
      | ((with_reducible refine zq _ _ ?_); clear zq)
      | ((with_reducible refine zn _ _ ?_); clear zn zx zr)
      | ((with_reducible refine zr _ _ ?_); clear zn zx zr)
      | ((with_reducible refine zx _ _ _ ?_); clear zn zx zr)
      | ((with_reducible refine yn _ _ ?_); clear yn yb yx yr)
      | ((with_reducible refine yb _ _ ?_); clear yn yb yx yr)
      | ((with_reducible refine yr _ _ ?_); clear yn yb yx yr)
      | ((with_reducible refine yx _ _ _ (by decide) ?_); clear yn yb yx yr)
      | ((with_reducible refine e_endn ?_); simp)
      | ((with_reducible refine e_endr ?_); simp)
      | with_reducible refine e_un ?_
      | with_reducible refine e_ux ?_
      | with_reducible refine e_ur ?_
      | ((with_reducible refine u_step ?_); (try simp))
      | ((with_reducible apply s_rangeF); (case hc => rfl); intro zel zrr)
      | ((with_reducible apply o_yld); (case hf => rfl))
      | ((with_reducible refine rf_go ?h1 ?h2 ?_); (case h1 => rfl); (case h2 => first | rfl | simp); simp [tputs])
      | ((with_reducible refine r_an ?h1 ?_); (case h1 => first | rfl | simp); simp)
      | ((with_reducible refine r_bn ?h1 ?_); (case h1 => first | rfl | simp); simp)
      | ((with_reducible refine r_bx ?h1 ?_); (case h1 => first | rfl | simp); simp)
      | ((with_reducible refine r_br ?h1 ?_); (case h1 => first | rfl | simp); simp)
      | ((with_reducible refine f_en ?h1 ?_); (case h1 => rfl); simp)
      | ((with_reducible refine f_ex ?h1 ?_); (case h1 => rfl); simp)
      | ((with_reducible refine f_er ?h1 ?_); (case h1 => rfl); simp)
      | with_reducible refine e_loopx ?_
      | with_reducible refine e_loopr ?_
      | ((with_reducible refine c_true ?hc ?_); (case hc => rfl))
      | ((with_reducible refine c_false ?hc ?_); (case hc => rfl))
      | rw [i64_in _ (by omega)]
      | ((with_reducible refine o_bin ?_); ((first | ((with_reducible apply o_lss); (case hx => rfl); (case hy => rfl); (case hk => rfl)) | ((with_reducible apply o_leq); (case hx => rfl); (case hy => rfl); (case hk => rfl)) | ((with_reducible apply o_gtr); (case hx => rfl); (case hy => rfl); (case hk => rfl)) | ((with_reducible apply o_geq); (case hx => rfl); (case hy => rfl); (case hk => rfl)) | ((with_reducible apply o_eql); (case hx => rfl); (case hy => rfl); (case hk => rfl)) | ((with_reducible apply o_neq); (case hx => rfl); (case hy => rfl); (case hk => rfl))) <;> (intro h; first | (exfalso; omega) | simp)))
      | ((with_reducible apply o_eqnil); (case hx => rfl); all_goals (try intro h); all_goals simp)
      | ((with_reducible refine o_op fun _ _ => ?_); simp)
      | ((with_reducible refine o_gt ?hg ?_); (case hg => rfl))
      | ((with_reducible apply o_gs); (case hg => rfl); (case hn => rfl); simp only [skipD, tdel, Nat.reduceEqDiff, reduceIte])
      | ((with_reducible refine o_cgt ?hg ?_); (case hg => rfl))
      | ((with_reducible apply o_cgs); (case hg => rfl); (case hn => rfl); simp only [skipD, tdel, Nat.reduceEqDiff, reduceIte])
      | with_reducible refine o_nil ?_
      | with_reducible exact d_stop
      | ((with_reducible refine d_done ?_); (try simp))
      | ((with_reducible refine d_bin ?_); ((first | ((with_reducible apply d_lss); (case hx => rfl); (case hy => rfl); (case hk => rfl)) | ((with_reducible apply d_leq); (case hx => rfl); (case hy => rfl); (case hk => rfl)) | ((with_reducible apply d_gtr); (case hx => rfl); (case hy => rfl); (case hk => rfl)) | ((with_reducible apply d_geq); (case hx => rfl); (case hy => rfl); (case hk => rfl)) | ((with_reducible apply d_eql); (case hx => rfl); (case hy => rfl); (case hk => rfl)) | ((with_reducible apply d_neq); (case hx => rfl); (case hy => rfl); (case hk => rfl))) <;> (intro h; first | (exfalso; omega) | simp)))
      | ((with_reducible refine d_fst ?_); simp [and_assoc])
      | ((with_reducible refine d_fst_gt ?hg ?_); (case hg => rfl))
      | ((with_reducible apply d_fst_gs); (case hg => rfl); (case hn => rfl); simp only [skipD, tdel, Nat.reduceEqDiff, reduceIte])
      | ((with_reducible refine d_main_gt ?hg ?_); (case hg => rfl))
      | ((with_reducible apply d_main_gs); (case hg => rfl); (case hn => rfl); all_goals (try simp only [skipD, tdel, Nat.reduceEqDiff, reduceIte]))
      | ((with_reducible refine d_call_gt ?hg ?_); (case hg => rfl))
      | ((with_reducible apply d_call_gs); (case hg => rfl); (case hn => rfl); all_goals (try simp only [skipD, tdel, Nat.reduceEqDiff, reduceIte]))
      | ((with_reducible refine d_main (fun ze => ?_) d_stop); simp)
      | ((with_reducible refine d_main (fun ze => ?_) ?_); simp)
      | ((with_reducible refine o_gh ?_); simp)
      | (with_reducible refine isR_mk ?_ (by simp))
      | ((with_reducible apply o_callp (n := 12)); (case hf => rfl); (case hp => exact n1);  (simp [resE, Ar.av]))
      | ((with_reducible apply o_callp (n := 12)); (case hf => rfl); (case hp => exact n2);  (simp [resE, Ar.av]))
      | ((with_reducible apply o_callp (n := 8)); (case hf => rfl); (case hp => exact a1);  (simp [res3, Ar.av]))
      | ((with_reducible apply o_callp (n := 8)); (case hf => rfl); (case hp => exact a2);  (simp [res3, Ar.av]))
      | ((with_reducible apply o_callp (n := 8)); (case hf => rfl); (case hp => exact a3);  (simp [res3, Ar.av]))
      | ((with_reducible apply o_callp (n := 11)); (case hf => rfl); (case hp => exact l1);  (simp [Sl.fv]))
      | ((with_reducible apply o_callp (n := 11)); (case hf => rfl); (case hp => exact l2);  (simp [Sl.fv]))
      | ((with_reducible apply o_callp (n := 13)); (case hf => rfl); (case hp => exact t1);  (simp [res2, Ar.av]))
      | ((with_reducible apply o_callp (n := 13)); (case hf => rfl); (case hp => exact t2);  (simp [res2, Ar.av]))
      | ((with_reducible apply o_callp (n := 9)); (case hf => rfl); (case hp => exact r1);  (simp [res2, Ar.av]))
      | ((with_reducible apply o_callp (n := 7)); (case hf => rfl); (case hp => exact v1);  simp)
      | ((with_reducible apply o_callp (n := 14)); (case hf => rfl); (case hp => exact v2);  simp)
      | ((with_reducible apply o_callp (n := 14)); (case hf => rfl); (case hp => exact h_0);  simp)
      | (with_reducible refine And.intro (by omega) ?_)
      | (with_reducible refine fun (ze : Nat) => ?_)
      | ((with_reducible apply o_call); (case hf => rfl))
      | ((with_reducible apply o_callc); (case hf => rfl))
      | fail)
  all_goals simp
end Go.Proofs.RL
