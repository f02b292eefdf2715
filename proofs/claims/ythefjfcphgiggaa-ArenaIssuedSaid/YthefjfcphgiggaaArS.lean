/- The law ArenaIssued as its function's contract. Conditions: none. -/
import Derived.Test.YthefjfcphgiggaaArR
set_option linter.unusedVariables false
set_option linter.unusedSimpArgs false
namespace Go.Proofs.RL
def ac_law05_ArenaIssued : AC := (.seq (.region [.op (some 6) none false (.mv (.c (.bool false)))]) <|
  (.seq (.region [.call (some 20) none (.c (.func 5)) [],
    .op (some 7) none false (.mv (.t 20)),
    .gh (.keep [0, 1, 2, 7])]) <|
  (.seq (.region [.op (some 22) none false (.mv (.t 0)),
    .op (some 23) none false (.mv (.t 1)),
    .call (some 24) none (.c (.func 6)) [(.t 22), (.t 23)],
    .op (some 21) none false (.mv (.t 24)),
    .op (some 25) none false (.extract (.t 21) 0),
    .op (some 26) none false (.extract (.t 21) 1),
    .op (some 8) none false (.alloc [(.sl (some true) (some 0) []), (.sl (some true) (some 0) []), (.int .i64 0)]),
    .op none none false (.store 3 (.t 8) (.t 25)),
    .op (some 9) none false (.mv (.t 26)),
    .gh (.keep [2, 7, 8, 9])]) <|
  (.seq (.region [.op (some 28) none false (.load true 3 (.t 8)),
    .op (some 29) none false (.mv (.t 2)),
    .op (some 30) none false (.conv .i64 (.t 29)),
    .call (some 31) none (.c (.func 8)) [(.t 28), (.t 30)],
    .op (some 27) none false (.mv (.t 31)),
    .op (some 32) none false (.extract (.t 27) 0),
    .op (some 33) none false (.extract (.t 27) 1),
    .op (some 34) none false (.extract (.t 27) 2),
    .op (some 10) none false (.alloc [(.sl (some true) (some 0) []), (.sl (some true) (some 0) []), (.int .i64 0)]),
    .op none none false (.store 3 (.t 10) (.t 32)),
    .op (some 11) none false (.mv (.t 33)),
    .op (some 12) none false (.mv (.t 34)),
    .gh (.keep [2, 7, 8, 9, 10, 11, 12])]) <|
  (.seq (.seq (.region [.op (some 35) none false (.mv (.t 12)),
    .op (some 36) none false (.bin .neq (.t 35) (.c (.int .i64 0))),
    .gh (.keep [2, 7, 8, 9, 10, 11, 36])]) <|
  (.cond (.t 36)
    (.seq (.region [.op (some 37) none false (.mv (.t 7)),
      .op (some 38) none false (.mv (.t 37)),
      .op (some 39) (some (38, true)) false (.mv (.t 11)),
      .op (some 40) (some (38, true)) false (.bin .eql (.t 39) (.c (.int .i64 0))),
      .op (some 41) none false (.pick (.t 38) (.t 40) (.c (.bool false))),
      .op (some 6) none false (.mv (.t 41)),
      .gh (.keep [6])]) <|
    .ret)
    .skip)) <|
  (.seq (.region [.op (some 43) none false (.load true 3 (.t 10)),
    .op (some 44) none false (.mv (.t 11)),
    .call (some 45) none (.c (.func 11)) [(.t 43), (.t 44)],
    .op (some 42) none false (.mv (.t 45)),
    .op (some 46) none false (.extract (.t 42) 0),
    .op (some 47) none false (.extract (.t 42) 1),
    .op (some 13) none false (.alloc [(.int .i64 0), (.int .i64 0), (.int .i64 0), (.int .i64 0)]),
    .op none none false (.store 4 (.t 13) (.t 46)),
    .op (some 14) none false (.mv (.t 47)),
    .gh (.keep [2, 7, 8, 9, 10, 13, 14])]) <|
  (.seq (.seq (.region [.op (some 48) none false (.mv (.t 14)),
    .op (some 49) none false (.not (.t 48)),
    .op (some 50) none false (.mv (.t 49)),
    .op (some 51) (some (50, false)) false (.fieldAddr 1 (.t 13)),
    .op (some 52) (some (50, false)) false (.load false 1 (.t 51)),
    .op (some 53) (some (50, false)) false (.bin .neq (.t 52) (.c (.int .i64 1))),
    .op (some 54) none false (.pick (.t 50) (.c (.bool true)) (.t 53)),
    .op (some 55) none false (.mv (.t 54)),
    .op (some 56) (some (55, false)) false (.fieldAddr 2 (.t 13)),
    .op (some 57) (some (55, false)) false (.load false 1 (.t 56)),
    .op (some 58) (some (55, false)) false (.mv (.t 2)),
    .op (some 59) (some (55, false)) false (.conv .i64 (.t 58)),
    .op (some 60) (some (55, false)) false (.bin .neq (.t 57) (.t 59)),
    .op (some 61) none false (.pick (.t 55) (.c (.bool true)) (.t 60)),
    .op (some 62) none false (.mv (.t 61)),
    .op (some 63) (some (62, false)) false (.fieldAddr 3 (.t 13)),
    .op (some 64) (some (62, false)) false (.load false 1 (.t 63)),
    .op (some 65) (some (62, false)) false (.fieldAddr 2 (.t 8)),
    .op (some 66) (some (62, false)) false (.load false 1 (.t 65)),
    .op (some 67) (some (62, false)) false (.bin .neq (.t 64) (.t 66)),
    .op (some 68) none false (.pick (.t 62) (.c (.bool true)) (.t 67)),
    .op (some 69) none false (.mv (.t 68)),
    .op (some 70) (some (69, false)) false (.fieldAddr 2 (.t 10)),
    .op (some 71) (some (69, false)) false (.load false 1 (.t 70)),
    .op (some 72) (some (69, false)) false (.fieldAddr 2 (.t 8)),
    .op (some 73) (some (69, false)) false (.load false 1 (.t 72)),
    .op (some 74) (some (69, false)) false (.bin .add (.t 73) (.c (.int .i64 1))),
    .op (some 75) (some (69, false)) false (.bin .neq (.t 71) (.t 74)),
    .op (some 76) none false (.pick (.t 69) (.c (.bool true)) (.t 75)),
    .gh (.keep [7, 8, 9, 10, 13, 76])]) <|
  (.cond (.t 76)
    (.seq (.region [.op (some 6) none false (.mv (.c (.bool false)))]) <|
    .ret)
    .skip)) <|
  (.seq (.seq (.region [.op (some 15) none false (.mv (.c (.int .i64 0))), .gh (.keepO [108, 110, 113])]) <|
  (.block 0 <|
    (.gh (.keep [7, 8, 9, 10, 13, 15]) (.loop <|
      (.seq (.seq (.region [.op (some 77) none false (.mv (.t 15)),
        .op (some 78) none false (.mv (.t 9)),
        .op (some 79) none false (.len false (.t 78)),
        .op (some 80) none false (.bin .lss (.t 77) (.t 79)),
        .gh (.keep [7, 8, 9, 10, 13, 15, 80])]) <|
      (.cond (.t 80)
        .skip
        (.exit 0))) <|
      (.seq (.block 1 <|
        (.seq (drawC <|
          .fst (.op (some 84) none false (.load true 3 (.t 8))) <|
          .fst (.op (some 85) none false (.mv (.t 9))) <|
          .fst (.op (some 86) none false (.mv (.t 15))) <|
          .fst (.op (some 87) none false (.idxA 1 (.t 85) (.t 86))) <|
          .fst (.op (some 88) none false (.load false 1 (.t 87))) <|
          .main [] (.call (some 89) none (.c (.func 11)) [(.t 84), (.t 88)])
            (.fst (.op (some 83) none false (.mv (.t 89))) <|
            .fst (.op (some 90) none false (.extract (.t 83) 0)) <|
            .fst (.op (some 91) none false (.extract (.t 83) 1)) <|
            .main1 [(.t 87), (.t 8)] (.op (some 16) none false (.alloc [(.int .i64 0), (.int .i64 0), (.int .i64 0), (.int .i64 0)])) <|
            .main1 [] (.op none none false (.store 4 (.t 16) (.t 90))) <|
            .fst (.op (some 17) none false (.mv (.t 91))) <|
            .done)
            (.main1 [(.t 87), (.t 8)] (.op (some 16) none false (.alloc [(.int .i64 0), (.int .i64 0), (.int .i64 0), (.int .i64 0)])) <|
            .main1 [] (.call (some 89) none (.c (.func 11)) [(.t 84), (.t 88)]) <|
            .fst (.op (some 83) none false (.mv (.t 89))) <|
            .fst (.op (some 90) none false (.extract (.t 83) 0)) <|
            .fst (.op (some 91) none false (.extract (.t 83) 1)) <|
            .main1 [] (.op none none false (.store 4 (.t 16) (.t 90))) <|
            .fst (.op (some 17) none false (.mv (.t 91))) <|
            .done)) <|
        (.gh (.keep [7, 8, 9, 10, 13, 15, 16, 17]) (.seq (drawC <|
          .fst (.op (some 93) none false (.load true 3 (.t 10))) <|
          .fst (.op (some 94) none false (.mv (.t 9))) <|
          .fst (.op (some 95) none false (.mv (.t 15))) <|
          .fst (.op (some 96) none false (.idxA 1 (.t 94) (.t 95))) <|
          .fst (.op (some 97) none false (.load false 1 (.t 96))) <|
          .main [] (.call (some 98) none (.c (.func 11)) [(.t 93), (.t 97)])
            (.fst (.op (some 92) none false (.mv (.t 98))) <|
            .fst (.op (some 99) none false (.extract (.t 92) 0)) <|
            .fst (.op (some 100) none false (.extract (.t 92) 1)) <|
            .main1 [(.t 96), (.t 10)] (.op (some 18) none false (.alloc [(.int .i64 0), (.int .i64 0), (.int .i64 0), (.int .i64 0)])) <|
            .main1 [] (.op none none false (.store 4 (.t 18) (.t 99))) <|
            .fst (.op (some 19) none false (.mv (.t 100))) <|
            .done)
            (.main1 [(.t 96), (.t 10)] (.op (some 18) none false (.alloc [(.int .i64 0), (.int .i64 0), (.int .i64 0), (.int .i64 0)])) <|
            .main1 [] (.call (some 98) none (.c (.func 11)) [(.t 93), (.t 97)]) <|
            .fst (.op (some 92) none false (.mv (.t 98))) <|
            .fst (.op (some 99) none false (.extract (.t 92) 0)) <|
            .fst (.op (some 100) none false (.extract (.t 92) 1)) <|
            .main1 [] (.op none none false (.store 4 (.t 18) (.t 99))) <|
            .fst (.op (some 19) none false (.mv (.t 100))) <|
            .done)) <|
        (.gh (.keep [7, 8, 9, 10, 13, 15, 16, 17, 18, 19]) (.seq (.region [.op (some 101) none false (.mv (.t 17)),
          .op (some 102) none false (.mv (.t 19)),
          .op (some 103) none false (.eqB true (.t 101) (.t 102)),
          .op (some 104) none false (.mv (.t 103)),
          .op (some 105) (some (104, false)) false (.load true 4 (.t 16)),
          .op (some 106) (some (104, false)) false (.load true 4 (.t 18)),
          .op (some 107) (some (104, false)) false (.eqAgg true [0, 0, 0, 0] (.t 105) (.t 106)),
          .op (some 108) none false (.pick (.t 104) (.c (.bool true)) (.t 107)),
          .op (some 109) none false (.mv (.t 108)),
          .op (some 110) (some (109, false)) false (.mv (.t 17)),
          .op (some 111) (some (109, false)) false (.mv (.t 110)),
          .op (some 112) (some (111, true)) false (.fieldAddr 3 (.t 16)),
          .op (some 113) (some (111, true)) false (.load false 1 (.t 112)),
          .op (some 114) (some (111, true)) false (.fieldAddr 3 (.t 13)),
          .op (some 115) (some (111, true)) false (.load false 1 (.t 114)),
          .op (some 116) (some (111, true)) false (.bin .geq (.t 113) (.t 115)),
          .op (some 117) (some (109, false)) false (.pick (.t 111) (.t 116) (.c (.bool false))),
          .op (some 118) none false (.pick (.t 109) (.c (.bool true)) (.t 117)),
          .gh (.keep [7, 8, 9, 10, 13, 15, 118])]) <|
        (.cond (.t 118)
          (.seq (.region [.op (some 6) none false (.mv (.c (.bool false)))]) <|
          .ret)
          .skip))))))) <|
      (.region [.op (some 81) none false (.mv (.t 15)),
        .op (some 82) none false (.bin .add (.t 81) (.c (.int .i64 1))),
        .op (some 15) none false (.mv (.t 82)), .gh (.keepO [108, 110, 113]),
        .gh (.keep [7, 8, 9, 10, 13, 15])]))))))) <|
  (.seq (.region [.op (some 119) none false (.mv (.t 7)),
    .op (some 6) none false (.mv (.t 119)),
    .gh (.keep [6])]) <|
  .ret)))))))))
theorem tr_law05_ArenaIssued : trCode Try.prog Try.f4.ntmps (Try.f4.body.getD .skip) = some ac_law05_ArenaIssued.erase := by kernel_rfl
theorem fn_law05_ArenaIssued : Try.prog.funcs[4]? = some Try.f4 := by kernel_rfl
theorem bd_law05_ArenaIssued : Try.f4.body = some (Try.f4.body.getD .skip) := by kernel_rfl
theorem rs_law05_ArenaIssued : Try.f4.results.toList.mapM (trRes Try.prog) = some [.tmp 6] := by kernel_rfl
theorem go_law05_ArenaIssued {Y : YT} {kb : Nat} {args : List AV} {ob : Ob} {K : AV → Ob → Prop} (ks : Option (List Nat)) (hl : args.length ≤ 120) (h : AP Try.prog Y kb ac_law05_ArenaIssued (endK [.tmp 6] ks K) (mkTm 0 args) ob) : FnA Try.prog Y 4 args ob K :=
  FnA_of_awp hm fn_law05_ArenaIssued (by kernel_rfl) bd_law05_ArenaIssued tr_law05_ArenaIssued rs_law05_ArenaIssued ks hl h.out
set_option maxHeartbeats 8000000 in
theorem c_issued (cap : Int) (l : List LOp) (time : Int) (hc : 0 ≤ cap ∧ cap ≤ 255) (hl : l.length ≤ 281474976710656) (ho : ∀ i, i < l.length → (l[i]?.getD default).OK) (ht : 0 ≤ time ∧ time ≤ 4294967295) :
    PureA Try.prog 4 [.fv (.int .u8 cap), .fv (.sl none none (lops l)), .fv (.int .u32 time)] (.fv (.bool true)) := by
  refine ⟨fun Y => ?_⟩
  refine go_law05_ArenaIssued (kb := 100) (some []) (by simp) ?_
  unfold ac_law05_ArenaIssued
  have hinv := inv_made cap hc l (min l.length 200)
  have hiss := iss_made cap hc l (min l.length 200)
  have c1 := c_law05_Made cap l hc hl ho (madeAll cap hc l)
  have hx := c_head
  unfold made at c1
  have hm : min l.length 200 ≤ 200 := Nat.min_le_right _ _
  generalize min l.length 200 = m at *
  generalize madeN cap l m = r at *
  obtain ⟨a, iss⟩ := r
  simp only at hinv hiss
  have hok := hinv.ok (by omega)
  have hne : a.sl ≠ [] := fun e => by have := hinv.l1; rw [e] at this; simp at this
  have hil := hinv.il
  have hl2 := hinv.l2
  have hxn := hinv.x
  have cA := c_arena_Alloc a time hok
  rcases allocR_cases hinv (by omega) time ht with ⟨ha, hlv⟩ | ⟨b, hd, ha, hb, hlt⟩
  · rw [ha] at cA
    clear ha hinv hok hiss
    unfold Ar.av at *
    repeat' (first
        | ((with_reducible refine ap_id ?_); have zT := zS; (repeat (first | clear ze | revert ze)); exact zT.out)
        | ((with_reducible apply w_dseq); intro zS)
        | ((fail_if_success exact (Hd.mk trivial : Hd True)); (with_reducible refine Hd.mk ?_))
        | with_reducible refine w_seq fun K1 zn zx zr => ?_
        | with_reducible refine w_region fun K1 zq => ?_
        | with_reducible refine w_draw fun K1 zq => ?_
        | with_reducible refine w_block fun K1 yn yb yx yr => ?_
        | with_reducible refine w_skip ?_
        | with_reducible refine w_ret ?_
        | with_reducible refine w_exit ?_
        | ((with_reducible refine w_gh ?_); simp)
        | ((with_reducible refine zq _ _ ?_); clear zq; (repeat (revert ze)); intros)
        | ((with_reducible refine zn _ _ ?_); clear zn zx zr)
        | ((with_reducible refine zr _ _ ?_); clear zn zx zr)
        | ((with_reducible refine zx _ _ _ ?_); clear zn zx zr)
        | ((with_reducible refine yn _ _ ?_); clear yn yb yx yr)
        | ((with_reducible refine yb _ _ ?_); clear yn yb yx yr)
        | ((with_reducible refine yr _ _ ?_); clear yn yb yx yr)
        | ((with_reducible refine yx _ _ _ (by decide) ?_); clear yn yb yx yr)
        | ((with_reducible refine e_endn ?_); simp)
        | ((with_reducible refine e_endr ?_); simp)
        | with_reducible refine e_un ?_
        | with_reducible refine e_ux ?_
        | with_reducible refine e_ur ?_
        | ((with_reducible refine u_step ?_); (try simp))
        | ((with_reducible apply s_rangeF); (case hc => rfl); intro zel zrr)
        | ((with_reducible apply o_yld); (case hf => rfl))
        | ((with_reducible refine rf_go ?h1 ?h2 ?_); (case h1 => rfl); (case h2 => first | rfl | simp); simp [tputs])
        | ((with_reducible refine r_an ?h1 ?_); (case h1 => first | rfl | simp); simp)
        | ((with_reducible refine r_bn ?h1 ?_); (case h1 => first | rfl | simp); simp)
        | ((with_reducible refine r_bx ?h1 ?_); (case h1 => first | rfl | simp); simp)
        | ((with_reducible refine r_br ?h1 ?_); (case h1 => first | rfl | simp); simp)
        | ((with_reducible refine f_en ?h1 ?_); (case h1 => rfl); simp)
        | ((with_reducible refine f_ex ?h1 ?_); (case h1 => rfl); simp)
        | ((with_reducible refine f_er ?h1 ?_); (case h1 => rfl); simp)
        | with_reducible refine e_loopx ?_
        | with_reducible refine e_loopr ?_
        | ((with_reducible refine c_true ?hc ?_); (case hc => rfl))
        | ((with_reducible refine c_false ?hc ?_); (case hc => rfl))
        | (rw [ints_get _ _ (by omega)]; simp)
        | rw [i64_in _ (by omega)]
        | ((with_reducible refine o_bin ?_); ((first | ((with_reducible apply o_lss); (case hx => rfl); (case hy => rfl); (case hk => rfl)) | ((with_reducible apply o_leq); (case hx => rfl); (case hy => rfl); (case hk => rfl)) | ((with_reducible apply o_gtr); (case hx => rfl); (case hy => rfl); (case hk => rfl)) | ((with_reducible apply o_geq); (case hx => rfl); (case hy => rfl); (case hk => rfl)) | ((with_reducible apply o_eql); (case hx => rfl); (case hy => rfl); (case hk => rfl)) | ((with_reducible apply o_neq); (case hx => rfl); (case hy => rfl); (case hk => rfl))) <;> (intro h; first | (exfalso; omega) | simp)))
        | ((with_reducible apply o_eqnil); (case hx => rfl); all_goals (try intro h); all_goals simp)
        | ((with_reducible refine o_op fun _ _ => ?_); simp)
        | ((with_reducible refine o_gt ?hg ?_); (case hg => rfl))
        | ((with_reducible apply o_gs); (case hg => rfl); (case hn => rfl); simp only [skipD, tdel, Nat.reduceEqDiff, reduceIte])
        | ((with_reducible refine o_cgt ?hg ?_); (case hg => rfl))
        | ((with_reducible apply o_cgs); (case hg => rfl); (case hn => rfl); simp only [skipD, tdel, Nat.reduceEqDiff, reduceIte])
        | with_reducible refine o_nil ?_
        | with_reducible exact d_stop
        | ((with_reducible refine d_done ?_); (try simp))
        | ((with_reducible refine d_bin ?_); ((first | ((with_reducible apply d_lss); (case hx => rfl); (case hy => rfl); (case hk => rfl)) | ((with_reducible apply d_leq); (case hx => rfl); (case hy => rfl); (case hk => rfl)) | ((with_reducible apply d_gtr); (case hx => rfl); (case hy => rfl); (case hk => rfl)) | ((with_reducible apply d_geq); (case hx => rfl); (case hy => rfl); (case hk => rfl)) | ((with_reducible apply d_eql); (case hx => rfl); (case hy => rfl); (case hk => rfl)) | ((with_reducible apply d_neq); (case hx => rfl); (case hy => rfl); (case hk => rfl))) <;> (intro h; first | (exfalso; omega) | simp)))
        | ((with_reducible refine d_fst ?_); simp [and_assoc])
        | ((with_reducible refine d_fst_gt ?hg ?_); (case hg => rfl))
        | ((with_reducible apply d_fst_gs); (case hg => rfl); (case hn => rfl); simp only [skipD, tdel, Nat.reduceEqDiff, reduceIte])
        | ((with_reducible refine d_main_gt ?hg ?_); (case hg => rfl))
        | ((with_reducible apply d_main_gs); (case hg => rfl); (case hn => rfl); all_goals (try simp only [skipD, tdel, Nat.reduceEqDiff, reduceIte]))
        | ((with_reducible refine d_call_gt ?hg ?_); (case hg => rfl))
        | ((with_reducible apply d_call_gs); (case hg => rfl); (case hn => rfl); all_goals (try simp only [skipD, tdel, Nat.reduceEqDiff, reduceIte]))
        | ((with_reducible refine d_main (fun ze => ?_) d_stop); simp)
        | ((with_reducible refine d_main (fun ze => ?_) ?_); simp)
        | ((with_reducible refine o_gh ?_); simp)
        | (with_reducible refine isR_mk ?_ (by simp))
        | ((with_reducible apply o_callp (n := 5)); (case hf => rfl); (case hp => exact hx);  simp)
        | ((with_reducible apply o_callp (n := 6)); (case hf => rfl); (case hp => exact c1);  (simp [res2l, Ar.av]))
        | ((with_reducible apply o_callp (n := 8)); (case hf => rfl); (case hp => exact cA);  (simp [res3, Ar.av]))
        | (with_reducible refine And.intro (by omega) ?_)
        | (with_reducible refine fun (_ : Nat) => ?_)
        | ((with_reducible apply o_call); (case hf => rfl))
        | ((with_reducible apply o_callc); (case hf => rfl))
        | fail)
    all_goals simp
  · have hal := alloc_look hinv (by omega) hiss time (by rw [ha])
    rw [ha] at cA hal
    simp only at hal
    obtain ⟨⟨g, hlk⟩, hnx, hbn, hbl, hall⟩ := hal
    have cL := c_arena_Lookup b hd hbl hbn
    rw [hlk] at cL
    clear ha hinv hok hiss hlk
    have hnx2 := Hd.mk hnx
    unfold Ar.av at *
    repeat' (first
        | ((with_reducible refine ap_id ?_); have zT := zS; (repeat (first | clear ze | revert ze)); exact zT.out)
        | ((with_reducible apply w_dseq); intro zS)
        | ((fail_if_success exact (Hd.mk trivial : Hd True)); (with_reducible refine Hd.mk ?_))
        | with_reducible refine w_seq fun K1 zn zx zr => ?_
        | with_reducible refine w_region fun K1 zq => ?_
        | with_reducible refine w_draw fun K1 zq => ?_
        | with_reducible refine w_block fun K1 yn yb yx yr => ?_
        | with_reducible refine w_skip ?_
        | with_reducible refine w_ret ?_
        | with_reducible refine w_exit ?_
        | ((with_reducible refine w_gh ?_); simp)
        | ((with_reducible refine zq _ _ ?_); clear zq; (repeat (revert ze)); intros)
        | ((with_reducible refine zn _ _ ?_); clear zn zx zr)
        | ((with_reducible refine zr _ _ ?_); clear zn zx zr)
        | ((with_reducible refine zx _ _ _ ?_); clear zn zx zr)
        | ((with_reducible refine yn _ _ ?_); clear yn yb yx yr)
        | ((with_reducible refine yb _ _ ?_); clear yn yb yx yr)
        | ((with_reducible refine yr _ _ ?_); clear yn yb yx yr)
        | ((with_reducible refine yx _ _ _ (by decide) ?_); clear yn yb yx yr)
        | ((with_reducible refine e_endn ?_); simp)
        | ((with_reducible refine e_endr ?_); simp)
        | with_reducible refine e_un ?_
        | with_reducible refine e_ux ?_
        | with_reducible refine e_ur ?_
        | ((with_reducible refine u_step ?_); (try simp))
        | ((with_reducible apply s_rangeF); (case hc => rfl); intro zel zrr)
        | ((with_reducible apply o_yld); (case hf => rfl))
        | ((with_reducible refine rf_go ?h1 ?h2 ?_); (case h1 => rfl); (case h2 => first | rfl | simp); simp [tputs])
        | ((with_reducible refine r_an ?h1 ?_); (case h1 => first | rfl | simp); simp)
        | ((with_reducible refine r_bn ?h1 ?_); (case h1 => first | rfl | simp); simp)
        | ((with_reducible refine r_bx ?h1 ?_); (case h1 => first | rfl | simp); simp)
        | ((with_reducible refine r_br ?h1 ?_); (case h1 => first | rfl | simp); simp)
        | ((with_reducible refine f_en ?h1 ?_); (case h1 => rfl); simp)
        | ((with_reducible refine f_ex ?h1 ?_); (case h1 => rfl); simp)
        | ((with_reducible refine f_er ?h1 ?_); (case h1 => rfl); simp)
        | with_reducible refine e_loopx ?_
        | with_reducible refine e_loopr ?_
        | ((with_reducible refine c_true ?hc ?_); (case hc => rfl))
        | ((with_reducible refine c_false ?hc ?_); (case hc => rfl))
        | (rw [ints_get _ _ (by omega)]; simp)
        | rw [i64_in _ (by omega)]
        | ((with_reducible refine o_bin ?_); ((first | ((with_reducible apply o_lss); (case hx => rfl); (case hy => rfl); (case hk => rfl)) | ((with_reducible apply o_leq); (case hx => rfl); (case hy => rfl); (case hk => rfl)) | ((with_reducible apply o_gtr); (case hx => rfl); (case hy => rfl); (case hk => rfl)) | ((with_reducible apply o_geq); (case hx => rfl); (case hy => rfl); (case hk => rfl)) | ((with_reducible apply o_eql); (case hx => rfl); (case hy => rfl); (case hk => rfl)) | ((with_reducible apply o_neq); (case hx => rfl); (case hy => rfl); (case hk => rfl))) <;> (intro h; first | (exfalso; omega) | simp)))
        | ((with_reducible apply o_eqnil); (case hx => rfl); all_goals (try intro h); all_goals simp)
        | ((with_reducible refine o_op fun _ _ => ?_); simp)
        | ((with_reducible refine o_gt ?hg ?_); (case hg => rfl))
        | ((with_reducible apply o_gs); (case hg => rfl); (case hn => rfl); simp only [skipD, tdel, Nat.reduceEqDiff, reduceIte])
        | ((with_reducible refine o_cgt ?hg ?_); (case hg => rfl))
        | ((with_reducible apply o_cgs); (case hg => rfl); (case hn => rfl); simp only [skipD, tdel, Nat.reduceEqDiff, reduceIte])
        | with_reducible refine o_nil ?_
        | with_reducible exact d_stop
        | ((with_reducible refine d_done ?_); (try simp))
        | ((with_reducible refine d_bin ?_); ((first | ((with_reducible apply d_lss); (case hx => rfl); (case hy => rfl); (case hk => rfl)) | ((with_reducible apply d_leq); (case hx => rfl); (case hy => rfl); (case hk => rfl)) | ((with_reducible apply d_gtr); (case hx => rfl); (case hy => rfl); (case hk => rfl)) | ((with_reducible apply d_geq); (case hx => rfl); (case hy => rfl); (case hk => rfl)) | ((with_reducible apply d_eql); (case hx => rfl); (case hy => rfl); (case hk => rfl)) | ((with_reducible apply d_neq); (case hx => rfl); (case hy => rfl); (case hk => rfl))) <;> (intro h; first | (exfalso; omega) | simp)))
        | ((with_reducible refine d_fst ?_); simp [and_assoc])
        | ((with_reducible refine d_fst_gt ?hg ?_); (case hg => rfl))
        | ((with_reducible apply d_fst_gs); (case hg => rfl); (case hn => rfl); simp only [skipD, tdel, Nat.reduceEqDiff, reduceIte])
        | ((with_reducible refine d_main_gt ?hg ?_); (case hg => rfl))
        | ((with_reducible apply d_main_gs); (case hg => rfl); (case hn => rfl); all_goals (try simp only [skipD, tdel, Nat.reduceEqDiff, reduceIte]))
        | ((with_reducible refine d_call_gt ?hg ?_); (case hg => rfl))
        | ((with_reducible apply d_call_gs); (case hg => rfl); (case hn => rfl); all_goals (try simp only [skipD, tdel, Nat.reduceEqDiff, reduceIte]))
        | ((with_reducible refine d_main (fun ze => ?_) d_stop); simp)
        | ((with_reducible refine d_main (fun ze => ?_) ?_); simp)
        | ((with_reducible refine o_gh ?_); simp)
        | (with_reducible refine isR_mk ?_ (by simp))
        | ((with_reducible apply o_callp (n := 5)); (case hf => rfl); (case hp => exact hx);  simp)
        | ((with_reducible apply o_callp (n := 6)); (case hf => rfl); (case hp => exact c1);  (simp [res2l, Ar.av]))
        | ((with_reducible apply o_callp (n := 8)); (case hf => rfl); (case hp => exact cA);  (simp [res3, Ar.av]))
        | ((with_reducible apply o_callp (n := 11)); (case hf => rfl); (case hp => exact cL);  (simp [Sl.fv]))
        | (with_reducible refine And.intro (by omega) ?_)
        | (with_reducible refine fun (_ : Nat) => ?_)
        | ((with_reducible apply o_call); (case hf => rfl))
        | ((with_reducible apply o_callc); (case hf => rfl))
        | fail)
    refine s_loop (fun k tm ob => ∃ (e8 e10 e13 i : Nat), k = iss.length - i ∧ i ≤ iss.length ∧ tm = [(7, .fv (.bool true)), (8, .ptr 108 e8 0), (9, .fv (.sl none none (ints iss))), (10, .ptr 110 e10 0), (13, .ptr 113 e13 0), (15, .fv (.int .i64 i))] ∧
      ob = [(108, e8, .var [.fv (.sl none none (sls a.sl)), .fv (.sl none none (ints a.idle)), .fv (.int .i64 a.next)]), (110, e10, .var [.fv (.sl none none (sls b.sl)), .fv (.sl none none (ints b.idle)), .fv (.int .i64 b.next)]), (113, e13, .var [.fv (.int .i64 g), .fv (.int .i64 1), .fv (.int .i64 time), .fv (.int .i64 a.next)])]) iss.length ⟨_, _, _, 0, rfl, by omega, rfl, rfl⟩ ?_
    rintro k _ _ ⟨e8, e10, e13, i, rfl, hi, rfl, rfl⟩
    clear cL cA c1 hnx2
    by_cases hlt : i < iss.length
    · have cx := c_arena_Lookup a (iss[i]?.getD 0) hl2 hne
      have cy := c_arena_Lookup b (iss[i]?.getD 0) hbl hbn
      have hxx := hall (iss[i]?.getD 0) (by rw [List.getElem?_eq_getElem hlt, Option.getD_some]; exact List.getElem_mem hlt)
      rw [hxx.1] at cy
      replace hxx := hxx.2
      clear hall
      generalize lookR a (iss[i]?.getD 0) = lk at *
      obtain ⟨s, w⟩ := lk
      cases w
      all_goals unfold Ar.av at *
      all_goals simp only at hxx
      · clear hxx
        repeat' (first
            | ((with_reducible refine ap_id ?_); have zT := zS; (repeat (first | clear ze | revert ze)); exact zT.out)
            | ((with_reducible apply w_dseq); intro zS)
            | ((fail_if_success exact (Hd.mk trivial : Hd True)); (with_reducible refine Hd.mk ?_))
            | with_reducible refine w_seq fun K1 zn zx zr => ?_
            | with_reducible refine w_region fun K1 zq => ?_
            | with_reducible refine w_draw fun K1 zq => ?_
            | with_reducible refine w_block fun K1 yn yb yx yr => ?_
            | with_reducible refine w_skip ?_
            | with_reducible refine w_ret ?_
            | with_reducible refine w_exit ?_
            | ((with_reducible refine w_gh ?_); simp)
            | ((with_reducible refine zq _ _ ?_); clear zq; (repeat (revert ze)); intros)
            | ((with_reducible refine zn _ _ ?_); clear zn zx zr)
            | ((with_reducible refine zr _ _ ?_); clear zn zx zr)
            | ((with_reducible refine zx _ _ _ ?_); clear zn zx zr)
            | ((with_reducible refine yn _ _ ?_); clear yn yb yx yr)
            | ((with_reducible refine yb _ _ ?_); clear yn yb yx yr)
            | ((with_reducible refine yr _ _ ?_); clear yn yb yx yr)
            | ((with_reducible refine yx _ _ _ (by decide) ?_); clear yn yb yx yr)
            | ((with_reducible refine e_endn ?_); simp)
            | ((with_reducible refine e_endr ?_); simp)
            | with_reducible refine e_un ?_
            | with_reducible refine e_ux ?_
            | with_reducible refine e_ur ?_
            | ((with_reducible refine u_step ?_); (try simp))
            | ((with_reducible apply s_rangeF); (case hc => rfl); intro zel zrr)
            | ((with_reducible apply o_yld); (case hf => rfl))
            | ((with_reducible refine rf_go ?h1 ?h2 ?_); (case h1 => rfl); (case h2 => first | rfl | simp); simp [tputs])
            | ((with_reducible refine r_an ?h1 ?_); (case h1 => first | rfl | simp); simp)
            | ((with_reducible refine r_bn ?h1 ?_); (case h1 => first | rfl | simp); simp)
            | ((with_reducible refine r_bx ?h1 ?_); (case h1 => first | rfl | simp); simp)
            | ((with_reducible refine r_br ?h1 ?_); (case h1 => first | rfl | simp); simp)
            | ((with_reducible refine f_en ?h1 ?_); (case h1 => rfl); simp)
            | ((with_reducible refine f_ex ?h1 ?_); (case h1 => rfl); simp)
            | ((with_reducible refine f_er ?h1 ?_); (case h1 => rfl); simp)
            | with_reducible refine e_loopx ?_
            | with_reducible refine e_loopr ?_
            | ((with_reducible refine c_true ?hc ?_); (case hc => rfl))
            | ((with_reducible refine c_false ?hc ?_); (case hc => rfl))
            | (rw [ints_get _ _ (by omega)]; simp)
            | rw [i64_in _ (by omega)]
            | ((with_reducible refine o_bin ?_); ((first | ((with_reducible apply o_lss); (case hx => rfl); (case hy => rfl); (case hk => rfl)) | ((with_reducible apply o_leq); (case hx => rfl); (case hy => rfl); (case hk => rfl)) | ((with_reducible apply o_gtr); (case hx => rfl); (case hy => rfl); (case hk => rfl)) | ((with_reducible apply o_geq); (case hx => rfl); (case hy => rfl); (case hk => rfl)) | ((with_reducible apply o_eql); (case hx => rfl); (case hy => rfl); (case hk => rfl)) | ((with_reducible apply o_neq); (case hx => rfl); (case hy => rfl); (case hk => rfl))) <;> (intro h; first | (exfalso; omega) | simp)))
            | ((with_reducible apply o_eqnil); (case hx => rfl); all_goals (try intro h); all_goals simp)
            | ((with_reducible refine o_op fun _ _ => ?_); simp)
            | ((with_reducible refine o_gt ?hg ?_); (case hg => rfl))
            | ((with_reducible apply o_gs); (case hg => rfl); (case hn => rfl); simp only [skipD, tdel, Nat.reduceEqDiff, reduceIte])
            | ((with_reducible refine o_cgt ?hg ?_); (case hg => rfl))
            | ((with_reducible apply o_cgs); (case hg => rfl); (case hn => rfl); simp only [skipD, tdel, Nat.reduceEqDiff, reduceIte])
            | with_reducible refine o_nil ?_
            | with_reducible exact d_stop
            | ((with_reducible refine d_done ?_); (try simp))
            | ((with_reducible refine d_bin ?_); ((first | ((with_reducible apply d_lss); (case hx => rfl); (case hy => rfl); (case hk => rfl)) | ((with_reducible apply d_leq); (case hx => rfl); (case hy => rfl); (case hk => rfl)) | ((with_reducible apply d_gtr); (case hx => rfl); (case hy => rfl); (case hk => rfl)) | ((with_reducible apply d_geq); (case hx => rfl); (case hy => rfl); (case hk => rfl)) | ((with_reducible apply d_eql); (case hx => rfl); (case hy => rfl); (case hk => rfl)) | ((with_reducible apply d_neq); (case hx => rfl); (case hy => rfl); (case hk => rfl))) <;> (intro h; first | (exfalso; omega) | simp)))
            | ((with_reducible refine d_fst ?_); simp [and_assoc])
            | ((with_reducible refine d_fst_gt ?hg ?_); (case hg => rfl))
            | ((with_reducible apply d_fst_gs); (case hg => rfl); (case hn => rfl); simp only [skipD, tdel, Nat.reduceEqDiff, reduceIte])
            | ((with_reducible refine d_main_gt ?hg ?_); (case hg => rfl))
            | ((with_reducible apply d_main_gs); (case hg => rfl); (case hn => rfl); all_goals (try simp only [skipD, tdel, Nat.reduceEqDiff, reduceIte]))
            | ((with_reducible refine d_call_gt ?hg ?_); (case hg => rfl))
            | ((with_reducible apply d_call_gs); (case hg => rfl); (case hn => rfl); all_goals (try simp only [skipD, tdel, Nat.reduceEqDiff, reduceIte]))
            | ((with_reducible refine d_main (fun ze => ?_) d_stop); simp)
            | ((with_reducible refine d_main (fun ze => ?_) ?_); simp)
            | ((with_reducible refine o_gh ?_); simp)
            | (with_reducible refine isR_mk ?_ (by simp))
            | ((with_reducible apply o_callp (n := 11)); (case hf => rfl); (case hp => exact cx);  (simp [Sl.fv]))
            | ((with_reducible apply o_callp (n := 11)); (case hf => rfl); (case hp => exact cy);  (simp [Sl.fv]))
            | ((with_reducible apply d_callp (n := 11)); (case hf => rfl); (case hp => exact cx); (try (case hr => exact d_stop));  (simp [Sl.fv]))
            | ((with_reducible apply d_callp (n := 11)); (case hf => rfl); (case hp => exact cy); (try (case hr => exact d_stop));  (simp [Sl.fv]))
            | (with_reducible refine And.intro (by omega) ?_)
            | (with_reducible refine fun (_ : Nat) => ?_)
            | ((with_reducible apply o_call); (case hf => rfl))
            | ((with_reducible apply o_callc); (case hf => rfl))
            | fail)
        exact e_loopn (iss.length - (i + 1)) (by omega) ⟨e8, e10, e13, i + 1, rfl, by omega, by simp, by simp⟩
      · have hxx := hxx trivial
        repeat' (first
            | ((with_reducible refine ap_id ?_); have zT := zS; (repeat (first | clear ze | revert ze)); exact zT.out)
            | ((with_reducible apply w_dseq); intro zS)
            | ((fail_if_success exact (Hd.mk trivial : Hd True)); (with_reducible refine Hd.mk ?_))
            | with_reducible refine w_seq fun K1 zn zx zr => ?_
            | with_reducible refine w_region fun K1 zq => ?_
            | with_reducible refine w_draw fun K1 zq => ?_
            | with_reducible refine w_block fun K1 yn yb yx yr => ?_
            | with_reducible refine w_skip ?_
            | with_reducible refine w_ret ?_
            | with_reducible refine w_exit ?_
            | ((with_reducible refine w_gh ?_); simp)
            | ((with_reducible refine zq _ _ ?_); clear zq; (repeat (revert ze)); intros)
            | ((with_reducible refine zn _ _ ?_); clear zn zx zr)
            | ((with_reducible refine zr _ _ ?_); clear zn zx zr)
            | ((with_reducible refine zx _ _ _ ?_); clear zn zx zr)
            | ((with_reducible refine yn _ _ ?_); clear yn yb yx yr)
            | ((with_reducible refine yb _ _ ?_); clear yn yb yx yr)
            | ((with_reducible refine yr _ _ ?_); clear yn yb yx yr)
            | ((with_reducible refine yx _ _ _ (by decide) ?_); clear yn yb yx yr)
            | ((with_reducible refine e_endn ?_); simp)
            | ((with_reducible refine e_endr ?_); simp)
            | with_reducible refine e_un ?_
            | with_reducible refine e_ux ?_
            | with_reducible refine e_ur ?_
            | ((with_reducible refine u_step ?_); (try simp))
            | ((with_reducible apply s_rangeF); (case hc => rfl); intro zel zrr)
            | ((with_reducible apply o_yld); (case hf => rfl))
            | ((with_reducible refine rf_go ?h1 ?h2 ?_); (case h1 => rfl); (case h2 => first | rfl | simp); simp [tputs])
            | ((with_reducible refine r_an ?h1 ?_); (case h1 => first | rfl | simp); simp)
            | ((with_reducible refine r_bn ?h1 ?_); (case h1 => first | rfl | simp); simp)
            | ((with_reducible refine r_bx ?h1 ?_); (case h1 => first | rfl | simp); simp)
            | ((with_reducible refine r_br ?h1 ?_); (case h1 => first | rfl | simp); simp)
            | ((with_reducible refine f_en ?h1 ?_); (case h1 => rfl); simp)
            | ((with_reducible refine f_ex ?h1 ?_); (case h1 => rfl); simp)
            | ((with_reducible refine f_er ?h1 ?_); (case h1 => rfl); simp)
            | with_reducible refine e_loopx ?_
            | with_reducible refine e_loopr ?_
            | ((with_reducible refine c_true ?hc ?_); (case hc => rfl))
            | ((with_reducible refine c_false ?hc ?_); (case hc => rfl))
            | (rw [ints_get _ _ (by omega)]; simp)
            | rw [i64_in _ (by omega)]
            | ((with_reducible refine o_bin ?_); ((first | ((with_reducible apply o_lss); (case hx => rfl); (case hy => rfl); (case hk => rfl)) | ((with_reducible apply o_leq); (case hx => rfl); (case hy => rfl); (case hk => rfl)) | ((with_reducible apply o_gtr); (case hx => rfl); (case hy => rfl); (case hk => rfl)) | ((with_reducible apply o_geq); (case hx => rfl); (case hy => rfl); (case hk => rfl)) | ((with_reducible apply o_eql); (case hx => rfl); (case hy => rfl); (case hk => rfl)) | ((with_reducible apply o_neq); (case hx => rfl); (case hy => rfl); (case hk => rfl))) <;> (intro h; first | (exfalso; omega) | simp)))
            | ((with_reducible apply o_eqnil); (case hx => rfl); all_goals (try intro h); all_goals simp)
            | ((with_reducible refine o_op fun _ _ => ?_); simp)
            | ((with_reducible refine o_gt ?hg ?_); (case hg => rfl))
            | ((with_reducible apply o_gs); (case hg => rfl); (case hn => rfl); simp only [skipD, tdel, Nat.reduceEqDiff, reduceIte])
            | ((with_reducible refine o_cgt ?hg ?_); (case hg => rfl))
            | ((with_reducible apply o_cgs); (case hg => rfl); (case hn => rfl); simp only [skipD, tdel, Nat.reduceEqDiff, reduceIte])
            | with_reducible refine o_nil ?_
            | with_reducible exact d_stop
            | ((with_reducible refine d_done ?_); (try simp))
            | ((with_reducible refine d_bin ?_); ((first | ((with_reducible apply d_lss); (case hx => rfl); (case hy => rfl); (case hk => rfl)) | ((with_reducible apply d_leq); (case hx => rfl); (case hy => rfl); (case hk => rfl)) | ((with_reducible apply d_gtr); (case hx => rfl); (case hy => rfl); (case hk => rfl)) | ((with_reducible apply d_geq); (case hx => rfl); (case hy => rfl); (case hk => rfl)) | ((with_reducible apply d_eql); (case hx => rfl); (case hy => rfl); (case hk => rfl)) | ((with_reducible apply d_neq); (case hx => rfl); (case hy => rfl); (case hk => rfl))) <;> (intro h; first | (exfalso; omega) | simp)))
            | ((with_reducible refine d_fst ?_); simp [and_assoc])
            | ((with_reducible refine d_fst_gt ?hg ?_); (case hg => rfl))
            | ((with_reducible apply d_fst_gs); (case hg => rfl); (case hn => rfl); simp only [skipD, tdel, Nat.reduceEqDiff, reduceIte])
            | ((with_reducible refine d_main_gt ?hg ?_); (case hg => rfl))
            | ((with_reducible apply d_main_gs); (case hg => rfl); (case hn => rfl); all_goals (try simp only [skipD, tdel, Nat.reduceEqDiff, reduceIte]))
            | ((with_reducible refine d_call_gt ?hg ?_); (case hg => rfl))
            | ((with_reducible apply d_call_gs); (case hg => rfl); (case hn => rfl); all_goals (try simp only [skipD, tdel, Nat.reduceEqDiff, reduceIte]))
            | ((with_reducible refine d_main (fun ze => ?_) d_stop); simp)
            | ((with_reducible refine d_main (fun ze => ?_) ?_); simp)
            | ((with_reducible refine o_gh ?_); simp)
            | (with_reducible refine isR_mk ?_ (by simp))
            | ((with_reducible apply o_callp (n := 11)); (case hf => rfl); (case hp => exact cx);  (simp [Sl.fv]))
            | ((with_reducible apply o_callp (n := 11)); (case hf => rfl); (case hp => exact cy);  (simp [Sl.fv]))
            | ((with_reducible apply d_callp (n := 11)); (case hf => rfl); (case hp => exact cx); (try (case hr => exact d_stop));  (simp [Sl.fv]))
            | ((with_reducible apply d_callp (n := 11)); (case hf => rfl); (case hp => exact cy); (try (case hr => exact d_stop));  (simp [Sl.fv]))
            | (with_reducible refine And.intro (by omega) ?_)
            | (with_reducible refine fun (_ : Nat) => ?_)
            | ((with_reducible apply o_call); (case hf => rfl))
            | ((with_reducible apply o_callc); (case hf => rfl))
            | fail)
        exact e_loopn (iss.length - (i + 1)) (by omega) ⟨e8, e10, e13, i + 1, rfl, by omega, by simp, by simp⟩
    · repeat' (first
     | ((with_reducible refine ap_id ?_); have zT := zS; (repeat (first | clear ze | revert ze)); exact zT.out)
     | ((with_reducible apply w_dseq); intro zS)
     | ((fail_if_success exact (Hd.mk trivial : Hd True)); (with_reducible refine Hd.mk ?_))
     | with_reducible refine w_seq fun K1 zn zx zr => ?_
     | with_reducible refine w_region fun K1 zq => ?_
     | with_reducible refine w_draw fun K1 zq => ?_
     | with_reducible refine w_block fun K1 yn yb yx yr => ?_
     | with_reducible refine w_skip ?_
     | with_reducible refine w_ret ?_
     | with_reducible refine w_exit ?_
     | ((with_reducible refine w_gh ?_); simp)
     | ((with_reducible refine zq _ _ ?_); clear zq; (repeat (revert ze)); intros)
     | ((with_reducible refine zn _ _ ?_); clear zn zx zr)
     | ((with_reducible refine zr _ _ ?_); clear zn zx zr)
     | ((with_reducible refine zx _ _ _ ?_); clear zn zx zr)
     | ((with_reducible refine yn _ _ ?_); clear yn yb yx yr)
     | ((with_reducible refine yb _ _ ?_); clear yn yb yx yr)
     | ((with_reducible refine yr _ _ ?_); clear yn yb yx yr)
     | ((with_reducible refine yx _ _ _ (by decide) ?_); clear yn yb yx yr)
     | ((with_reducible refine e_endn ?_); simp)
     | ((with_reducible refine e_endr ?_); simp)
     | with_reducible refine e_un ?_
     | with_reducible refine e_ux ?_
     | with_reducible refine e_ur ?_
     | ((with_reducible refine u_step ?_); (try simp))
     | ((with_reducible apply s_rangeF); (case hc => rfl); intro zel zrr)
     | ((with_reducible apply o_yld); (case hf => rfl))
     | ((with_reducible refine rf_go ?h1 ?h2 ?_); (case h1 => rfl); (case h2 => first | rfl | simp); simp [tputs])
     | ((with_reducible refine r_an ?h1 ?_); (case h1 => first | rfl | simp); simp)
     | ((with_reducible refine r_bn ?h1 ?_); (case h1 => first | rfl | simp); simp)
     | ((with_reducible refine r_bx ?h1 ?_); (case h1 => first | rfl | simp); simp)
     | ((with_reducible refine r_br ?h1 ?_); (case h1 => first | rfl | simp); simp)
     | ((with_reducible refine f_en ?h1 ?_); (case h1 => rfl); simp)
     | ((with_reducible refine f_ex ?h1 ?_); (case h1 => rfl); simp)
     | ((with_reducible refine f_er ?h1 ?_); (case h1 => rfl); simp)
     | with_reducible refine e_loopx ?_
     | with_reducible refine e_loopr ?_
     | ((with_reducible refine c_true ?hc ?_); (case hc => rfl))
     | ((with_reducible refine c_false ?hc ?_); (case hc => rfl))
     | (rw [ints_get _ _ (by omega)]; simp)
     | rw [i64_in _ (by omega)]
     | ((with_reducible refine o_bin ?_); ((first | ((with_reducible apply o_lss); (case hx => rfl); (case hy => rfl); (case hk => rfl)) | ((with_reducible apply o_leq); (case hx => rfl); (case hy => rfl); (case hk => rfl)) | ((with_reducible apply o_gtr); (case hx => rfl); (case hy => rfl); (case hk => rfl)) | ((with_reducible apply o_geq); (case hx => rfl); (case hy => rfl); (case hk => rfl)) | ((with_reducible apply o_eql); (case hx => rfl); (case hy => rfl); (case hk => rfl)) | ((with_reducible apply o_neq); (case hx => rfl); (case hy => rfl); (case hk => rfl))) <;> (intro h; first | (exfalso; omega) | simp)))
     | ((with_reducible apply o_eqnil); (case hx => rfl); all_goals (try intro h); all_goals simp)
     | ((with_reducible refine o_op fun _ _ => ?_); simp)
     | ((with_reducible refine o_gt ?hg ?_); (case hg => rfl))
     | ((with_reducible apply o_gs); (case hg => rfl); (case hn => rfl); simp only [skipD, tdel, Nat.reduceEqDiff, reduceIte])
     | ((with_reducible refine o_cgt ?hg ?_); (case hg => rfl))
     | ((with_reducible apply o_cgs); (case hg => rfl); (case hn => rfl); simp only [skipD, tdel, Nat.reduceEqDiff, reduceIte])
     | with_reducible refine o_nil ?_
     | with_reducible exact d_stop
     | ((with_reducible refine d_done ?_); (try simp))
     | ((with_reducible refine d_bin ?_); ((first | ((with_reducible apply d_lss); (case hx => rfl); (case hy => rfl); (case hk => rfl)) | ((with_reducible apply d_leq); (case hx => rfl); (case hy => rfl); (case hk => rfl)) | ((with_reducible apply d_gtr); (case hx => rfl); (case hy => rfl); (case hk => rfl)) | ((with_reducible apply d_geq); (case hx => rfl); (case hy => rfl); (case hk => rfl)) | ((with_reducible apply d_eql); (case hx => rfl); (case hy => rfl); (case hk => rfl)) | ((with_reducible apply d_neq); (case hx => rfl); (case hy => rfl); (case hk => rfl))) <;> (intro h; first | (exfalso; omega) | simp)))
     | ((with_reducible refine d_fst ?_); simp [and_assoc])
     | ((with_reducible refine d_fst_gt ?hg ?_); (case hg => rfl))
     | ((with_reducible apply d_fst_gs); (case hg => rfl); (case hn => rfl); simp only [skipD, tdel, Nat.reduceEqDiff, reduceIte])
     | ((with_reducible refine d_main_gt ?hg ?_); (case hg => rfl))
     | ((with_reducible apply d_main_gs); (case hg => rfl); (case hn => rfl); all_goals (try simp only [skipD, tdel, Nat.reduceEqDiff, reduceIte]))
     | ((with_reducible refine d_call_gt ?hg ?_); (case hg => rfl))
     | ((with_reducible apply d_call_gs); (case hg => rfl); (case hn => rfl); all_goals (try simp only [skipD, tdel, Nat.reduceEqDiff, reduceIte]))
     | ((with_reducible refine d_main (fun ze => ?_) d_stop); simp)
     | ((with_reducible refine d_main (fun ze => ?_) ?_); simp)
     | ((with_reducible refine o_gh ?_); simp)
     | (with_reducible refine isR_mk ?_ (by simp))
     | (with_reducible refine And.intro (by omega) ?_)
     | (with_reducible refine fun (_ : Nat) => ?_)
     | ((with_reducible apply o_call); (case hf => rfl))
     | ((with_reducible apply o_callc); (case hf => rfl))
     | fail)
      all_goals simp
end Go.Proofs.RL
