/- The arena's two laws as contracts of their functions. Conditions: none. -/
import Derived.Test.YthefjfcphgiggaaArO
set_option linter.unusedVariables false
set_option linter.unusedSimpArgs false
namespace Go.Proofs.RL
theorem allocR_cases {n : Nat} {a : Ar} {iss : List Int} (h : Inv n a iss) (hn : n ≤ 1000) (t : Int) (ht : 0 ≤ t ∧ t ≤ 4294967295) :
    (allocR a t = (a, 0, 10) ∧ live a.sl = a.sl.length) ∨ (∃ b hd, allocR a t = (b, hd, 0) ∧ live b.sl = live a.sl + 1 ∧ live a.sl < a.sl.length) := by
  have hc := h.cnt
  by_cases he : a.idle.length = 0
  · left
    refine ⟨?_, by omega⟩
    unfold allocR; rw [if_neg (by omega), if_pos (.inl he)]
  · right
    have hx := h.x
    rcases inv_alloc h t with ⟨h1, _, h3⟩ | ⟨h1, _⟩
    · refine ⟨(allocR a t).1, (allocR a t).2.1, ?_, h3, by omega⟩
      rw [← h1]
    · exfalso
      apply h1
      unfold allocR; rw [if_neg (by omega), if_neg (by omega)]
def ac_law05_ArenaCapacity : AC := (.seq (.region [.op (some 8) none false (.mv (.c (.bool false)))]) <|
  (.seq (.region [.call (some 18) none (.c (.func 5)) [],
    .op (some 9) none false (.mv (.t 18)),
    .gh (.keep [0, 1, 2, 3, 9])]) <|
  (.seq (.region [.op (some 20) none false (.mv (.t 0)),
    .op (some 21) none false (.mv (.t 1)),
    .call (some 22) none (.c (.func 6)) [(.t 20), (.t 21)],
    .op (some 19) none false (.mv (.t 22)),
    .op (some 23) none false (.extract (.t 19) 0),
    .op (some 24) none false (.extract (.t 19) 1),
    .op (some 10) none false (.alloc [(.sl (some true) (some 0) []), (.sl (some true) (some 0) []), (.int .i64 0)]),
    .op none none false (.store 3 (.t 10) (.t 23)),
    .op (some 11) none false (.mv (.t 24)),
    .gh (.keep [2, 3, 9, 10, 11])]) <|
  (.seq (.region [.op (some 25) none false (.load true 3 (.t 10)),
    .call (some 26) none (.c (.func 7)) [(.t 25)],
    .op (some 12) none false (.mv (.t 26)),
    .gh (.keep [2, 3, 9, 10, 11, 12])]) <|
  (.seq (.region [.op (some 28) none false (.load true 3 (.t 10)),
    .op (some 29) none false (.mv (.t 2)),
    .op (some 30) none false (.conv .i64 (.t 29)),
    .call (some 31) none (.c (.func 8)) [(.t 28), (.t 30)],
    .op (some 27) none false (.mv (.t 31)),
    .op (some 32) none false (.extract (.t 27) 0),
    .op (some 33) none false (.extract (.t 27) 1),
    .op (some 34) none false (.extract (.t 27) 2),
    .op (some 13) none false (.alloc [(.sl (some true) (some 0) []), (.sl (some true) (some 0) []), (.int .i64 0)]),
    .op none none false (.store 3 (.t 13) (.t 32)),
    .op (some 14) none false (.mv (.t 33)),
    .op (some 15) none false (.mv (.t 34)),
    .gh (.keep [3, 9, 10, 11, 12, 13, 15])]) <|
  (.seq (drawC <|
    .fst (.op (some 36) none false (.load true 3 (.t 10))) <|
    .fst (.op (some 37) none false (.mv (.t 11))) <|
    .fst (.op (some 38) none false (.mv (.t 3))) <|
    .main [(.t 10)] (.call (some 39) none (.c (.func 10)) [(.t 37), (.t 38)])
      (.main [] (.call (some 40) none (.c (.func 9)) [(.t 36), (.t 39)])
        (.fst (.op (some 35) none false (.mv (.t 40))) <|
        .fst (.op (some 41) none false (.extract (.t 35) 0)) <|
        .fst (.op (some 42) none false (.extract (.t 35) 1)) <|
        .main1 [(.t 10)] (.op (some 16) none false (.alloc [(.sl (some true) (some 0) []), (.sl (some true) (some 0) []), (.int .i64 0)])) <|
        .main1 [] (.op none none false (.store 3 (.t 16) (.t 41))) <|
        .fst (.op (some 17) none false (.mv (.t 42))) <|
        .done)
        (.main1 [(.t 10)] (.op (some 16) none false (.alloc [(.sl (some true) (some 0) []), (.sl (some true) (some 0) []), (.int .i64 0)])) <|
        .main1 [] (.call (some 40) none (.c (.func 9)) [(.t 36), (.t 39)]) <|
        .fst (.op (some 35) none false (.mv (.t 40))) <|
        .fst (.op (some 41) none false (.extract (.t 35) 0)) <|
        .fst (.op (some 42) none false (.extract (.t 35) 1)) <|
        .main1 [] (.op none none false (.store 3 (.t 16) (.t 41))) <|
        .fst (.op (some 17) none false (.mv (.t 42))) <|
        .done))
      (.main1 [(.t 10)] (.op (some 16) none false (.alloc [(.sl (some true) (some 0) []), (.sl (some true) (some 0) []), (.int .i64 0)])) <|
      .main1 [(.t 10)] (.call (some 39) none (.c (.func 10)) [(.t 37), (.t 38)]) <|
      .main1 [] (.call (some 40) none (.c (.func 9)) [(.t 36), (.t 39)]) <|
      .fst (.op (some 35) none false (.mv (.t 40))) <|
      .fst (.op (some 41) none false (.extract (.t 35) 0)) <|
      .fst (.op (some 42) none false (.extract (.t 35) 1)) <|
      .main1 [] (.op none none false (.store 3 (.t 16) (.t 41))) <|
      .fst (.op (some 17) none false (.mv (.t 42))) <|
      .done)) <|
  (.gh (.keep [9, 10, 12, 13, 15, 16, 17]) (.seq (.seq (.region [.op (some 43) none false (.mv (.t 12)),
    .op (some 44) none false (.bin .lss (.t 43) (.c (.int .i64 0))),
    .op (some 45) none false (.mv (.t 44)),
    .op (some 46) (some (45, false)) false (.mv (.t 12)),
    .op (some 47) (some (45, false)) false (.fieldAddr 0 (.t 10)),
    .op (some 48) (some (45, false)) false (.load false 1 (.t 47)),
    .op (some 49) (some (45, false)) false (.len false (.t 48)),
    .op (some 50) (some (45, false)) false (.bin .gtr (.t 46) (.t 49)),
    .op (some 51) none false (.pick (.t 45) (.c (.bool true)) (.t 50)),
    .op (some 52) none false (.mv (.t 51)),
    .op (some 53) (some (52, false)) false (.mv (.t 15)),
    .op (some 54) (some (52, false)) false (.bin .eql (.t 53) (.c (.int .i64 10))),
    .op (some 55) (some (52, false)) false (.mv (.t 12)),
    .op (some 56) (some (52, false)) false (.fieldAddr 0 (.t 10)),
    .op (some 57) (some (52, false)) false (.load false 1 (.t 56)),
    .op (some 58) (some (52, false)) false (.len false (.t 57)),
    .op (some 59) (some (52, false)) false (.bin .eql (.t 55) (.t 58)),
    .op (some 60) (some (52, false)) false (.eqB true (.t 54) (.t 59)),
    .op (some 61) none false (.pick (.t 52) (.c (.bool true)) (.t 60)),
    .op (some 62) none false (.mv (.t 61)),
    .op (some 63) (some (62, false)) false (.mv (.t 15)),
    .op (some 64) (some (62, false)) false (.bin .neq (.t 63) (.c (.int .i64 0))),
    .op (some 65) (some (62, false)) false (.mv (.t 64)),
    .op (some 66) (some (65, true)) false (.mv (.t 15)),
    .op (some 67) (some (65, true)) false (.bin .neq (.t 66) (.c (.int .i64 10))),
    .op (some 68) (some (62, false)) false (.pick (.t 65) (.t 67) (.c (.bool false))),
    .op (some 69) none false (.pick (.t 62) (.c (.bool true)) (.t 68)),
    .gh (.keep [9, 12, 13, 15, 16, 17, 69])]) <|
  (.cond (.t 69)
    (.seq (.region [.op (some 8) none false (.mv (.c (.bool false)))]) <|
    .ret)
    .skip)) <|
  (.seq (.seq (.region [.op (some 70) none false (.mv (.t 15)),
    .op (some 71) none false (.bin .eql (.t 70) (.c (.int .i64 0))),
    .op (some 72) none false (.mv (.t 71)),
    .op (some 73) (some (72, true)) false (.load true 3 (.t 13)),
    .call (some 74) (some (72, true)) (.c (.func 7)) [(.t 73)],
    .op (some 75) (some (72, true)) false (.mv (.t 12)),
    .op (some 76) (some (72, true)) false (.bin .add (.t 75) (.c (.int .i64 1))),
    .op (some 77) (some (72, true)) false (.bin .neq (.t 74) (.t 76)),
    .op (some 78) none false (.pick (.t 72) (.t 77) (.c (.bool false))),
    .gh (.keep [9, 12, 16, 17, 78])]) <|
  (.cond (.t 78)
    (.seq (.region [.op (some 8) none false (.mv (.c (.bool false)))]) <|
    .ret)
    .skip)) <|
  (.seq (.region [.op (some 79) none false (.mv (.t 9)),
    .op (some 80) none false (.mv (.t 79)),
    .op (some 81) (some (80, true)) false (.mv (.t 17)),
    .op (some 82) (some (80, true)) false (.not (.t 81)),
    .op (some 83) (some (80, true)) false (.mv (.t 82)),
    .op (some 84) (some (83, false)) false (.load true 3 (.t 16)),
    .call (some 85) (some (83, false)) (.c (.func 7)) [(.t 84)],
    .op (some 86) (some (83, false)) false (.mv (.t 12)),
    .op (some 87) (some (83, false)) false (.bin .sub (.t 86) (.c (.int .i64 1))),
    .op (some 88) (some (83, false)) false (.bin .eql (.t 85) (.t 87)),
    .op (some 89) (some (80, true)) false (.pick (.t 83) (.c (.bool true)) (.t 88)),
    .op (some 90) none false (.pick (.t 80) (.t 89) (.c (.bool false))),
    .op (some 8) none false (.mv (.t 90)),
    .gh (.keep [8])]) <|
  .ret))))))))))
theorem tr_law05_ArenaCapacity : trCode Try.prog Try.f3.ntmps (Try.f3.body.getD .skip) = some ac_law05_ArenaCapacity.erase := by kernel_rfl
theorem fn_law05_ArenaCapacity : Try.prog.funcs[3]? = some Try.f3 := by kernel_rfl
theorem bd_law05_ArenaCapacity : Try.f3.body = some (Try.f3.body.getD .skip) := by kernel_rfl
theorem rs_law05_ArenaCapacity : Try.f3.results.toList.mapM (trRes Try.prog) = some [.tmp 8] := by kernel_rfl
theorem go_law05_ArenaCapacity {Y : YT} {kb : Nat} {args : List AV} {ob : Ob} {K : AV → Ob → Prop} (ks : Option (List Nat)) (hl : args.length ≤ 91) (h : AP Try.prog Y kb ac_law05_ArenaCapacity (endK [.tmp 8] ks K) (mkTm 0 args) ob) : FnA Try.prog Y 3 args ob K :=
  FnA_of_awp hm fn_law05_ArenaCapacity (by kernel_rfl) bd_law05_ArenaCapacity tr_law05_ArenaCapacity rs_law05_ArenaCapacity ks hl h.out
set_option maxHeartbeats 8000000 in
theorem c_capacity (cap : Int) (l : List LOp) (time n : Int) (hc : 0 ≤ cap ∧ cap ≤ 255) (hl : l.length ≤ 281474976710656) (ho : ∀ i, i < l.length → (l[i]?.getD default).OK) (ht : 0 ≤ time ∧ time ≤ 4294967295) :
    PureA Try.prog 3 [.fv (.int .u8 cap), .fv (.sl none none (lops l)), .fv (.int .u32 time), .fv (.int .i64 n)] (.fv (.bool true)) := by
  refine ⟨fun Y => ?_⟩
  refine go_law05_ArenaCapacity (kb := 100) (some []) (by simp) ?_
  unfold ac_law05_ArenaCapacity
  have hinv := inv_made cap hc l (min l.length 200)
  have c1 := c_law05_Made cap l hc hl ho (madeAll cap hc l)
  have hx := c_head
  unfold made at c1
  have hm : min l.length 200 ≤ 200 := Nat.min_le_right _ _
  generalize min l.length 200 = m at *
  generalize madeN cap l m = r at *
  obtain ⟨a, iss⟩ := r
  simp only at hinv
  have hok := hinv.ok (by omega)
  have hne : a.sl ≠ [] := fun e => by have := hinv.l1; rw [e] at this; simp at this
  have hil := hinv.il
  have hl2 := hinv.l2
  have cL := c_arena_Live a
  have cA := c_arena_Alloc a time hok
  have cP := c_law05_Pick iss n (by omega)
  have cR := c_arena_Release a (pick iss n) hok hne
  have hr := inv_rel hinv (pick iss n)
  have ha := allocR_cases hinv (by omega) time ht
  generalize pick iss n = p at *
  generalize relR a p = rr at *
  obtain ⟨c, fr⟩ := rr
  simp only at hr
  have cM := c_arena_Live c
  have hcl : live a.sl ≤ a.sl.length := by have := hinv.cnt; omega
  replace hr : (fr = true ∧ live c.sl + 1 = live a.sl) ∨ fr = false := by
    rcases hr with ⟨h1, _, h3⟩ | ⟨h1, _⟩
    · exact .inl ⟨h1, h3⟩
    · exact .inr h1
  clear hinv hok
  rcases ha with ⟨ha, hlv⟩ | ⟨b, hd, ha, hb, hlt⟩
  all_goals rw [ha] at cA
  all_goals clear ha
  · rcases hr with ⟨rfl, hr⟩ | rfl
    all_goals unfold Ar.av at *
    all_goals
      repeat' (first
          | ((with_reducible refine ap_id ?_); have zT := zS; (repeat (first | clear ze | revert ze)); exact zT.out)
          | ((with_reducible apply w_dseq); intro zS)
          | ((fail_if_success exact (Hd.mk trivial : Hd True)); (with_reducible refine Hd.mk ?_))
          | with_reducible refine w_seq fun K1 zn zx zr => ?_
          | with_reducible refine w_region fun K1 zq => ?_
          | with_reducible refine w_draw fun K1 zq => ?_
          | with_reducible refine w_block fun K1 yn yb yx yr => ?_
          | with_reducible refine w_skip ?_
          | with_reducible refine w_ret ?_
          | with_reducible refine w_exit ?_
          | ((with_reducible refine w_gh ?_); simp)
          | ((with_reducible refine zq _ _ ?_); clear zq)
          | ((with_reducible refine zn _ _ ?_); clear zn zx zr)
          | ((with_reducible refine zr _ _ ?_); clear zn zx zr)
          | ((with_reducible refine zx _ _ _ ?_); clear zn zx zr)
          | ((with_reducible refine yn _ _ ?_); clear yn yb yx yr)
          | ((with_reducible refine yb _ _ ?_); clear yn yb yx yr)
          | ((with_reducible refine yr _ _ ?_); clear yn yb yx yr)
          | ((with_reducible refine yx _ _ _ (by decide) ?_); clear yn yb yx yr)
          | ((with_reducible refine e_endn ?_); simp)
          | ((with_reducible refine e_endr ?_); simp)
          | with_reducible refine e_un ?_
          | with_reducible refine e_ux ?_
          | with_reducible refine e_ur ?_
          | ((with_reducible refine u_step ?_); (try simp))
          | ((with_reducible apply s_rangeF); (case hc => rfl); intro zel zrr)
          | ((with_reducible apply o_yld); (case hf => rfl))
          | ((with_reducible refine rf_go ?h1 ?h2 ?_); (case h1 => rfl); (case h2 => first | rfl | simp); simp [tputs])
          | ((with_reducible refine r_an ?h1 ?_); (case h1 => first | rfl | simp); simp)
          | ((with_reducible refine r_bn ?h1 ?_); (case h1 => first | rfl | simp); simp)
          | ((with_reducible refine r_bx ?h1 ?_); (case h1 => first | rfl | simp); simp)
          | ((with_reducible refine r_br ?h1 ?_); (case h1 => first | rfl | simp); simp)
          | ((with_reducible refine f_en ?h1 ?_); (case h1 => rfl); simp)
          | ((with_reducible refine f_ex ?h1 ?_); (case h1 => rfl); simp)
          | ((with_reducible refine f_er ?h1 ?_); (case h1 => rfl); simp)
          | with_reducible refine e_loopx ?_
          | with_reducible refine e_loopr ?_
          | ((with_reducible refine c_true ?hc ?_); (case hc => rfl))
          | ((with_reducible refine c_false ?hc ?_); (case hc => rfl))
          | rw [i64_in _ (by omega)]
          | ((with_reducible refine o_bin ?_); ((first | ((with_reducible apply o_lss); (case hx => rfl); (case hy => rfl); (case hk => rfl)) | ((with_reducible apply o_leq); (case hx => rfl); (case hy => rfl); (case hk => rfl)) | ((with_reducible apply o_gtr); (case hx => rfl); (case hy => rfl); (case hk => rfl)) | ((with_reducible apply o_geq); (case hx => rfl); (case hy => rfl); (case hk => rfl)) | ((with_reducible apply o_eql); (case hx => rfl); (case hy => rfl); (case hk => rfl)) | ((with_reducible apply o_neq); (case hx => rfl); (case hy => rfl); (case hk => rfl))) <;> (intro h; first | (exfalso; omega) | simp)))
          | ((with_reducible apply o_eqnil); (case hx => rfl); all_goals (try intro h); all_goals simp)
          | ((with_reducible refine o_op fun _ _ => ?_); simp)
          | ((with_reducible refine o_gt ?hg ?_); (case hg => rfl))
          | ((with_reducible apply o_gs); (case hg => rfl); (case hn => rfl); simp only [skipD, tdel, Nat.reduceEqDiff, reduceIte])
          | ((with_reducible refine o_cgt ?hg ?_); (case hg => rfl))
          | ((with_reducible apply o_cgs); (case hg => rfl); (case hn => rfl); simp only [skipD, tdel, Nat.reduceEqDiff, reduceIte])
          | with_reducible refine o_nil ?_
          | with_reducible exact d_stop
          | ((with_reducible refine d_done ?_); (try simp))
          | ((with_reducible refine d_bin ?_); ((first | ((with_reducible apply d_lss); (case hx => rfl); (case hy => rfl); (case hk => rfl)) | ((with_reducible apply d_leq); (case hx => rfl); (case hy => rfl); (case hk => rfl)) | ((with_reducible apply d_gtr); (case hx => rfl); (case hy => rfl); (case hk => rfl)) | ((with_reducible apply d_geq); (case hx => rfl); (case hy => rfl); (case hk => rfl)) | ((with_reducible apply d_eql); (case hx => rfl); (case hy => rfl); (case hk => rfl)) | ((with_reducible apply d_neq); (case hx => rfl); (case hy => rfl); (case hk => rfl))) <;> (intro h; first | (exfalso; omega) | simp)))
          | ((with_reducible refine d_fst ?_); simp [and_assoc])
          | ((with_reducible refine d_fst_gt ?hg ?_); (case hg => rfl))
          | ((with_reducible apply d_fst_gs); (case hg => rfl); (case hn => rfl); simp only [skipD, tdel, Nat.reduceEqDiff, reduceIte])
          | ((with_reducible refine d_main_gt ?hg ?_); (case hg => rfl))
          | ((with_reducible apply d_main_gs); (case hg => rfl); (case hn => rfl); all_goals (try simp only [skipD, tdel, Nat.reduceEqDiff, reduceIte]))
          | ((with_reducible refine d_call_gt ?hg ?_); (case hg => rfl))
          | ((with_reducible apply d_call_gs); (case hg => rfl); (case hn => rfl); all_goals (try simp only [skipD, tdel, Nat.reduceEqDiff, reduceIte]))
          | ((with_reducible refine d_main (fun ze => ?_) d_stop); simp)
          | ((with_reducible refine d_main (fun ze => ?_) ?_); simp)
          | ((with_reducible refine o_gh ?_); simp)
          | (with_reducible refine isR_mk ?_ (by simp))
          | ((with_reducible apply o_callp (n := 5)); (case hf => rfl); (case hp => exact hx);  simp)
          | ((with_reducible apply o_callp (n := 6)); (case hf => rfl); (case hp => exact c1);  (simp [res2l, Ar.av]))
          | ((with_reducible apply o_callp (n := 7)); (case hf => rfl); (case hp => exact cL);  simp)
          | ((with_reducible apply o_callp (n := 7)); (case hf => rfl); (case hp => exact cM);  simp)
          | ((with_reducible apply o_callp (n := 8)); (case hf => rfl); (case hp => exact cA);  (simp [res3, Ar.av]))
          | ((with_reducible apply d_callp (n := 10)); (case hf => rfl); (case hp => exact cP); (try (case hr => exact d_stop));  simp)
          | ((with_reducible apply d_callp (n := 9)); (case hf => rfl); (case hp => exact cR); (try (case hr => exact d_stop));  (simp [res2, Ar.av]))
          | (with_reducible refine And.intro (by omega) ?_)
          | (with_reducible refine fun (ze : Nat) => ?_)
          | ((with_reducible apply o_call); (case hf => rfl))
          | ((with_reducible apply o_callc); (case hf => rfl))
          | fail)
    all_goals simp
  · have cN := c_arena_Live b
    rcases hr with ⟨rfl, hr⟩ | rfl
    all_goals unfold Ar.av at *
    all_goals
      repeat' (first
          | ((with_reducible refine ap_id ?_); have zT := zS; (repeat (first | clear ze | revert ze)); exact zT.out)
          | ((with_reducible apply w_dseq); intro zS)
          | ((fail_if_success exact (Hd.mk trivial : Hd True)); (with_reducible refine Hd.mk ?_))
          | with_reducible refine w_seq fun K1 zn zx zr => ?_
          | with_reducible refine w_region fun K1 zq => ?_
          | with_reducible refine w_draw fun K1 zq => ?_
          | with_reducible refine w_block fun K1 yn yb yx yr => ?_
          | with_reducible refine w_skip ?_
          | with_reducible refine w_ret ?_
          | with_reducible refine w_exit ?_
          | ((with_reducible refine w_gh ?_); simp)
          | ((with_reducible refine zq _ _ ?_); clear zq)
          | ((with_reducible refine zn _ _ ?_); clear zn zx zr)
          | ((with_reducible refine zr _ _ ?_); clear zn zx zr)
          | ((with_reducible refine zx _ _ _ ?_); clear zn zx zr)
          | ((with_reducible refine yn _ _ ?_); clear yn yb yx yr)
          | ((with_reducible refine yb _ _ ?_); clear yn yb yx yr)
          | ((with_reducible refine yr _ _ ?_); clear yn yb yx yr)
          | ((with_reducible refine yx _ _ _ (by decide) ?_); clear yn yb yx yr)
          | ((with_reducible refine e_endn ?_); simp)
          | ((with_reducible refine e_endr ?_); simp)
          | with_reducible refine e_un ?_
          | with_reducible refine e_ux ?_
          | with_reducible refine e_ur ?_
          | ((with_reducible refine u_step ?_); (try simp))
          | ((with_reducible apply s_rangeF); (case hc => rfl); intro zel zrr)
          | ((with_reducible apply o_yld); (case hf => rfl))
          | ((with_reducible refine rf_go ?h1 ?h2 ?_); (case h1 => rfl); (case h2 => first | rfl | simp); simp [tputs])
          | ((with_reducible refine r_an ?h1 ?_); (case h1 => first | rfl | simp); simp)
          | ((with_reducible refine r_bn ?h1 ?_); (case h1 => first | rfl | simp); simp)
          | ((with_reducible refine r_bx ?h1 ?_); (case h1 => first | rfl | simp); simp)
          | ((with_reducible refine r_br ?h1 ?_); (case h1 => first | rfl | simp); simp)
          | ((with_reducible refine f_en ?h1 ?_); (case h1 => rfl); simp)
          | ((with_reducible refine f_ex ?h1 ?_); (case h1 => rfl); simp)
          | ((with_reducible refine f_er ?h1 ?_); (case h1 => rfl); simp)
          | with_reducible refine e_loopx ?_
          | with_reducible refine e_loopr ?_
          | ((with_reducible refine c_true ?hc ?_); (case hc => rfl))
          | ((with_reducible refine c_false ?hc ?_); (case hc => rfl))
          | rw [i64_in _ (by omega)]
          | ((with_reducible refine o_bin ?_); ((first | ((with_reducible apply o_lss); (case hx => rfl); (case hy => rfl); (case hk => rfl)) | ((with_reducible apply o_leq); (case hx => rfl); (case hy => rfl); (case hk => rfl)) | ((with_reducible apply o_gtr); (case hx => rfl); (case hy => rfl); (case hk => rfl)) | ((with_reducible apply o_geq); (case hx => rfl); (case hy => rfl); (case hk => rfl)) | ((with_reducible apply o_eql); (case hx => rfl); (case hy => rfl); (case hk => rfl)) | ((with_reducible apply o_neq); (case hx => rfl); (case hy => rfl); (case hk => rfl))) <;> (intro h; first | (exfalso; omega) | simp)))
          | ((with_reducible apply o_eqnil); (case hx => rfl); all_goals (try intro h); all_goals simp)
          | ((with_reducible refine o_op fun _ _ => ?_); simp)
          | ((with_reducible refine o_gt ?hg ?_); (case hg => rfl))
          | ((with_reducible apply o_gs); (case hg => rfl); (case hn => rfl); simp only [skipD, tdel, Nat.reduceEqDiff, reduceIte])
          | ((with_reducible refine o_cgt ?hg ?_); (case hg => rfl))
          | ((with_reducible apply o_cgs); (case hg => rfl); (case hn => rfl); simp only [skipD, tdel, Nat.reduceEqDiff, reduceIte])
          | with_reducible refine o_nil ?_
          | with_reducible exact d_stop
          | ((with_reducible refine d_done ?_); (try simp))
          | ((with_reducible refine d_bin ?_); ((first | ((with_reducible apply d_lss); (case hx => rfl); (case hy => rfl); (case hk => rfl)) | ((with_reducible apply d_leq); (case hx => rfl); (case hy => rfl); (case hk => rfl)) | ((with_reducible apply d_gtr); (case hx => rfl); (case hy => rfl); (case hk => rfl)) | ((with_reducible apply d_geq); (case hx => rfl); (case hy => rfl); (case hk => rfl)) | ((with_reducible apply d_eql); (case hx => rfl); (case hy => rfl); (case hk => rfl)) | ((with_reducible apply d_neq); (case hx => rfl); (case hy => rfl); (case hk => rfl))) <;> (intro h; first | (exfalso; omega) | simp)))
          | ((with_reducible refine d_fst ?_); simp [and_assoc])
          | ((with_reducible refine d_fst_gt ?hg ?_); (case hg => rfl))
          | ((with_reducible apply d_fst_gs); (case hg => rfl); (case hn => rfl); simp only [skipD, tdel, Nat.reduceEqDiff, reduceIte])
          | ((with_reducible refine d_main_gt ?hg ?_); (case hg => rfl))
          | ((with_reducible apply d_main_gs); (case hg => rfl); (case hn => rfl); all_goals (try simp only [skipD, tdel, Nat.reduceEqDiff, reduceIte]))
          | ((with_reducible refine d_call_gt ?hg ?_); (case hg => rfl))
          | ((with_reducible apply d_call_gs); (case hg => rfl); (case hn => rfl); all_goals (try simp only [skipD, tdel, Nat.reduceEqDiff, reduceIte]))
          | ((with_reducible refine d_main (fun ze => ?_) d_stop); simp)
          | ((with_reducible refine d_main (fun ze => ?_) ?_); simp)
          | ((with_reducible refine o_gh ?_); simp)
          | (with_reducible refine isR_mk ?_ (by simp))
          | ((with_reducible apply o_callp (n := 5)); (case hf => rfl); (case hp => exact hx);  simp)
          | ((with_reducible apply o_callp (n := 6)); (case hf => rfl); (case hp => exact c1);  (simp [res2l, Ar.av]))
          | ((with_reducible apply o_callp (n := 7)); (case hf => rfl); (case hp => exact cL);  simp)
          | ((with_reducible apply o_callp (n := 7)); (case hf => rfl); (case hp => exact cM);  simp)
          | ((with_reducible apply o_callp (n := 7)); (case hf => rfl); (case hp => exact cN);  simp)
          | ((with_reducible apply o_callp (n := 8)); (case hf => rfl); (case hp => exact cA);  (simp [res3, Ar.av]))
          | ((with_reducible apply d_callp (n := 10)); (case hf => rfl); (case hp => exact cP); (try (case hr => exact d_stop));  simp)
          | ((with_reducible apply d_callp (n := 9)); (case hf => rfl); (case hp => exact cR); (try (case hr => exact d_stop));  (simp [res2, Ar.av]))
          | (with_reducible refine And.intro (by omega) ?_)
          | (with_reducible refine fun (ze : Nat) => ?_)
          | ((with_reducible apply o_call); (case hf => rfl))
          | ((with_reducible apply o_callc); (case hf => rfl))
          | fail)
    all_goals simp
end Go.Proofs.RL
