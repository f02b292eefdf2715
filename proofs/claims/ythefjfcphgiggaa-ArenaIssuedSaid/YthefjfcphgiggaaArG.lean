/- Functions of the arena seat. Conditions: none. -/
import Derived.Test.YthefjfcphgiggaaArF
set_option linter.unusedVariables false
set_option linter.unusedSimpArgs false
namespace Go.Proofs.RL
structure LOp where
  k : Int
  n : Int
  a : Int
  b : Int
  deriving DecidableEq, Inhabited
def LOp.fv (o : LOp) : List FV := [.int .u8 o.k, .int .i64 o.n, .int .u8 o.a, .int .u8 o.b]
def stepR (a : Ar) (l : List Int) (o : LOp) : Ar × List Int × Bool :=
  if o.k.tmod 4 = 0 ∨ o.k.tmod 4 = 1 then
    (if (allocR a o.n).2.2 ≠ 0 then ((allocR a o.n).1, l, false) else ((allocR a o.n).1, l ++ [(allocR a o.n).2.1], true))
  else if o.k.tmod 4 = 2 then ((transR a (pick l o.n) (o.a.tmod 5) (o.b.tmod 5)).1, l, (transR a (pick l o.n) (o.a.tmod 5) (o.b.tmod 5)).2)
  else ((relR a (pick l o.n)).1, l, (relR a (pick l o.n)).2)
def resS (r : Ar × List Int × Bool) : AV := .tup [r.1.av, .fv (.sl none none (ints r.2.1)), .fv (.bool r.2.2)]
def ac_law05_step : AC := (.seq (.region [.op (some 3) none false (.box (.t 0)),
    .op (some 5) none false (.box (.t 2)),
    .op (some 6) none false (.alloc [(.sl (some true) (some 0) []), (.sl (some true) (some 0) []), (.int .i64 0)]),
    .op (some 7) none false (.mv (.c (.sl (some true) (some 0) []))),
    .op (some 8) none false (.mv (.c (.bool false))),
    .gh (.keep [1, 3, 5, 6])]) <|
  (.seq (.seq (.region [.op (some 16) none false (.fieldAddr 0 (.t 5)),
    .op (some 17) none false (.load false 1 (.t 16)),
    .op (some 18) none false (.bin .rem (.t 17) (.c (.int .u8 4))),
    .gh (.keep [1, 3, 5, 6, 18])]) <|
  (.block 0 <|
    (.seq (.seq (.region [.op (some 20) none false (.bin .eql (.t 18) (.c (.int .u8 0))),
      .op (some 19) none false (.mv (.t 20)),
      .gh (.keep [1, 3, 5, 6, 18, 19])]) <|
    (.cond (.t 19)
      .skip
      (.region [.op (some 21) none false (.bin .eql (.t 18) (.c (.int .u8 1))),
        .op (some 19) none false (.mv (.t 21)),
        .gh (.keep [1, 3, 5, 6, 18, 19])]))) <|
    (.cond (.t 19)
      (.seq (.region [.op (some 23) none false (.load true 3 (.t 3)),
        .op (some 24) none false (.fieldAddr 1 (.t 5)),
        .op (some 25) none false (.load false 1 (.t 24)),
        .call (some 26) none (.c (.func 30)) [(.t 23), (.t 25)],
        .op (some 22) none false (.mv (.t 26)),
        .op (some 27) none false (.extract (.t 22) 0),
        .op (some 28) none false (.extract (.t 22) 1),
        .op (some 29) none false (.extract (.t 22) 2),
        .op (some 9) none false (.alloc [(.sl (some true) (some 0) []), (.sl (some true) (some 0) []), (.int .i64 0)]),
        .op none none false (.store 3 (.t 9) (.t 27)),
        .op (some 10) none false (.mv (.t 28)),
        .op (some 11) none false (.mv (.t 29)),
        .gh (.keep [1, 6, 9, 10, 11])]) <|
      (.seq (.seq (.region [.op (some 30) none false (.mv (.t 11)),
        .op (some 31) none false (.bin .neq (.t 30) (.c (.int .i64 0))),
        .gh (.keep [1, 6, 9, 10, 31])]) <|
      (.cond (.t 31)
        (.seq (.region [.op (some 32) none false (.load true 3 (.t 9)),
          .op (some 33) none false (.mv (.t 1)),
          .op none none false (.store 3 (.t 6) (.t 32)),
          .op (some 7) none false (.mv (.t 33)),
          .op (some 8) none false (.mv (.c (.bool false))),
          .gh (.keep [6, 7, 8])]) <|
        .ret)
        .skip)) <|
      (.seq (drawC <|
        .fst (.op (some 34) none false (.load true 3 (.t 9))) <|
        .fst (.op (some 36) none false (.mv (.t 1))) <|
        .fst (.op (some 38) none false (.mv (.t 10))) <|
        .main [(.t 9)] (.op (some 35) none false (.buildSl 1 0 [(.int .i64 0)] []))
          (.main [(.t 9)] (.op (some 37) none false (.append 1 8 (.t 35) (.t 36)))
            (.main1 [(.t 9)] (.op (some 39) none false (.buildSl 1 1 [(.int .i64 0)] [(0, (.t 38))])) <|
            .main1 [(.t 9)] (.op (some 40) none false (.append 1 8 (.t 37) (.t 39))) <|
            .main1 [] (.op none none false (.store 3 (.t 6) (.t 34))) <|
            .fst (.op (some 7) none false (.mv (.t 40))) <|
            .fst (.op (some 8) none false (.mv (.c (.bool true)))) <|
            .done)
            (.main1 [(.t 9)] (.op (some 39) none false (.buildSl 1 1 [(.int .i64 0)] [(0, (.t 38))])) <|
            .main1 [(.t 9)] (.op (some 37) none false (.append 1 8 (.t 35) (.t 36))) <|
            .main1 [(.t 9)] (.op (some 40) none false (.append 1 8 (.t 37) (.t 39))) <|
            .main1 [] (.op none none false (.store 3 (.t 6) (.t 34))) <|
            .fst (.op (some 7) none false (.mv (.t 40))) <|
            .fst (.op (some 8) none false (.mv (.c (.bool true)))) <|
            .done))
          (.main1 [(.t 9)] (.op (some 39) none false (.buildSl 1 1 [(.int .i64 0)] [(0, (.t 38))])) <|
          .main1 [(.t 9)] (.op (some 35) none false (.buildSl 1 0 [(.int .i64 0)] [])) <|
          .main1 [(.t 9)] (.op (some 37) none false (.append 1 8 (.t 35) (.t 36))) <|
          .main1 [(.t 9)] (.op (some 40) none false (.append 1 8 (.t 37) (.t 39))) <|
          .main1 [] (.op none none false (.store 3 (.t 6) (.t 34))) <|
          .fst (.op (some 7) none false (.mv (.t 40))) <|
          .fst (.op (some 8) none false (.mv (.c (.bool true)))) <|
          .done)) <|
      (.gh (.keep [6, 7, 8]) (.gh (.frz 140) .ret)))))
      (.seq (.region [.op (some 42) none false (.bin .eql (.t 18) (.c (.int .u8 2))),
        .op (some 41) none false (.mv (.t 42)),
        .gh (.keep [1, 3, 5, 6, 41])]) <|
      (.cond (.t 41)
        (.seq (drawC <|
          .fst (.op (some 44) none false (.load true 3 (.t 3))) <|
          .fst (.op (some 45) none false (.mv (.t 1))) <|
          .fst (.op (some 46) none false (.fieldAddr 1 (.t 5))) <|
          .fst (.op (some 47) none false (.load false 1 (.t 46))) <|
          .fst (.op (some 49) none false (.fieldAddr 2 (.t 5))) <|
          .fst (.op (some 50) none false (.load false 1 (.t 49))) <|
          .fst (.op (some 51) none false (.conv .i64 (.t 50))) <|
          .fst (.op (some 52) none false (.bin .rem (.t 51) (.c (.int .i64 5)))) <|
          .fst (.op (some 53) none false (.fieldAddr 3 (.t 5))) <|
          .fst (.op (some 54) none false (.load false 1 (.t 53))) <|
          .fst (.op (some 55) none false (.conv .i64 (.t 54))) <|
          .fst (.op (some 56) none false (.bin .rem (.t 55) (.c (.int .i64 5)))) <|
          .main [(.t 53), (.t 49), (.t 3)] (.call (some 48) none (.c (.func 10)) [(.t 45), (.t 47)])
            (.main [] (.call (some 57) none (.c (.func 31)) [(.t 44), (.t 48), (.t 52), (.t 56)])
              (.fst (.op (some 43) none false (.mv (.t 57))) <|
              .fst (.op (some 58) none false (.extract (.t 43) 0)) <|
              .fst (.op (some 59) none false (.extract (.t 43) 1)) <|
              .main1 [(.t 53), (.t 49), (.t 46), (.t 3)] (.op (some 12) none false (.alloc [(.sl (some true) (some 0) []), (.sl (some true) (some 0) []), (.int .i64 0)])) <|
              .main1 [] (.op none none false (.store 3 (.t 12) (.t 58))) <|
              .fst (.op (some 13) none false (.mv (.t 59))) <|
              .done)
              (.main1 [(.t 53), (.t 49), (.t 46), (.t 3)] (.op (some 12) none false (.alloc [(.sl (some true) (some 0) []), (.sl (some true) (some 0) []), (.int .i64 0)])) <|
              .main1 [] (.call (some 57) none (.c (.func 31)) [(.t 44), (.t 48), (.t 52), (.t 56)]) <|
              .fst (.op (some 43) none false (.mv (.t 57))) <|
              .fst (.op (some 58) none false (.extract (.t 43) 0)) <|
              .fst (.op (some 59) none false (.extract (.t 43) 1)) <|
              .main1 [] (.op none none false (.store 3 (.t 12) (.t 58))) <|
              .fst (.op (some 13) none false (.mv (.t 59))) <|
              .done))
            (.main1 [(.t 53), (.t 49), (.t 46), (.t 3)] (.op (some 12) none false (.alloc [(.sl (some true) (some 0) []), (.sl (some true) (some 0) []), (.int .i64 0)])) <|
            .main1 [(.t 53), (.t 49), (.t 3)] (.call (some 48) none (.c (.func 10)) [(.t 45), (.t 47)]) <|
            .main1 [] (.call (some 57) none (.c (.func 31)) [(.t 44), (.t 48), (.t 52), (.t 56)]) <|
            .fst (.op (some 43) none false (.mv (.t 57))) <|
            .fst (.op (some 58) none false (.extract (.t 43) 0)) <|
            .fst (.op (some 59) none false (.extract (.t 43) 1)) <|
            .main1 [] (.op none none false (.store 3 (.t 12) (.t 58))) <|
            .fst (.op (some 13) none false (.mv (.t 59))) <|
            .done)) <|
        (.gh (.keep [1, 6, 12, 13]) (.seq (.region [.op (some 60) none false (.load true 3 (.t 12)),
          .op (some 61) none false (.mv (.t 1)),
          .op (some 62) none false (.mv (.t 13)),
          .op none none false (.store 3 (.t 6) (.t 60)),
          .op (some 7) none false (.mv (.t 61)),
          .op (some 8) none false (.mv (.t 62)),
          .gh (.keep [6, 7, 8])]) <|
        .ret)))
        .skip)))))) <|
  (.seq (drawC <|
    .fst (.op (some 64) none false (.load true 3 (.t 3))) <|
    .fst (.op (some 65) none false (.mv (.t 1))) <|
    .fst (.op (some 66) none false (.fieldAddr 1 (.t 5))) <|
    .fst (.op (some 67) none false (.load false 1 (.t 66))) <|
    .main [(.t 3)] (.call (some 68) none (.c (.func 10)) [(.t 65), (.t 67)])
      (.main [] (.call (some 69) none (.c (.func 32)) [(.t 64), (.t 68)])
        (.fst (.op (some 63) none false (.mv (.t 69))) <|
        .fst (.op (some 70) none false (.extract (.t 63) 0)) <|
        .fst (.op (some 71) none false (.extract (.t 63) 1)) <|
        .main1 [(.t 66), (.t 3)] (.op (some 14) none false (.alloc [(.sl (some true) (some 0) []), (.sl (some true) (some 0) []), (.int .i64 0)])) <|
        .main1 [] (.op none none false (.store 3 (.t 14) (.t 70))) <|
        .fst (.op (some 15) none false (.mv (.t 71))) <|
        .done)
        (.main1 [(.t 66), (.t 3)] (.op (some 14) none false (.alloc [(.sl (some true) (some 0) []), (.sl (some true) (some 0) []), (.int .i64 0)])) <|
        .main1 [] (.call (some 69) none (.c (.func 32)) [(.t 64), (.t 68)]) <|
        .fst (.op (some 63) none false (.mv (.t 69))) <|
        .fst (.op (some 70) none false (.extract (.t 63) 0)) <|
        .fst (.op (some 71) none false (.extract (.t 63) 1)) <|
        .main1 [] (.op none none false (.store 3 (.t 14) (.t 70))) <|
        .fst (.op (some 15) none false (.mv (.t 71))) <|
        .done))
      (.main1 [(.t 66), (.t 3)] (.op (some 14) none false (.alloc [(.sl (some true) (some 0) []), (.sl (some true) (some 0) []), (.int .i64 0)])) <|
      .main1 [(.t 3)] (.call (some 68) none (.c (.func 10)) [(.t 65), (.t 67)]) <|
      .main1 [] (.call (some 69) none (.c (.func 32)) [(.t 64), (.t 68)]) <|
      .fst (.op (some 63) none false (.mv (.t 69))) <|
      .fst (.op (some 70) none false (.extract (.t 63) 0)) <|
      .fst (.op (some 71) none false (.extract (.t 63) 1)) <|
      .main1 [] (.op none none false (.store 3 (.t 14) (.t 70))) <|
      .fst (.op (some 15) none false (.mv (.t 71))) <|
      .done)) <|
  (.gh (.keep [1, 6, 14, 15]) (.seq (.region [.op (some 72) none false (.load true 3 (.t 14)),
    .op (some 73) none false (.mv (.t 1)),
    .op (some 74) none false (.mv (.t 15)),
    .op none none false (.store 3 (.t 6) (.t 72)),
    .op (some 7) none false (.mv (.t 73)),
    .op (some 8) none false (.mv (.t 74)),
    .gh (.keep [6, 7, 8])]) <|
  .ret)))))
theorem tr_law05_step : trCode Try.prog Try.f16.ntmps (Try.f16.body.getD .skip) = some ac_law05_step.erase := by kernel_rfl
theorem fn_law05_step : Try.prog.funcs[16]? = some Try.f16 := by kernel_rfl
theorem bd_law05_step : Try.f16.body = some (Try.f16.body.getD .skip) := by kernel_rfl
theorem rs_law05_step : Try.f16.results.toList.mapM (trRes Try.prog) = some [.cell 6 true 3, .tmp 7, .tmp 8] := by kernel_rfl
theorem go_law05_step {Y : YT} {kb : Nat} {args : List AV} {ob : Ob} {K : AV → Ob → Prop} (ks : Option (List Nat)) (hl : args.length ≤ 75) (h : AP Try.prog Y kb ac_law05_step (endK [.cell 6 true 3, .tmp 7, .tmp 8] ks K) (mkTm 0 args) ob) : FnA Try.prog Y 16 args ob K :=
  FnA_of_awp hm fn_law05_step (by kernel_rfl) bd_law05_step tr_law05_step rs_law05_step ks hl h.out
set_option maxHeartbeats 4000000 in
theorem c_law05_step (a : Ar) (l : List Int) (o : LOp) (hok : ArOK a) (hl : l.length ≤ 200) (ho : 0 ≤ o.k ∧ o.k ≤ 255 ∧ 0 ≤ o.a ∧ o.a ≤ 255 ∧ 0 ≤ o.b ∧ o.b ≤ 255) : PureA Try.prog 16 [a.av, .fv (.sl none none (ints l)), .agg (o.fv.map .fv)] (resS (stepR a l o)) := by
  refine ⟨fun Y => ?_⟩
  refine go_law05_step (kb := 100) (some []) (by simp) ?_
  unfold ac_law05_step
  unfold LOp.fv Ar.av
  have hs := hok.hs
  have c0 := c_law05_Pick l o.n (by omega)
  have c1 := c_ref05_Alloc a o.n hok
  have c2 := c_ref05_Transition a (pick l o.n) (o.a.tmod 5) (o.b.tmod 5) hs
  have c3 := c_ref05_Release a (pick l o.n) hok
  unfold stepR
  generalize pick l o.n = p at *
  generalize allocR a o.n = r1 at *
  generalize transR a p (o.a.tmod 5) (o.b.tmod 5) = r2 at *
  generalize relR a p = r3 at *
  obtain ⟨b1, h1, e1⟩ := r1
  obtain ⟨b2, f2⟩ := r2
  obtain ⟨b3, f3⟩ := r3
  repeat' (first
      | ((with_reducible refine ap_id ?_); have zT := zS; (repeat (first | clear ze | revert ze)); exact zT.out)
      | ((with_reducible apply w_dseq); intro zS)
      | ((fail_if_success exact (Hd.mk trivial : Hd True)); (with_reducible refine Hd.mk ?_))
      | with_reducible refine w_seq fun K1 zn zx zr => ?_
      | with_reducible refine w_region fun K1 zq => ?_
      | with_reducible refine w_draw fun K1 zq => ?_
      | with_reducible refine w_block fun K1 yn yb yx yr => ?_
      | with_reducible refine w_skip ?_
      | with_reducible refine w_ret ?_
      | with_reducible refine w_exit ?_
      | ((with_reducible refine w_gh ?_); simp)
      | ((with_reducible refine zq _ _ ?_); clear zq)
      | ((with_reducible refine zn _ _ ?_); clear zn zx zr)
      | ((with_reducible refine zr _ _ ?_); clear zn zx zr)
      | ((with_reducible refine zx _ _ _ ?_); clear zn zx zr)
      | ((with_reducible refine yn _ _ ?_); clear yn yb yx yr)
      | ((with_reducible refine yb _ _ ?_); clear yn yb yx yr)
      | ((with_reducible refine yr _ _ ?_); clear yn yb yx yr)
      | ((with_reducible refine yx _ _ _ (by decide) ?_); clear yn yb yx yr)
      | ((with_reducible refine e_endn ?_); simp)
      | ((with_reducible refine e_endr ?_); simp)
      | with_reducible refine e_un ?_
      | with_reducible refine e_ux ?_
      | with_reducible refine e_ur ?_
      | ((with_reducible refine u_step ?_); (try simp))
      | ((with_reducible apply s_rangeF); (case hc => rfl); intro zel zrr)
      | ((with_reducible apply o_yld); (case hf => rfl))
      | ((with_reducible refine rf_go ?h1 ?h2 ?_); (case h1 => rfl); (case h2 => first | rfl | simp); simp [tputs])
      | ((with_reducible refine r_an ?h1 ?_); (case h1 => first | rfl | simp); simp)
      | ((with_reducible refine r_bn ?h1 ?_); (case h1 => first | rfl | simp); simp)
      | ((with_reducible refine r_bx ?h1 ?_); (case h1 => first | rfl | simp); simp)
      | ((with_reducible refine r_br ?h1 ?_); (case h1 => first | rfl | simp); simp)
      | ((with_reducible refine f_en ?h1 ?_); (case h1 => rfl); simp)
      | ((with_reducible refine f_ex ?h1 ?_); (case h1 => rfl); simp)
      | ((with_reducible refine f_er ?h1 ?_); (case h1 => rfl); simp)
      | with_reducible refine e_loopx ?_
      | with_reducible refine e_loopr ?_
      | ((with_reducible refine c_true ?hc ?_); (case hc => rfl))
      | ((with_reducible refine c_false ?hc ?_); (case hc => rfl))
      | (rw [sls_get _ _ (by omega)]; simp [Sl.fv])
      | (rw [ints_get _ _ (by omega)]; simp)
      | rw [i64_in _ (by omega)]
      | ((with_reducible refine o_bin ?_); ((first | ((with_reducible apply o_lss); (case hx => rfl); (case hy => rfl); (case hk => rfl)) | ((with_reducible apply o_leq); (case hx => rfl); (case hy => rfl); (case hk => rfl)) | ((with_reducible apply o_gtr); (case hx => rfl); (case hy => rfl); (case hk => rfl)) | ((with_reducible apply o_geq); (case hx => rfl); (case hy => rfl); (case hk => rfl)) | ((with_reducible apply o_eql); (case hx => rfl); (case hy => rfl); (case hk => rfl)) | ((with_reducible apply o_neq); (case hx => rfl); (case hy => rfl); (case hk => rfl))) <;> (intro h; first | (exfalso; omega) | simp)))
      | ((with_reducible apply o_eqnil); (case hx => rfl); all_goals (try intro h); all_goals simp)
      | ((with_reducible refine o_op fun _ _ => ?_); simp)
      | ((with_reducible refine o_gt ?hg ?_); (case hg => rfl))
      | ((with_reducible apply o_gs); (case hg => rfl); (case hn => rfl); simp only [skipD, tdel, Nat.reduceEqDiff, reduceIte])
      | ((with_reducible refine o_cgt ?hg ?_); (case hg => rfl))
      | ((with_reducible apply o_cgs); (case hg => rfl); (case hn => rfl); simp only [skipD, tdel, Nat.reduceEqDiff, reduceIte])
      | with_reducible refine o_nil ?_
      | with_reducible exact d_stop
      | ((with_reducible refine d_done ?_); (try simp))
      | ((with_reducible refine d_bin ?_); ((first | ((with_reducible apply d_lss); (case hx => rfl); (case hy => rfl); (case hk => rfl)) | ((with_reducible apply d_leq); (case hx => rfl); (case hy => rfl); (case hk => rfl)) | ((with_reducible apply d_gtr); (case hx => rfl); (case hy => rfl); (case hk => rfl)) | ((with_reducible apply d_geq); (case hx => rfl); (case hy => rfl); (case hk => rfl)) | ((with_reducible apply d_eql); (case hx => rfl); (case hy => rfl); (case hk => rfl)) | ((with_reducible apply d_neq); (case hx => rfl); (case hy => rfl); (case hk => rfl))) <;> (intro h; first | (exfalso; omega) | simp)))
      | ((with_reducible refine d_fst ?_); simp [and_assoc])
      | ((with_reducible refine d_fst_gt ?hg ?_); (case hg => rfl))
      | ((with_reducible apply d_fst_gs); (case hg => rfl); (case hn => rfl); simp only [skipD, tdel, Nat.reduceEqDiff, reduceIte])
      | ((with_reducible refine d_main_gt ?hg ?_); (case hg => rfl))
      | ((with_reducible apply d_main_gs); (case hg => rfl); (case hn => rfl); all_goals (try simp only [skipD, tdel, Nat.reduceEqDiff, reduceIte]))
      | ((with_reducible refine d_call_gt ?hg ?_); (case hg => rfl))
      | ((with_reducible apply d_call_gs); (case hg => rfl); (case hn => rfl); all_goals (try simp only [skipD, tdel, Nat.reduceEqDiff, reduceIte]))
      | ((with_reducible refine d_main (fun ze => ?_) d_stop); simp)
      | ((with_reducible refine d_main (fun ze => ?_) ?_); simp)
      | ((with_reducible refine o_gh ?_); simp)
      | (with_reducible refine isR_mk ?_ (by simp))
      | ((with_reducible apply o_callp (n := 30)); (case hf => rfl); (case hp => exact c1);  (simp [res3, Ar.av]))
      | ((with_reducible apply d_callp (n := 10)); (case hf => rfl); (case hp => exact c0); (try (case hr => exact d_stop));  simp)
      | ((with_reducible apply d_callp (n := 31)); (case hf => rfl); (case hp => exact c2); (try (case hr => exact d_stop));  (simp [res2, Ar.av]))
      | ((with_reducible apply d_callp (n := 32)); (case hf => rfl); (case hp => exact c3); (try (case hr => exact d_stop));  (simp [res2, Ar.av]))
      | (with_reducible refine And.intro (by omega) ?_)
      | (refine And.intro (ints_hd _) ?_)
      | (refine And.intro (sls_hd _) ?_)
      | (with_reducible refine fun (ze : Nat) => ?_)
      | ((with_reducible apply o_call); (case hf => rfl))
      | ((with_reducible apply o_callc); (case hf => rfl))
      | fail)
  all_goals (simp_all [resS, Ar.av, ints_app]; try rfl)
end Go.Proofs.RL
