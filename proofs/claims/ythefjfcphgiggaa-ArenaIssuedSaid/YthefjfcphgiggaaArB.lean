/- Functions of the arena seat, second part. Conditions: none. -/
import Derived.Test.YthefjfcphgiggaaChecked
import Derived.Test.YthefjfcphgiggaaRlX
import Derived.Test.YthefjfcphgiggaaArA
set_option linter.unusedVariables false
set_option linter.unusedSimpArgs false
namespace Go.Proofs.RL
structure Sl where
  g : Int
  st : Int
  t : Int
  q : Int
  deriving DecidableEq, Inhabited
def Sl.fv (s : Sl) : List FV := [.int .i64 s.g, .int .i64 s.st, .int .i64 s.t, .int .i64 s.q]
def ints (l : List Int) : List (List FV) := l.map fun i => [.int .i64 i]
structure Ar where
  sl : List Sl
  idle : List Int
  next : Int
  deriving DecidableEq, Inhabited
def sls (l : List Sl) : List (List FV) := l.map Sl.fv
def Ar.av (a : Ar) : AV := .agg [.fv (.sl none none (sls a.sl)), .fv (.sl none none (ints a.idle)), .fv (.int .i64 a.next)]
def live (l : List Sl) : Nat := l.countP (·.st ≠ 0)

@[simp] theorem ints_length (l : List Int) : (ints l).length = l.length := by simp [ints]
@[simp] theorem sls_length (l : List Sl) : (sls l).length = l.length := by simp [sls]
@[simp] theorem ints_wk (l : List Int) : (ints l).map (·.map FV.wk) = ints l := by simp [ints]
@[simp] theorem sls_wk (l : List Sl) : (sls l).map (·.map FV.wk) = sls l := by simp [sls, Sl.fv]
theorem sls_getD (l : List Sl) (i : Nat) (h : i < l.length) : (sls l).getD i [] = (l.getD i default).fv := by
  simp [sls, List.getD_eq_getElem?_getD, List.getElem?_eq_getElem h]
theorem sls_hd (l : List Sl) : ∀ (x : List FV), (sls l).head? = some x → x.length = 4 := by
  intro x hx
  cases l with
  | nil => simp [sls] at hx
  | cons s r => simp [sls] at hx; subst hx; rfl
theorem ints_hd (l : List Int) : ∀ (x : List FV), (ints l).head? = some x → x.length = 1 := by
  intro x hx
  cases l with
  | nil => simp [ints] at hx
  | cons s r => simp [ints] at hx; subst hx; rfl
theorem sls_set (l : List Sl) (i : Nat) (s : Sl) : sls (l.set i s) = (sls l).set i s.fv := by simp [sls, List.map_set]
theorem sls_some (l : List Sl) (i : Nat) (h : i < l.length) : (sls l)[i]? = some (l[i]?.getD default).fv := by simp [sls, List.getElem?_eq_getElem h]
theorem ints_some (l : List Int) (i : Nat) (h : i < l.length) : (ints l)[i]? = some [.int .i64 (l[i]?.getD 0)] := by simp [ints, List.getElem?_eq_getElem h]
theorem tk {α : Type} (l : List α) (n : Nat) (h : l.length = n) : l.take n = l := by subst h; simp
theorem ints_app (l r : List Int) : ints (l ++ r) = ints l ++ ints r := by simp [ints]
theorem sls_get (l : List Sl) (i : Nat) (h : i < l.length) : (sls l)[i]?.getD [] = (l[i]?.getD default).fv := by
  simp [sls, List.getElem?_eq_getElem h]
theorem ints_get (l : List Int) (i : Nat) (h : i < l.length) : (ints l)[i]?.getD [] = [.int .i64 (l[i]?.getD 0)] := by
  simp [ints, List.getElem?_eq_getElem h]
theorem live_take (l : List Sl) (i : Nat) (h : i < l.length) : (live (l.take (i + 1)) : Int) = live (l.take i) + if (l[i]?.getD default).st ≠ 0 then 1 else 0 := by
  unfold live
  rw [List.take_add_one, List.countP_append]
  simp [List.getElem?_eq_getElem h]
  split <;> simp_all
theorem ints_getD (l : List Int) (i : Nat) (h : i < l.length) : (ints l).getD i [] = [.int .i64 (l.getD i 0)] := by
  simp [ints, List.getD_eq_getElem?_getD, List.getElem?_eq_getElem h]


def pick (l : List Int) (n : Int) : Int := if l.length = 0 ∨ n.tmod 5 = 4 then n else l[(max (n.tmod l.length) (- n.tmod l.length)).toNat]?.getD 0

def ac_law05_Pick : AC := (.seq (.region [.op (some 4) none false (.mv (.c (.int .i64 0)))]) <|
  (.seq (.seq (.region [.op (some 6) none false (.mv (.t 0)),
    .op (some 7) none false (.len false (.t 6)),
    .op (some 8) none false (.bin .eql (.t 7) (.c (.int .i64 0))),
    .op (some 9) none false (.mv (.t 8)),
    .op (some 10) (some (9, false)) false (.mv (.t 1)),
    .op (some 11) (some (9, false)) false (.bin .rem (.t 10) (.c (.int .i64 5))),
    .op (some 12) (some (9, false)) false (.bin .eql (.t 11) (.c (.int .i64 4))),
    .op (some 13) none false (.pick (.t 9) (.c (.bool true)) (.t 12)),
    .gh (.keep [0, 1, 13])]) <|
  (.cond (.t 13)
    (.seq (.region [.op (some 14) none false (.mv (.t 1)),
      .op (some 4) none false (.mv (.t 14)),
      .gh (.keep [4])]) <|
    .ret)
    .skip)) <|
  (.seq (.region [.op (some 15) none false (.mv (.t 1)),
    .op (some 16) none false (.mv (.t 0)),
    .op (some 17) none false (.len false (.t 16)),
    .op (some 18) none false (.bin .rem (.t 15) (.t 17)),
    .op (some 5) none false (.mv (.t 18)),
    .gh (.keep [0, 5])]) <|
  (.seq (.region [.op (some 19) none false (.mv (.t 0)),
    .op (some 20) none false (.mv (.t 5)),
    .op (some 21) none false (.mv (.t 5)),
    .op (some 22) none false (.neg (.t 21)),
    .op (some 23) none false (.minmax true (.t 20) (.t 22)),
    .op (some 24) none false (.idxA 1 (.t 19) (.t 23)),
    .op (some 25) none false (.load false 1 (.t 24)),
    .op (some 4) none false (.mv (.t 25)),
    .gh (.keep [4])]) <|
  .ret))))
theorem tr_law05_Pick : trCode Try.prog Try.f10.ntmps (Try.f10.body.getD .skip) = some ac_law05_Pick.erase := by kernel_rfl
theorem fn_law05_Pick : Try.prog.funcs[10]? = some Try.f10 := by kernel_rfl
theorem bd_law05_Pick : Try.f10.body = some (Try.f10.body.getD .skip) := by kernel_rfl
theorem rs_law05_Pick : Try.f10.results.toList.mapM (trRes Try.prog) = some [.tmp 4] := by kernel_rfl
theorem go_law05_Pick {Y : YT} {kb : Nat} {args : List AV} {ob : Ob} {K : AV → Ob → Prop} (ks : Option (List Nat)) (hl : args.length ≤ 26) (h : AP Try.prog Y kb ac_law05_Pick (endK [.tmp 4] ks K) (mkTm 0 args) ob) : FnA Try.prog Y 10 args ob K :=
  FnA_of_awp hm fn_law05_Pick (by kernel_rfl) bd_law05_Pick tr_law05_Pick rs_law05_Pick ks hl h.out
theorem c_law05_Pick (l : List Int) (n : Int) (hl : l.length ≤ 281474976710656) : PureA Try.prog 10 [.fv (.sl none none (ints l)), .fv (.int .i64 n)] (.fv (.int .i64 (pick l n))) := by
  refine ⟨fun Y => ?_⟩
  refine go_law05_Pick (kb := 100) (some []) (by simp) ?_
  unfold ac_law05_Pick
  have hk : ∀ h : l.length ≠ 0, -(l.length : Int) < n.tmod l.length ∧ n.tmod l.length < l.length := fun h => by
    exact ⟨Int.lt_tmod_of_pos n (by omega), Int.tmod_lt_of_pos n (by omega)⟩
  repeat' (first
      | ((with_reducible refine ap_id ?_); have zT := zS; (repeat (first | clear ze | revert ze)); exact zT.out)
      | ((with_reducible apply w_dseq); intro zS)
      | ((fail_if_success exact (Hd.mk trivial : Hd True)); (with_reducible refine Hd.mk ?_))
      | with_reducible refine w_seq fun K1 zn zx zr => ?_
      | with_reducible refine w_region fun K1 zq => ?_
      | with_reducible refine w_draw fun K1 zq => ?_
      | with_reducible refine w_block fun K1 yn yb yx yr => ?_
      | with_reducible refine w_skip ?_
      | with_reducible refine w_ret ?_
      | with_reducible refine w_exit ?_
      | ((with_reducible refine w_gh ?_); simp)
      | ((with_reducible refine zq _ _ ?_); clear zq)
      | ((with_reducible refine zn _ _ ?_); clear zn zx zr)
      | ((with_reducible refine zr _ _ ?_); clear zn zx zr)
      | ((with_reducible refine zx _ _ _ ?_); clear zn zx zr)
      | ((with_reducible refine yn _ _ ?_); clear yn yb yx yr)
      | ((with_reducible refine yb _ _ ?_); clear yn yb yx yr)
      | ((with_reducible refine yr _ _ ?_); clear yn yb yx yr)
      | ((with_reducible refine yx _ _ _ (by decide) ?_); clear yn yb yx yr)
      | ((with_reducible refine e_endn ?_); simp)
      | ((with_reducible refine e_endr ?_); simp)
      | with_reducible refine e_un ?_
      | with_reducible refine e_ux ?_
      | with_reducible refine e_ur ?_
      | ((with_reducible refine u_step ?_); (try simp))
      | ((with_reducible apply s_rangeF); (case hc => rfl); intro zel zrr)
      | ((with_reducible apply o_yld); (case hf => rfl))
      | ((with_reducible refine rf_go ?h1 ?h2 ?_); (case h1 => rfl); (case h2 => first | rfl | simp); simp [tputs])
      | ((with_reducible refine r_an ?h1 ?_); (case h1 => first | rfl | simp); simp)
      | ((with_reducible refine r_bn ?h1 ?_); (case h1 => first | rfl | simp); simp)
      | ((with_reducible refine r_bx ?h1 ?_); (case h1 => first | rfl | simp); simp)
      | ((with_reducible refine r_br ?h1 ?_); (case h1 => first | rfl | simp); simp)
      | ((with_reducible refine f_en ?h1 ?_); (case h1 => rfl); simp)
      | ((with_reducible refine f_ex ?h1 ?_); (case h1 => rfl); simp)
      | ((with_reducible refine f_er ?h1 ?_); (case h1 => rfl); simp)
      | with_reducible refine e_loopx ?_
      | with_reducible refine e_loopr ?_
      | ((with_reducible refine c_true ?hc ?_); (case hc => rfl))
      | ((with_reducible refine c_false ?hc ?_); (case hc => rfl))
      | (rw [ints_get _ _ (by have := hk (by omega); omega)]; simp)
      | rw [i64_in _ (by omega)]
      | ((with_reducible refine o_bin ?_); ((first | ((with_reducible apply o_lss); (case hx => rfl); (case hy => rfl); (case hk => rfl)) | ((with_reducible apply o_leq); (case hx => rfl); (case hy => rfl); (case hk => rfl)) | ((with_reducible apply o_gtr); (case hx => rfl); (case hy => rfl); (case hk => rfl)) | ((with_reducible apply o_geq); (case hx => rfl); (case hy => rfl); (case hk => rfl)) | ((with_reducible apply o_eql); (case hx => rfl); (case hy => rfl); (case hk => rfl)) | ((with_reducible apply o_neq); (case hx => rfl); (case hy => rfl); (case hk => rfl))) <;> (intro h; first | (exfalso; omega) | simp)))
      | ((with_reducible apply o_eqnil); (case hx => rfl); all_goals (try intro h); all_goals simp)
      | ((with_reducible refine o_op fun _ _ => ?_); simp)
      | ((with_reducible refine o_gt ?hg ?_); (case hg => rfl))
      | ((with_reducible apply o_gs); (case hg => rfl); (case hn => rfl); simp only [skipD, tdel, Nat.reduceEqDiff, reduceIte])
      | ((with_reducible refine o_cgt ?hg ?_); (case hg => rfl))
      | ((with_reducible apply o_cgs); (case hg => rfl); (case hn => rfl); simp only [skipD, tdel, Nat.reduceEqDiff, reduceIte])
      | with_reducible refine o_nil ?_
      | with_reducible exact d_stop
      | ((with_reducible refine d_done ?_); (try simp))
      | ((with_reducible refine d_bin ?_); ((first | ((with_reducible apply d_lss); (case hx => rfl); (case hy => rfl); (case hk => rfl)) | ((with_reducible apply d_leq); (case hx => rfl); (case hy => rfl); (case hk => rfl)) | ((with_reducible apply d_gtr); (case hx => rfl); (case hy => rfl); (case hk => rfl)) | ((with_reducible apply d_geq); (case hx => rfl); (case hy => rfl); (case hk => rfl)) | ((with_reducible apply d_eql); (case hx => rfl); (case hy => rfl); (case hk => rfl)) | ((with_reducible apply d_neq); (case hx => rfl); (case hy => rfl); (case hk => rfl))) <;> (intro h; first | (exfalso; omega) | simp)))
      | ((with_reducible refine d_fst ?_); simp [and_assoc])
      | ((with_reducible refine d_fst_gt ?hg ?_); (case hg => rfl))
      | ((with_reducible apply d_fst_gs); (case hg => rfl); (case hn => rfl); simp only [skipD, tdel, Nat.reduceEqDiff, reduceIte])
      | ((with_reducible refine d_main_gt ?hg ?_); (case hg => rfl))
      | ((with_reducible apply d_main_gs); (case hg => rfl); (case hn => rfl); all_goals (try simp only [skipD, tdel, Nat.reduceEqDiff, reduceIte]))
      | ((with_reducible refine d_call_gt ?hg ?_); (case hg => rfl))
      | ((with_reducible apply d_call_gs); (case hg => rfl); (case hn => rfl); all_goals (try simp only [skipD, tdel, Nat.reduceEqDiff, reduceIte]))
      | ((with_reducible refine d_main (fun ze => ?_) d_stop); simp)
      | ((with_reducible refine d_main (fun ze => ?_) ?_); simp)
      | ((with_reducible refine o_gh ?_); simp)
      | (with_reducible refine isR_mk ?_ (by simp))
      | (refine And.intro (by intro hh; subst hh; simp at *) ?_)
      | (with_reducible refine And.intro (by omega) ?_)
      | (with_reducible refine fun (ze : Nat) => ?_)
      | ((with_reducible apply o_call); (case hf => rfl))
      | ((with_reducible apply o_callc); (case hf => rfl))
      | fail)
  · unfold pick; rw [if_pos (.inl (by omega))]; rfl
  · unfold pick; rw [if_pos (.inr h)]; rfl
  · unfold pick; rw [if_neg (by omega)]; rfl

def ac_ref05_with : AC := (.seq (.region [.op (some 3) none false (.box (.t 0)),
    .op (some 5) none false (.box (.t 2)),
    .op (some 6) none false (.alloc [(.sl (some true) (some 0) []), (.sl (some true) (some 0) []), (.int .i64 0)]),
    .gh (.keep [1, 3, 5, 6])]) <|
  (.seq (.region [.op (some 8) none false (.buildSl 4 0 [(.int .i64 0), (.int .i64 0), (.int .i64 0), (.int .i64 0)] []),
    .op (some 9) none false (.fieldAddr 0 (.t 3)),
    .op (some 10) none false (.load false 1 (.t 9)),
    .op (some 11) none false (.append 4 32 (.t 8) (.t 10)),
    .op (some 7) none false (.mv (.t 11)),
    .gh (.keep [1, 3, 5, 6, 7])]) <|
  (.seq (.region [.op (some 12) none false (.mv (.t 7)),
    .op (some 13) none false (.mv (.t 1)),
    .op (some 14) none false (.load true 4 (.t 5)),
    .op (some 15) none false (.idxA 4 (.t 12) (.t 13)),
    .op none none false (.store 4 (.t 15) (.t 14)), .gh (.frz 111),
    .gh (.keep [3, 6, 7])]) <|
  (.seq (.region [.op (some 16) none false (.mv (.t 7)),
    .op (some 17) none false (.fieldAddr 0 (.t 3)),
    .op none none false (.store 1 (.t 17) (.t 16)),
    .gh (.keep [3, 6])]) <|
  (.seq (.region [.op (some 18) none false (.load true 3 (.t 3)),
    .op none none false (.store 3 (.t 6) (.t 18)),
    .gh (.keep [6])]) <|
  .ret)))))
theorem tr_ref05_with : trCode Try.prog Try.f39.ntmps (Try.f39.body.getD .skip) = some ac_ref05_with.erase := by kernel_rfl
theorem fn_ref05_with : Try.prog.funcs[39]? = some Try.f39 := by kernel_rfl
theorem bd_ref05_with : Try.f39.body = some (Try.f39.body.getD .skip) := by kernel_rfl
theorem rs_ref05_with : Try.f39.results.toList.mapM (trRes Try.prog) = some [.cell 6 true 3] := by kernel_rfl
theorem go_ref05_with {Y : YT} {kb : Nat} {args : List AV} {ob : Ob} {K : AV → Ob → Prop} (ks : Option (List Nat)) (hl : args.length ≤ 19) (h : AP Try.prog Y kb ac_ref05_with (endK [.cell 6 true 3] ks K) (mkTm 0 args) ob) : FnA Try.prog Y 39 args ob K :=
  FnA_of_awp hm fn_ref05_with (by kernel_rfl) bd_ref05_with tr_ref05_with rs_ref05_with ks hl h.out
set_option maxHeartbeats 4000000 in
theorem c_ref05_with (a : Ar) (i : Nat) (s : Sl) (hi : i < a.sl.length) (hn : a.sl.length ≤ 64) : PureA Try.prog 39 [a.av, .fv (.int .i64 i), .agg (s.fv.map .fv)] (Ar.av { a with sl := a.sl.set i s }) := by
  refine ⟨fun Y => ?_⟩
  refine go_ref05_with (kb := 100) (some []) (by simp) ?_
  unfold ac_ref05_with
  unfold Ar.av Sl.fv
  repeat' (first
      | ((with_reducible refine ap_id ?_); have zT := zS; (repeat (first | clear ze | revert ze)); exact zT.out)
      | ((with_reducible apply w_dseq); intro zS)
      | ((fail_if_success exact (Hd.mk trivial : Hd True)); (with_reducible refine Hd.mk ?_))
      | with_reducible refine w_seq fun K1 zn zx zr => ?_
      | with_reducible refine w_region fun K1 zq => ?_
      | with_reducible refine w_draw fun K1 zq => ?_
      | with_reducible refine w_block fun K1 yn yb yx yr => ?_
      | with_reducible refine w_skip ?_
      | with_reducible refine w_ret ?_
      | with_reducible refine w_exit ?_
      | ((with_reducible refine w_gh ?_); simp)
      | ((with_reducible refine zq _ _ ?_); clear zq)
      | ((with_reducible refine zn _ _ ?_); clear zn zx zr)
      | ((with_reducible refine zr _ _ ?_); clear zn zx zr)
      | ((with_reducible refine zx _ _ _ ?_); clear zn zx zr)
      | ((with_reducible refine yn _ _ ?_); clear yn yb yx yr)
      | ((with_reducible refine yb _ _ ?_); clear yn yb yx yr)
      | ((with_reducible refine yr _ _ ?_); clear yn yb yx yr)
      | ((with_reducible refine yx _ _ _ (by decide) ?_); clear yn yb yx yr)
      | ((with_reducible refine e_endn ?_); simp)
      | ((with_reducible refine e_endr ?_); simp)
      | with_reducible refine e_un ?_
      | with_reducible refine e_ux ?_
      | with_reducible refine e_ur ?_
      | ((with_reducible refine u_step ?_); (try simp))
      | ((with_reducible apply s_rangeF); (case hc => rfl); intro zel zrr)
      | ((with_reducible apply o_yld); (case hf => rfl))
      | ((with_reducible refine rf_go ?h1 ?h2 ?_); (case h1 => rfl); (case h2 => first | rfl | simp); simp [tputs])
      | ((with_reducible refine r_an ?h1 ?_); (case h1 => first | rfl | simp); simp)
      | ((with_reducible refine r_bn ?h1 ?_); (case h1 => first | rfl | simp); simp)
      | ((with_reducible refine r_bx ?h1 ?_); (case h1 => first | rfl | simp); simp)
      | ((with_reducible refine r_br ?h1 ?_); (case h1 => first | rfl | simp); simp)
      | ((with_reducible refine f_en ?h1 ?_); (case h1 => rfl); simp)
      | ((with_reducible refine f_ex ?h1 ?_); (case h1 => rfl); simp)
      | ((with_reducible refine f_er ?h1 ?_); (case h1 => rfl); simp)
      | with_reducible refine e_loopx ?_
      | with_reducible refine e_loopr ?_
      | ((with_reducible refine c_true ?hc ?_); (case hc => rfl))
      | ((with_reducible refine c_false ?hc ?_); (case hc => rfl))
      | (rw [sls_some _ _ (by omega)]; simp [Sl.fv])
      | (rw [row4, frz_map]; simp)
      | (rw [tk _ _ (by simp)])
      | rw [i64_in _ (by omega)]
      | ((with_reducible refine o_bin ?_); ((first | ((with_reducible apply o_lss); (case hx => rfl); (case hy => rfl); (case hk => rfl)) | ((with_reducible apply o_leq); (case hx => rfl); (case hy => rfl); (case hk => rfl)) | ((with_reducible apply o_gtr); (case hx => rfl); (case hy => rfl); (case hk => rfl)) | ((with_reducible apply o_geq); (case hx => rfl); (case hy => rfl); (case hk => rfl)) | ((with_reducible apply o_eql); (case hx => rfl); (case hy => rfl); (case hk => rfl)) | ((with_reducible apply o_neq); (case hx => rfl); (case hy => rfl); (case hk => rfl))) <;> (intro h; first | (exfalso; omega) | simp)))
      | ((with_reducible apply o_eqnil); (case hx => rfl); all_goals (try intro h); all_goals simp)
      | ((with_reducible refine o_op fun _ _ => ?_); simp)
      | ((with_reducible refine o_gt ?hg ?_); (case hg => rfl))
      | ((with_reducible apply o_gs); (case hg => rfl); (case hn => rfl); simp only [skipD, tdel, Nat.reduceEqDiff, reduceIte])
      | ((with_reducible refine o_cgt ?hg ?_); (case hg => rfl))
      | ((with_reducible apply o_cgs); (case hg => rfl); (case hn => rfl); simp only [skipD, tdel, Nat.reduceEqDiff, reduceIte])
      | with_reducible refine o_nil ?_
      | with_reducible exact d_stop
      | ((with_reducible refine d_done ?_); (try simp))
      | ((with_reducible refine d_bin ?_); ((first | ((with_reducible apply d_lss); (case hx => rfl); (case hy => rfl); (case hk => rfl)) | ((with_reducible apply d_leq); (case hx => rfl); (case hy => rfl); (case hk => rfl)) | ((with_reducible apply d_gtr); (case hx => rfl); (case hy => rfl); (case hk => rfl)) | ((with_reducible apply d_geq); (case hx => rfl); (case hy => rfl); (case hk => rfl)) | ((with_reducible apply d_eql); (case hx => rfl); (case hy => rfl); (case hk => rfl)) | ((with_reducible apply d_neq); (case hx => rfl); (case hy => rfl); (case hk => rfl))) <;> (intro h; first | (exfalso; omega) | simp)))
      | ((with_reducible refine d_fst ?_); simp [and_assoc])
      | ((with_reducible refine d_fst_gt ?hg ?_); (case hg => rfl))
      | ((with_reducible apply d_fst_gs); (case hg => rfl); (case hn => rfl); simp only [skipD, tdel, Nat.reduceEqDiff, reduceIte])
      | ((with_reducible refine d_main_gt ?hg ?_); (case hg => rfl))
      | ((with_reducible apply d_main_gs); (case hg => rfl); (case hn => rfl); all_goals (try simp only [skipD, tdel, Nat.reduceEqDiff, reduceIte]))
      | ((with_reducible refine d_call_gt ?hg ?_); (case hg => rfl))
      | ((with_reducible apply d_call_gs); (case hg => rfl); (case hn => rfl); all_goals (try simp only [skipD, tdel, Nat.reduceEqDiff, reduceIte]))
      | ((with_reducible refine d_main (fun ze => ?_) d_stop); simp)
      | ((with_reducible refine d_main (fun ze => ?_) ?_); simp)
      | ((with_reducible refine o_gh ?_); simp)
      | (with_reducible refine isR_mk ?_ (by simp))
      | (refine And.intro (sls_hd _) ?_)
      | (with_reducible refine And.intro (by omega) ?_)
      | (with_reducible refine fun (ze : Nat) => ?_)
      | ((with_reducible apply o_call); (case hf => rfl))
      | ((with_reducible apply o_callc); (case hf => rfl))
      | fail)
  all_goals (try simp [sls_set, Sl.fv])

theorem ex_idx {A B : Prop} {X : AV} {C : AV → Prop} (ha : A) (hb : B) (h : C X) : ∃ v, (A ∧ B ∧ X = v) ∧ C v := ⟨X, ⟨ha, hb, rfl⟩, h⟩
def validH (n : Int) : Bool := decide (0 ≤ n ∧ n ≤ 70368744177727)
def findR (a : Ar) (h : Int) : Int :=
  if validH h = false then -1 else if (a.sl.length : Int) ≤ h % 64 then -1 else if (a.sl[(h % 64).toNat]?.getD default).g ≠ h / 64 then -1 else if (a.sl[(h % 64).toNat]?.getD default).st = 0 then -1 else h % 64
def ac_ref05_find : AC := (.seq (.region [.op (some 2) none false (.box (.t 0)),
    .op (some 4) none false (.mv (.c (.int .i64 0))),
    .gh (.keep [1, 2])]) <|
  (.seq (.region [.op (some 6) none false (.mv (.t 1)),
    .call (some 7) none (.c (.func 48)) [(.t 6)],
    .op (some 5) none false (.mv (.t 7)),
    .gh (.keep [1, 2, 5])]) <|
  (.seq (.seq (.draw <|
    .fst (.op (some 8) none false (.mv (.t 5))) <|
    .fst (.op (some 9) none false (.bin .lss (.t 8) (.c (.int .i64 0)))) <|
    .fst (.op (some 10) none false (.mv (.t 9))) <|
    .fst (.op (some 11) (some (10, false)) false (.mv (.t 5))) <|
    .fst (.op (some 12) (some (10, false)) false (.fieldAddr 0 (.t 2))) <|
    .fst (.op (some 13) (some (10, false)) false (.load false 1 (.t 12))) <|
    .fst (.op (some 14) (some (10, false)) false (.len false (.t 13))) <|
    .fst (.op (some 15) (some (10, false)) false (.bin .geq (.t 11) (.t 14))) <|
    .fst (.op (some 16) none false (.pick (.t 10) (.c (.bool true)) (.t 15))) <|
    .fst (.op (some 17) none false (.mv (.t 16))) <|
    .fst (.op (some 18) (some (17, false)) false (.fieldAddr 0 (.t 2))) <|
    .fst (.op (some 19) (some (17, false)) false (.load false 1 (.t 18))) <|
    .fst (.op (some 20) (some (17, false)) false (.mv (.t 5))) <|
    .fst (.op (some 21) (some (17, false)) false (.idxA 4 (.t 19) (.t 20))) <|
    .fst (.op (some 22) (some (17, false)) false (.fieldAddr 0 (.t 21))) <|
    .fst (.op (some 23) (some (17, false)) false (.load false 1 (.t 22))) <|
    .fst (.op (some 24) (some (17, false)) false (.mv (.t 1))) <|
    .main1 [(.t 22), (.t 18)] (.call (some 25) (some (17, false)) (.c (.func 49)) [(.t 24)]) <|
    .fst (.op (some 26) (some (17, false)) false (.bin .neq (.t 23) (.t 25))) <|
    .fst (.op (some 27) none false (.pick (.t 17) (.c (.bool true)) (.t 26))) <|
    .fst (.op (some 28) none false (.mv (.t 27))) <|
    .fst (.op (some 29) (some (28, false)) false (.fieldAddr 0 (.t 2))) <|
    .fst (.op (some 30) (some (28, false)) false (.load false 1 (.t 29))) <|
    .fst (.op (some 31) (some (28, false)) false (.mv (.t 5))) <|
    .fst (.op (some 32) (some (28, false)) false (.idxA 4 (.t 30) (.t 31))) <|
    .fst (.op (some 33) (some (28, false)) false (.fieldAddr 1 (.t 32))) <|
    .fst (.op (some 34) (some (28, false)) false (.load false 1 (.t 33))) <|
    .fst (.op (some 35) (some (28, false)) false (.bin .eql (.t 34) (.c (.int .i64 0)))) <|
    .fst (.op (some 36) none false (.pick (.t 28) (.c (.bool true)) (.t 35))) <|
    .done) <|
  (.gh (.keep [5, 36]) (.cond (.t 36)
    (.seq (.region [.op (some 4) none false (.mv (.c (.int .i64 (-1))))]) <|
    .ret)
    .skip))) <|
  (.seq (.region [.op (some 37) none false (.mv (.t 5)),
    .op (some 4) none false (.mv (.t 37)),
    .gh (.keep [4])]) <|
  .ret))))
theorem tr_ref05_find : trCode Try.prog Try.f41.ntmps (Try.f41.body.getD .skip) = some ac_ref05_find.erase := by kernel_rfl
theorem fn_ref05_find : Try.prog.funcs[41]? = some Try.f41 := by kernel_rfl
theorem bd_ref05_find : Try.f41.body = some (Try.f41.body.getD .skip) := by kernel_rfl
theorem rs_ref05_find : Try.f41.results.toList.mapM (trRes Try.prog) = some [.tmp 4] := by kernel_rfl
theorem go_ref05_find {Y : YT} {kb : Nat} {args : List AV} {ob : Ob} {K : AV → Ob → Prop} (ks : Option (List Nat)) (hl : args.length ≤ 38) (h : AP Try.prog Y kb ac_ref05_find (endK [.tmp 4] ks K) (mkTm 0 args) ob) : FnA Try.prog Y 41 args ob K :=
  FnA_of_awp hm fn_ref05_find (by kernel_rfl) bd_ref05_find tr_ref05_find rs_ref05_find ks hl h.out
set_option maxHeartbeats 4000000 in
theorem c_ref05_find (a : Ar) (h0 : Int) (hn : a.sl.length ≤ 64) : PureA Try.prog 41 [a.av, .fv (.int .i64 h0)] (.fv (.int .i64 (findR a h0))) := by
  refine ⟨fun Y => ?_⟩
  refine go_ref05_find (kb := 100) (some []) (by simp) ?_
  unfold ac_ref05_find
  unfold Ar.av
  by_cases hv : 0 ≤ h0 ∧ h0 ≤ 70368744177727
  all_goals simp only [DT.main1]
  repeat' (first
      | ((with_reducible refine ap_id ?_); have zT := zS; (repeat (first | clear ze | revert ze)); exact zT.out)
      | ((with_reducible apply w_dseq); intro zS)
      | ((fail_if_success exact (Hd.mk trivial : Hd True)); (with_reducible refine Hd.mk ?_))
      | with_reducible refine w_seq fun K1 zn zx zr => ?_
      | with_reducible refine w_region fun K1 zq => ?_
      | with_reducible refine w_draw fun K1 zq => ?_
      | with_reducible refine w_block fun K1 yn yb yx yr => ?_
      | with_reducible refine w_skip ?_
      | with_reducible refine w_ret ?_
      | with_reducible refine w_exit ?_
      | ((with_reducible refine w_gh ?_); simp)
      | ((with_reducible refine zq _ _ ?_); clear zq)
      | ((with_reducible refine zn _ _ ?_); clear zn zx zr)
      | ((with_reducible refine zr _ _ ?_); clear zn zx zr)
      | ((with_reducible refine zx _ _ _ ?_); clear zn zx zr)
      | ((with_reducible refine yn _ _ ?_); clear yn yb yx yr)
      | ((with_reducible refine yb _ _ ?_); clear yn yb yx yr)
      | ((with_reducible refine yr _ _ ?_); clear yn yb yx yr)
      | ((with_reducible refine yx _ _ _ (by decide) ?_); clear yn yb yx yr)
      | ((with_reducible refine e_endn ?_); simp)
      | ((with_reducible refine e_endr ?_); simp)
      | with_reducible refine e_un ?_
      | with_reducible refine e_ux ?_
      | with_reducible refine e_ur ?_
      | ((with_reducible refine u_step ?_); (try simp))
      | ((with_reducible apply s_rangeF); (case hc => rfl); intro zel zrr)
      | ((with_reducible apply o_yld); (case hf => rfl))
      | ((with_reducible refine rf_go ?h1 ?h2 ?_); (case h1 => rfl); (case h2 => first | rfl | simp); simp [tputs])
      | ((with_reducible refine r_an ?h1 ?_); (case h1 => first | rfl | simp); simp)
      | ((with_reducible refine r_bn ?h1 ?_); (case h1 => first | rfl | simp); simp)
      | ((with_reducible refine r_bx ?h1 ?_); (case h1 => first | rfl | simp); simp)
      | ((with_reducible refine r_br ?h1 ?_); (case h1 => first | rfl | simp); simp)
      | ((with_reducible refine f_en ?h1 ?_); (case h1 => rfl); simp)
      | ((with_reducible refine f_ex ?h1 ?_); (case h1 => rfl); simp)
      | ((with_reducible refine f_er ?h1 ?_); (case h1 => rfl); simp)
      | with_reducible refine e_loopx ?_
      | with_reducible refine e_loopr ?_
      | ((with_reducible refine c_true ?hc ?_); (case hc => rfl))
      | ((with_reducible refine c_false ?hc ?_); (case hc => rfl))
      | (rw [sls_get _ _ (by omega)]; simp [Sl.fv])
      | rw [i64_in _ (by omega)]
      | ((with_reducible refine o_bin ?_); ((first | ((with_reducible apply o_lss); (case hx => rfl); (case hy => rfl); (case hk => rfl)) | ((with_reducible apply o_leq); (case hx => rfl); (case hy => rfl); (case hk => rfl)) | ((with_reducible apply o_gtr); (case hx => rfl); (case hy => rfl); (case hk => rfl)) | ((with_reducible apply o_geq); (case hx => rfl); (case hy => rfl); (case hk => rfl)) | ((with_reducible apply o_eql); (case hx => rfl); (case hy => rfl); (case hk => rfl)) | ((with_reducible apply o_neq); (case hx => rfl); (case hy => rfl); (case hk => rfl))) <;> (intro h; first | (exfalso; omega) | simp)))
      | ((with_reducible apply o_eqnil); (case hx => rfl); all_goals (try intro h); all_goals simp)
      | ((with_reducible refine o_op fun _ _ => ?_); simp)
      | ((with_reducible refine o_gt ?hg ?_); (case hg => rfl))
      | ((with_reducible apply o_gs); (case hg => rfl); (case hn => rfl); simp only [skipD, tdel, Nat.reduceEqDiff, reduceIte])
      | ((with_reducible refine o_cgt ?hg ?_); (case hg => rfl))
      | ((with_reducible apply o_cgs); (case hg => rfl); (case hn => rfl); simp only [skipD, tdel, Nat.reduceEqDiff, reduceIte])
      | with_reducible refine o_nil ?_
      | with_reducible exact d_stop
      | ((with_reducible refine d_done ?_); (try simp))
      | ((with_reducible refine d_bin ?_); ((first | ((with_reducible apply d_lss); (case hx => rfl); (case hy => rfl); (case hk => rfl)) | ((with_reducible apply d_leq); (case hx => rfl); (case hy => rfl); (case hk => rfl)) | ((with_reducible apply d_gtr); (case hx => rfl); (case hy => rfl); (case hk => rfl)) | ((with_reducible apply d_geq); (case hx => rfl); (case hy => rfl); (case hk => rfl)) | ((with_reducible apply d_eql); (case hx => rfl); (case hy => rfl); (case hk => rfl)) | ((with_reducible apply d_neq); (case hx => rfl); (case hy => rfl); (case hk => rfl))) <;> (intro h; first | (exfalso; omega) | simp)))
      | ((with_reducible refine d_fst ?_); simp [and_assoc])
      | ((with_reducible refine d_fst_gt ?hg ?_); (case hg => rfl))
      | ((with_reducible apply d_fst_gs); (case hg => rfl); (case hn => rfl); simp only [skipD, tdel, Nat.reduceEqDiff, reduceIte])
      | ((with_reducible refine d_main_gt ?hg ?_); (case hg => rfl))
      | ((with_reducible apply d_main_gs); (case hg => rfl); (case hn => rfl); all_goals (try simp only [skipD, tdel, Nat.reduceEqDiff, reduceIte]))
      | ((with_reducible refine d_call_gt ?hg ?_); (case hg => rfl))
      | ((with_reducible apply d_call_gs); (case hg => rfl); (case hn => rfl); all_goals (try simp only [skipD, tdel, Nat.reduceEqDiff, reduceIte]))
      | ((with_reducible refine d_main (fun ze => ?_) d_stop); simp)
      | ((with_reducible refine d_main (fun ze => ?_) ?_); simp)
      | ((with_reducible refine o_gh ?_); simp)
      | (with_reducible refine isR_mk ?_ (by simp))
      | ((with_reducible apply o_callp (n := 48)); (case hf => rfl); (case hp => exact c_ref04_Slot _);  (simp only [if_pos hv]; simp))
      | ((with_reducible apply d_callp (n := 49)); (case hf => rfl); (case hp => exact c_ref04_Generation _); (try (case hr => exact d_stop));  (simp only [if_pos hv]; simp))
      | ((with_reducible apply o_callp (n := 48)); (case hf => rfl); (case hp => exact c_ref04_Slot _);  (simp only [if_neg hv]; simp))
      | ((with_reducible apply d_callp (n := 49)); (case hf => rfl); (case hp => exact c_ref04_Generation _); (try (case hr => exact d_stop));  (simp only [if_neg hv]; simp))
      | (with_reducible refine And.intro (by omega) ?_)
      | (refine ex_idx (by omega) (by omega) ?_)
      | (with_reducible refine fun (ze : Nat) => ?_)
      | ((with_reducible apply o_call); (case hf => rfl))
      | ((with_reducible apply o_callc); (case hf => rfl))
      | fail)
  all_goals (simp only [AV.wk, AV.wk1, AV.wk0, FV.wk]; congr 2; unfold findR validH; (repeat' split) <;> (first | rfl | omega | (simp_all; done) | (simp_all; omega)))
end Go.Proofs.RL
