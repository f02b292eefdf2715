/- Steps of a walk, bare. Conditions: none. -/
import Derived.Test.YthefjfcphgiggaaRlW
set_option linter.unusedVariables false
set_option linter.unusedSimpArgs false
namespace Go.Proofs.RL.Raw
open Go.Proofs.RL

section
variable {P : Program} {Y : YT} {kb : Nat} {tm : Tm} {ob : Ob} {K : AEx → Tm → Ob → Prop}

theorem c_true {c : Opd} {x y : AC} (hc : c.ev tm = .fv (.bool true)) (h : awp P Y kb x K tm ob) : awp P Y kb (.cond c x y) K tm ob := by
  simp only [awp, hc, condP]; exact ⟨fun _ => h, fun hn => by cases hn⟩
theorem c_false {c : Opd} {x y : AC} (hc : c.ev tm = .fv (.bool false)) (h : awp P Y kb y K tm ob) : awp P Y kb (.cond c x y) K tm ob := by
  simp only [awp, hc, condP]; exact ⟨fun hn => (by cases hn), fun _ => h⟩

theorem w_seq {a b : AC} (h : ∀ K1 : AEx → Tm → Ob → Prop, (∀ tm ob, awp P Y kb b K tm ob → K1 .normal tm ob) → (∀ id tm ob, K (.exit id) tm ob → K1 (.exit id) tm ob) → (∀ tm ob, K .ret tm ob → K1 .ret tm ob) → awp P Y kb a K1 tm ob) : awp P Y kb (.seq a b) K tm ob :=
  h _ (fun _ _ h => h) (fun _ _ _ h => h) (fun _ _ h => h)
theorem w_skip (h : K .normal tm ob) : awp P Y kb .skip K tm ob := h
theorem w_ret (h : K .ret tm ob) : awp P Y kb .ret K tm ob := h
theorem w_exit {id : Nat} (h : K (.exit id) tm ob) : awp P Y kb (.exit id) K tm ob := h
theorem w_region {L : List AI} (h : ∀ K1 : Tm → Ob → Prop, (∀ tm ob, K .normal tm ob → K1 tm ob) → awpOps P Y kb L K1 tm ob) : awp P Y kb (.region L) K tm ob := h _ (fun _ _ h => h)
theorem w_draw {t : DT} (h : ∀ K1 : Tm → Ob → Prop, (∀ tm ob, K .normal tm ob → K1 tm ob) → awpDT P Y kb K1 t tm ob) : awp P Y kb (.draw t) K tm ob := h _ (fun _ _ h => h)
theorem w_cond {c : Opd} {x y : AC} {b : Bool} (hc : c.ev tm = .fv (.bool b)) (hx : b = true → awp P Y kb x K tm ob) (hy : b = false → awp P Y kb y K tm ob) : awp P Y kb (.cond c x y) K tm ob := by
  simp only [awp, hc, condP]; exact ⟨hx, hy⟩
theorem w_block {id : Nat} {b : AC} (h : ∀ K1 : AEx → Tm → Ob → Prop, (∀ tm ob, K .normal tm ob → K1 .normal tm ob) → (∀ tm ob, K .normal tm ob → K1 (.exit id) tm ob) → (∀ i tm ob, i ≠ id → K (.exit i) tm ob → K1 (.exit i) tm ob) → (∀ tm ob, K .ret tm ob → K1 .ret tm ob) → awp P Y kb b K1 tm ob) : awp P Y kb (.block id b) K tm ob :=
  h _ (fun _ _ h => h) (fun _ _ h => by simp [blkK]; exact h) (fun i tm ob hi h => by simp [blkK, hi]; exact h) (fun _ _ h => h)
theorem w_loop {b : AC} (I : Nat → Tm → Ob → Prop) {n : Nat} (h0 : I n tm ob) (h : ∀ n tm ob, I n tm ob → ∀ K1 : AEx → Tm → Ob → Prop, (∀ n' tm ob, n' < n → I n' tm ob → K1 .normal tm ob) → (∀ id tm ob, K (.exit id) tm ob → K1 (.exit id) tm ob) → (∀ tm ob, K .ret tm ob → K1 .ret tm ob) → awp P Y kb b K1 tm ob) : awp P Y kb (.loop b) K tm ob :=
  ⟨I, ⟨n, h0⟩, fun n tm ob hI => h n tm ob hI _ (fun n' tm ob h1 h2 => ⟨n', h1, h2⟩) (fun _ _ _ h => h) (fun _ _ h => h)⟩
theorem w_gh {g : Gst} {c : AC} (h : ghostP g tm ob fun tm ob => awp P Y kb c K tm ob) : awp P Y kb (.gh g c) K tm ob := h
end

section
variable {P : Program} {Y : YT} {kb : Nat} {tm : Tm} {ob : Ob} {K : Tm → Ob → Prop} {r : List AI}
theorem o_nil (h : K tm ob) : awpOps P Y kb [] K tm ob := h
theorem o_op {d : Option Nat} {tk : Bool} {o : AOp} (h : ∀ e q : Nat, stepOp o tm (oget ob) (keyOf kb d) e (if tk then some q else none) fun v upd new del => awpOps P Y kb r K (putD d v tm) (obAfter ob (keyOf kb d) e upd new del)) : awpOps P Y kb (.op d none tk o :: r) K tm ob := h
theorem o_opg {d : Option Nat} {t : Nat} {b b' : Bool} {tk : Bool} {o : AOp} (hg : tget tm t = .fv (.bool b')) (h : b' = b → ∀ e q : Nat, stepOp o tm (oget ob) (keyOf kb d) e (if tk then some q else none) fun v upd new del => awpOps P Y kb r K (putD d v tm) (obAfter ob (keyOf kb d) e upd new del))
    (hs : b' ≠ b → awpOps P Y kb r K (skipD d tm) ob) : awpOps P Y kb (.op d (some (t, b)) tk o :: r) K tm ob := by
  simp only [awpOps, guardP, hg]; exact ⟨h, hs⟩
end
section
variable {P : Program} {Y : YT} {kb : Nat} {tm : Tm} {ob : Ob} {K : Tm → Ob → Prop} {r : List AI} {d : Option Nat} {tk : Bool} {x y : Opd}
theorem o_gt {t : Nat} {b : Bool} {o : AOp} (hg : tget tm t = .fv (.bool b)) (h : awpOps P Y kb (.op d none tk o :: r) K tm ob) : awpOps P Y kb (.op d (some (t, b)) tk o :: r) K tm ob := by
  simp only [awpOps, guardP, hg] at h ⊢; exact ⟨fun _ => h, fun hn => absurd rfl hn⟩
theorem o_gs {t : Nat} {b b' : Bool} {o : AOp} (hg : tget tm t = .fv (.bool b')) (hn : (b' == b) = false) (h : awpOps P Y kb r K (skipD d tm) ob) : awpOps P Y kb (.op d (some (t, b)) tk o :: r) K tm ob := by
  simp only [awpOps, guardP, hg]; exact ⟨fun e => by subst e; simp at hn, fun _ => h⟩
theorem o_cgt {t : Nat} {b : Bool} {f : Opd} {as : List Opd} (hg : tget tm t = .fv (.bool b)) (h : awpOps P Y kb (.call d none f as :: r) K tm ob) : awpOps P Y kb (.call d (some (t, b)) f as :: r) K tm ob := by
  simp only [awpOps, guardP, hg] at h ⊢; exact ⟨fun _ => h, fun hn => absurd rfl hn⟩
theorem o_cgs {t : Nat} {b b' : Bool} {f : Opd} {as : List Opd} (hg : tget tm t = .fv (.bool b')) (hn : (b' == b) = false) (h : awpOps P Y kb r K (skipD d tm) ob) : awpOps P Y kb (.call d (some (t, b)) f as :: r) K tm ob := by
  simp only [awpOps, guardP, hg]; exact ⟨fun e => by subst e; simp at hn, fun _ => h⟩
theorem o_call {n : FuncId} {f : Opd} {as : List Opd} (hf : f.ev tm = .fv (.func n)) (h : FnA P Y n (as.map (·.ev tm)) ob fun v ob' => awpOps P Y kb r K (putD d v tm) ob') : awpOps P Y kb (.call d none f as :: r) K tm ob := by
  simp only [awpOps, guardP, hf, callP, callTo, List.nil_append, List.append_nil]; exact h
theorem o_callc {n : FuncId} {f : Opd} {as : List Opd} {first caps : List AV} (hf : f.ev tm = .clo n first caps) (h : FnA P Y n (first ++ as.map (·.ev tm) ++ caps) ob fun v ob' => awpOps P Y kb r K (putD d v tm) ob') : awpOps P Y kb (.call d none f as :: r) K tm ob := by
  simp only [awpOps, guardP, hf, callP, callTo]; exact h
theorem o_callp {n : FuncId} {f : Opd} {as : List Opd} {v : AV} (hf : f.ev tm = .fv (.func n)) (hp : PureA P n (as.map (·.ev tm)) v) (h : awpOps P Y kb r K (putD d v tm) ob) : awpOps P Y kb (.call d none f as :: r) K tm ob :=
  o_call hf (hp.use h)
theorem o_callcp {n : FuncId} {f : Opd} {as : List Opd} {first caps : List AV} {v : AV} (hf : f.ev tm = .clo n first caps) (hp : PureA P n (first ++ as.map (·.ev tm) ++ caps) v) (h : awpOps P Y kb r K (putD d v tm) ob) : awpOps P Y kb (.call d none f as :: r) K tm ob :=
  o_callc hf (hp.use h)
theorem o_gh {g : Gst} (h : ghostP g tm ob fun tm ob => awpOps P Y kb r K tm ob) : awpOps P Y kb (.gh g :: r) K tm ob := h
theorem o_dec {p : Prop} [Decidable p] (h1 : p → awpOps P Y kb r K (putD d (.fv (.bool true)) tm) ob) (h2 : ¬ p → awpOps P Y kb r K (putD d (.fv (.bool false)) tm) ob) : awpOps P Y kb r K (putD d (.fv (.bool (decide p))) tm) ob := by
  by_cases hp : p
  · simpa [hp] using h1 hp
  · simpa [hp] using h2 hp
theorem o_bool {b : Bool} (h1 : b = true → awpOps P Y kb r K (putD d (.fv (.bool true)) tm) ob) (h2 : b = false → awpOps P Y kb r K (putD d (.fv (.bool false)) tm) ob) : awpOps P Y kb r K (putD d (.fv (.bool b)) tm) ob := by
  cases b
  · exact h2 rfl
  · exact h1 rfl
theorem o_lss {k k' : IntKind} {a b : Int} (hx : x.ev tm = .fv (.int k a)) (hy : y.ev tm = .fv (.int k' b)) (hk : (k == k') = true) (h1 : a < b → awpOps P Y kb r K (putD d (.fv (.bool true)) tm) ob) (h2 : ¬ (a < b) → awpOps P Y kb r K (putD d (.fv (.bool false)) tm) ob) :
    awpOps P Y kb (.op d none tk (.bin .lss x y) :: r) K tm ob := by
  have hk : k = k' := by simpa using hk
  simp only [awpOps, guardP, stepOp, binP, hx, hy, intBin, hk, true_and, obAfter]
  intro _ _
  by_cases hp : a < b
  · simpa [hp] using h1 hp
  · simpa [hp] using h2 hp
theorem o_leq {k k' : IntKind} {a b : Int} (hx : x.ev tm = .fv (.int k a)) (hy : y.ev tm = .fv (.int k' b)) (hk : (k == k') = true) (h1 : a ≤ b → awpOps P Y kb r K (putD d (.fv (.bool true)) tm) ob) (h2 : ¬ (a ≤ b) → awpOps P Y kb r K (putD d (.fv (.bool false)) tm) ob) :
    awpOps P Y kb (.op d none tk (.bin .leq x y) :: r) K tm ob := by
  have hk : k = k' := by simpa using hk
  simp only [awpOps, guardP, stepOp, binP, hx, hy, intBin, hk, true_and, obAfter]
  intro _ _
  by_cases hp : a ≤ b
  · simpa [hp] using h1 hp
  · simpa [hp] using h2 hp
theorem o_gtr {k k' : IntKind} {a b : Int} (hx : x.ev tm = .fv (.int k a)) (hy : y.ev tm = .fv (.int k' b)) (hk : (k == k') = true) (h1 : a > b → awpOps P Y kb r K (putD d (.fv (.bool true)) tm) ob) (h2 : ¬ (a > b) → awpOps P Y kb r K (putD d (.fv (.bool false)) tm) ob) :
    awpOps P Y kb (.op d none tk (.bin .gtr x y) :: r) K tm ob := by
  have hk : k = k' := by simpa using hk
  simp only [awpOps, guardP, stepOp, binP, hx, hy, intBin, hk, true_and, obAfter]
  intro _ _
  by_cases hp : a > b
  · simpa [hp] using h1 hp
  · simpa [hp] using h2 hp
theorem o_geq {k k' : IntKind} {a b : Int} (hx : x.ev tm = .fv (.int k a)) (hy : y.ev tm = .fv (.int k' b)) (hk : (k == k') = true) (h1 : a ≥ b → awpOps P Y kb r K (putD d (.fv (.bool true)) tm) ob) (h2 : ¬ (a ≥ b) → awpOps P Y kb r K (putD d (.fv (.bool false)) tm) ob) :
    awpOps P Y kb (.op d none tk (.bin .geq x y) :: r) K tm ob := by
  have hk : k = k' := by simpa using hk
  simp only [awpOps, guardP, stepOp, binP, hx, hy, intBin, hk, true_and, obAfter]
  intro _ _
  by_cases hp : a ≥ b
  · simpa [hp] using h1 hp
  · simpa [hp] using h2 hp
theorem o_eql {k k' : IntKind} {a b : Int} (hx : x.ev tm = .fv (.int k a)) (hy : y.ev tm = .fv (.int k' b)) (hk : (k == k') = true) (h1 : a = b → awpOps P Y kb r K (putD d (.fv (.bool true)) tm) ob) (h2 : ¬ (a = b) → awpOps P Y kb r K (putD d (.fv (.bool false)) tm) ob) :
    awpOps P Y kb (.op d none tk (.bin .eql x y) :: r) K tm ob := by
  have hk : k = k' := by simpa using hk
  simp only [awpOps, guardP, stepOp, binP, hx, hy, intBin, hk, true_and, obAfter]
  intro _ _
  by_cases hp : a = b
  · subst hp; simpa using h1 rfl
  · have e : (a == b) = false := by simpa using hp
    rw [e]; exact h2 hp
theorem o_neq {k k' : IntKind} {a b : Int} (hx : x.ev tm = .fv (.int k a)) (hy : y.ev tm = .fv (.int k' b)) (hk : (k == k') = true) (h1 : a ≠ b → awpOps P Y kb r K (putD d (.fv (.bool true)) tm) ob) (h2 : ¬ (a ≠ b) → awpOps P Y kb r K (putD d (.fv (.bool false)) tm) ob) :
    awpOps P Y kb (.op d none tk (.bin .neq x y) :: r) K tm ob := by
  have hk : k = k' := by simpa using hk
  simp only [awpOps, guardP, stepOp, binP, hx, hy, intBin, hk, true_and, obAfter]
  intro _ _
  by_cases hp : a ≠ b
  · have e : (a != b) = true := by simpa using hp
    rw [e]; exact h1 hp
  · have h := h2 hp; simp only [ne_eq, Classical.not_not] at hp; subst hp; simpa using h
end

section
variable {P : Program} {Y : YT} {kb : Nat} {tm : Tm} {ob : Ob} {K : Tm → Ob → Prop} {t r : DT} {d : Option Nat} {tk : Bool}
theorem d_done (h : K tm ob) : awpDT P Y kb K .done tm ob := h
theorem d_stop : awpDT P Y kb K .stop tm ob := trivial
theorem d_fst {o : AOp} (h : ∃ v, stepOp o tm (oget ob) 0 0 none (fun v' u n dl => v' = v ∧ u = none ∧ n = none ∧ dl = none) ∧ awpDT P Y kb K t (putD d v tm) ob) : awpDT P Y kb K (.fst (.op d none tk o) t) tm ob := h
theorem d_fst_gt {s : Nat} {b : Bool} {o : AOp} (hg : tget tm s = .fv (.bool b)) (h : awpDT P Y kb K (.fst (.op d none tk o) t) tm ob) : awpDT P Y kb K (.fst (.op d (some (s, b)) tk o) t) tm ob := by
  simp only [awpDT, guardP, hg] at h ⊢; exact ⟨fun _ => h, fun hn => absurd rfl hn⟩
theorem d_fst_gs {s : Nat} {b b' : Bool} {o : AOp} (hg : tget tm s = .fv (.bool b')) (hn : (b' == b) = false) (h : awpDT P Y kb K t (skipD d tm) ob) : awpDT P Y kb K (.fst (.op d (some (s, b)) tk o) t) tm ob := by
  simp only [awpDT, guardP, hg]; exact ⟨fun e => by subst e; simp at hn, fun _ => h⟩
theorem d_main {ld : List Opd} {o : AOp} (h : ∀ e, stepOp o tm (oget ob) (keyOf kb d) e none fun v u n dl => stab ld tm ob (obAfter ob (keyOf kb d) e u n dl) ∧ awpDT P Y kb K t (putD d v tm) (obAfter ob (keyOf kb d) e u n dl)) (hr : awpDT P Y kb K r tm ob) :
    awpDT P Y kb K (.main ld (.op d none tk o) t r) tm ob := ⟨h, hr⟩
theorem d_call {ld : List Opd} {n : FuncId} {f : Opd} {as : List Opd} (hf : f.ev tm = .fv (.func n)) (h : FnA P Y n (as.map (·.ev tm)) ob fun v ob' => stab ld tm ob ob' ∧ awpDT P Y kb K t (putD d v tm) ob') (hr : awpDT P Y kb K r tm ob) :
    awpDT P Y kb K (.main ld (.call d none f as) t r) tm ob := by
  refine ⟨?_, hr⟩
  simp only [guardP, hf, callP, callTo, List.nil_append, List.append_nil]; exact h
theorem d_callp {ld : List Opd} {n : FuncId} {f : Opd} {as : List Opd} {v : AV} (hf : f.ev tm = .fv (.func n)) (hp : PureA P n (as.map (·.ev tm)) v) (h : awpDT P Y kb K t (putD d v tm) ob) (hr : awpDT P Y kb K r tm ob) :
    awpDT P Y kb K (.main ld (.call d none f as) t r) tm ob := d_call hf (hp.use ⟨fun p _ => peq_refl _ _, h⟩) hr
theorem stab_refl (ld : List Opd) (tm : Tm) (ob : Ob) : stab ld tm ob ob := fun p _ => peq_refl _ _
end
section
variable {P : Program} {Y : YT} {kb : Nat} {tm : Tm} {ob : Ob} {K : AEx → Tm → Ob → Prop} {K' : Tm → Ob → Prop} {i id n : Nat} {I : Nat → Tm → Ob → Prop}
theorem s_seq {a b : AC} (h : awp P Y kb a (seqK (awp P Y kb b K) K) tm ob) : awp P Y kb (.seq a b) K tm ob := h
theorem s_region {L : List AI} (h : awpOps P Y kb L (K .normal) tm ob) : awp P Y kb (.region L) K tm ob := h
theorem s_draw {t : DT} (h : awpDT P Y kb (K .normal) t tm ob) : awp P Y kb (.draw t) K tm ob := h
theorem s_block {b : AC} (h : awp P Y kb b (blkK id K) tm ob) : awp P Y kb (.block id b) K tm ob := h
theorem s_loop {b : AC} (I : Nat → Tm → Ob → Prop) (n : Nat) (h0 : I n tm ob) (h : ∀ n tm ob, I n tm ob → awp P Y kb b (loopK I n K) tm ob) : awp P Y kb (.loop b) K tm ob := ⟨I, ⟨n, h0⟩, h⟩
theorem e_seqn (h : K' tm ob) : seqK K' K .normal tm ob := h
theorem e_seqx (h : K (.exit id) tm ob) : seqK K' K (.exit id) tm ob := h
theorem e_seqr (h : K .ret tm ob) : seqK K' K .ret tm ob := h
theorem e_blkn (h : K .normal tm ob) : blkK id K .normal tm ob := h
theorem e_blkx (h : K .normal tm ob) : blkK id K (.exit id) tm ob := by simp only [blkK, if_true]; exact h
theorem e_blky (hi : (i == id) = false) (h : K (.exit i) tm ob) : blkK id K (.exit i) tm ob := by
  have : i ≠ id := by simpa using hi
  simp only [blkK, if_neg this]; exact h
theorem e_blkr (h : K .ret tm ob) : blkK id K .ret tm ob := h
theorem e_loopn (n' : Nat) (hn : n' < n) (h : I n' tm ob) : loopK I n K .normal tm ob := ⟨n', hn, h⟩
theorem e_loopx (h : K (.exit id) tm ob) : loopK I n K (.exit id) tm ob := h
theorem e_loopr (h : K .ret tm ob) : loopK I n K .ret tm ob := h
end
section
variable {rs : List ARes} {ks : Option (List Nat)} {K : AV → Ob → Prop} {tm : Tm} {ob : Ob}
theorem e_endn (h : resP rs tm ob fun vs => K (one vs) (match ks with | none => ob | some ks => okeep ob ks)) : endK rs ks K .normal tm ob := h
theorem e_endr (h : resP rs tm ob fun vs => K (one vs) (match ks with | none => ob | some ks => okeep ob ks)) : endK rs ks K .ret tm ob := h
end
section
variable {P : Program} {Y : YT} {kb : Nat} {tm : Tm} {ob : Ob} {K : Tm → Ob → Prop} {t r : DT} {d : Option Nat} {tk : Bool} {x y : Opd}
theorem d_main_gt {ld : List Opd} {s : Nat} {b : Bool} {o : AOp} (hg : tget tm s = .fv (.bool b)) (h : awpDT P Y kb K (.main ld (.op d none tk o) t r) tm ob) : awpDT P Y kb K (.main ld (.op d (some (s, b)) tk o) t r) tm ob := by
  simp only [awpDT, guardP, hg] at h ⊢; exact ⟨⟨fun _ => h.1, fun hn => absurd rfl hn⟩, h.2⟩
theorem d_main_gs {ld : List Opd} {s : Nat} {b b' : Bool} {o : AOp} (hg : tget tm s = .fv (.bool b')) (hn : (b' == b) = false) (h : awpDT P Y kb K t (skipD d tm) ob) (hr : awpDT P Y kb K r tm ob) : awpDT P Y kb K (.main ld (.op d (some (s, b)) tk o) t r) tm ob := by
  simp only [awpDT, guardP, hg]; exact ⟨⟨fun e => by subst e; simp at hn, fun _ => h⟩, hr⟩
theorem d_call_gt {ld : List Opd} {s : Nat} {b : Bool} {f : Opd} {as : List Opd} (hg : tget tm s = .fv (.bool b)) (h : awpDT P Y kb K (.main ld (.call d none f as) t r) tm ob) : awpDT P Y kb K (.main ld (.call d (some (s, b)) f as) t r) tm ob := by
  simp only [awpDT, guardP, hg] at h ⊢; exact ⟨⟨fun _ => h.1, fun hn => absurd rfl hn⟩, h.2⟩
theorem d_call_gs {ld : List Opd} {s : Nat} {b b' : Bool} {f : Opd} {as : List Opd} (hg : tget tm s = .fv (.bool b')) (hn : (b' == b) = false) (h : awpDT P Y kb K t (skipD d tm) ob) (hr : awpDT P Y kb K r tm ob) : awpDT P Y kb K (.main ld (.call d (some (s, b)) f as) t r) tm ob := by
  simp only [awpDT, guardP, hg]; exact ⟨⟨fun e => by subst e; simp at hn, fun _ => h⟩, hr⟩
theorem d_dec {p : Prop} [Decidable p] (h1 : p → awpDT P Y kb K t (putD d (.fv (.bool true)) tm) ob) (h2 : ¬ p → awpDT P Y kb K t (putD d (.fv (.bool false)) tm) ob) : awpDT P Y kb K t (putD d (.fv (.bool (decide p))) tm) ob := by
  by_cases hp : p
  · simpa [hp] using h1 hp
  · simpa [hp] using h2 hp
theorem d_lss {k k' : IntKind} {a b : Int} (hx : x.ev tm = .fv (.int k a)) (hy : y.ev tm = .fv (.int k' b)) (hk : (k == k') = true) (h1 : a < b → awpDT P Y kb K t (putD d (.fv (.bool true)) tm) ob) (h2 : ¬ (a < b) → awpDT P Y kb K t (putD d (.fv (.bool false)) tm) ob) :
    awpDT P Y kb K (.fst (.op d none tk (.bin .lss x y)) t) tm ob := by
  have hk : k = k' := by simpa using hk
  simp only [awpDT, guardP, stepOp, binP, hx, hy, intBin, hk, true_and]
  by_cases hp : a < b
  · exact ⟨.fv (.bool true), by simp [hp], h1 hp⟩
  · exact ⟨.fv (.bool false), by simp; omega, h2 hp⟩
theorem d_leq {k k' : IntKind} {a b : Int} (hx : x.ev tm = .fv (.int k a)) (hy : y.ev tm = .fv (.int k' b)) (hk : (k == k') = true) (h1 : a ≤ b → awpDT P Y kb K t (putD d (.fv (.bool true)) tm) ob) (h2 : ¬ (a ≤ b) → awpDT P Y kb K t (putD d (.fv (.bool false)) tm) ob) :
    awpDT P Y kb K (.fst (.op d none tk (.bin .leq x y)) t) tm ob := by
  have hk : k = k' := by simpa using hk
  simp only [awpDT, guardP, stepOp, binP, hx, hy, intBin, hk, true_and]
  by_cases hp : a ≤ b
  · exact ⟨.fv (.bool true), by simp [hp], h1 hp⟩
  · exact ⟨.fv (.bool false), by simp; omega, h2 hp⟩
theorem d_gtr {k k' : IntKind} {a b : Int} (hx : x.ev tm = .fv (.int k a)) (hy : y.ev tm = .fv (.int k' b)) (hk : (k == k') = true) (h1 : a > b → awpDT P Y kb K t (putD d (.fv (.bool true)) tm) ob) (h2 : ¬ (a > b) → awpDT P Y kb K t (putD d (.fv (.bool false)) tm) ob) :
    awpDT P Y kb K (.fst (.op d none tk (.bin .gtr x y)) t) tm ob := by
  have hk : k = k' := by simpa using hk
  simp only [awpDT, guardP, stepOp, binP, hx, hy, intBin, hk, true_and]
  by_cases hp : a > b
  · exact ⟨.fv (.bool true), by simp [hp], h1 hp⟩
  · exact ⟨.fv (.bool false), by simp; omega, h2 hp⟩
theorem d_geq {k k' : IntKind} {a b : Int} (hx : x.ev tm = .fv (.int k a)) (hy : y.ev tm = .fv (.int k' b)) (hk : (k == k') = true) (h1 : a ≥ b → awpDT P Y kb K t (putD d (.fv (.bool true)) tm) ob) (h2 : ¬ (a ≥ b) → awpDT P Y kb K t (putD d (.fv (.bool false)) tm) ob) :
    awpDT P Y kb K (.fst (.op d none tk (.bin .geq x y)) t) tm ob := by
  have hk : k = k' := by simpa using hk
  simp only [awpDT, guardP, stepOp, binP, hx, hy, intBin, hk, true_and]
  by_cases hp : a ≥ b
  · exact ⟨.fv (.bool true), by simp [hp], h1 hp⟩
  · exact ⟨.fv (.bool false), by simp; omega, h2 hp⟩
theorem d_eql {k k' : IntKind} {a b : Int} (hx : x.ev tm = .fv (.int k a)) (hy : y.ev tm = .fv (.int k' b)) (hk : (k == k') = true) (h1 : a = b → awpDT P Y kb K t (putD d (.fv (.bool true)) tm) ob) (h2 : ¬ (a = b) → awpDT P Y kb K t (putD d (.fv (.bool false)) tm) ob) :
    awpDT P Y kb K (.fst (.op d none tk (.bin .eql x y)) t) tm ob := by
  have hk : k = k' := by simpa using hk
  simp only [awpDT, guardP, stepOp, binP, hx, hy, intBin, hk, true_and]
  by_cases hp : a = b
  · exact ⟨.fv (.bool true), by simp [hp], h1 hp⟩
  · exact ⟨.fv (.bool false), by simp [hp], h2 hp⟩
theorem d_neq {k k' : IntKind} {a b : Int} (hx : x.ev tm = .fv (.int k a)) (hy : y.ev tm = .fv (.int k' b)) (hk : (k == k') = true) (h1 : a ≠ b → awpDT P Y kb K t (putD d (.fv (.bool true)) tm) ob) (h2 : ¬ (a ≠ b) → awpDT P Y kb K t (putD d (.fv (.bool false)) tm) ob) :
    awpDT P Y kb K (.fst (.op d none tk (.bin .neq x y)) t) tm ob := by
  have hk : k = k' := by simpa using hk
  simp only [awpDT, guardP, stepOp, binP, hx, hy, intBin, hk, true_and]
  by_cases hp : a ≠ b
  · exact ⟨.fv (.bool true), by simp [hp], h1 hp⟩
  · exact ⟨.fv (.bool false), by simp only [ne_eq, Classical.not_not] at hp; simp [hp], h2 hp⟩
end
section
variable {P : Program} {Y : YT} {kb : Nat} {tm : Tm} {ob : Ob}
theorem o_bin {K : Tm → Ob → Prop} {r : List AI} {d : Option Nat} {g : Option (Nat × Bool)} {tk : Bool} {op : BinOp} {x y : Opd} (h : awpOps P Y kb (.op d g tk (.bin op x y) :: r) K tm ob) : awpOps P Y kb (.op d g tk (.bin op x y) :: r) K tm ob := h
theorem d_bin {K : Tm → Ob → Prop} {t : DT} {d : Option Nat} {g : Option (Nat × Bool)} {tk : Bool} {op : BinOp} {x y : Opd} (h : awpDT P Y kb K (.fst (.op d g tk (.bin op x y)) t) tm ob) : awpDT P Y kb K (.fst (.op d g tk (.bin op x y)) t) tm ob := h
end
end Go.Proofs.RL.Raw
