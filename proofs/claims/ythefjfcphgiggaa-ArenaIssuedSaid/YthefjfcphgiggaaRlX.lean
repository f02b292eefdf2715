/- Steps of a walk. Conditions: none. -/
import Derived.Test.YthefjfcphgiggaaRlXA
set_option linter.unusedVariables false
set_option linter.unusedSimpArgs false
namespace Go.Proofs.RL
/- What is to be shown of operations, of a region, of code: bare propositions that nothing unfolds. -/
structure AW (P : Program) (Y : YT) (kb : Nat) (L : List AI) (K : Tm → Ob → Prop) (tm : Tm) (ob : Ob) : Prop where
  out : awpOps P Y kb L K tm ob
structure AD (P : Program) (Y : YT) (kb : Nat) (K : Tm → Ob → Prop) (t : DT) (tm : Tm) (ob : Ob) : Prop where
  out : awpDT P Y kb K t tm ob
structure AP (P : Program) (Y : YT) (kb : Nat) (c : AC) (K : AEx → Tm → Ob → Prop) (tm : Tm) (ob : Ob) : Prop where
  out : awp P Y kb c K tm ob
theorem AW_eq : @AW = @awpOps := by
  funext P Y kb L K tm ob; exact propext ⟨fun h => h.out, fun h => ⟨h⟩⟩
theorem AD_eq : @AD = @awpDT := by
  funext P Y kb K t tm ob; exact propext ⟨fun h => h.out, fun h => ⟨h⟩⟩
theorem AP_eq : @AP = @awp := by
  funext P Y kb c K tm ob; exact propext ⟨fun h => h.out, fun h => ⟨h⟩⟩
section
variable {P : Program} {Y : YT} {kb : Nat} {tm : Tm} {ob : Ob} {K : AEx → Tm → Ob → Prop}
theorem c_true {c : Opd} {x y : AC} (hc : c.ev tm = .fv (.bool true)) (h : AP P Y kb x K tm ob) : AP P Y kb (.cond c x y) K tm ob := by
  simp only [AW_eq, AD_eq, AP_eq] at *
  exact Raw.c_true hc h
theorem c_false {c : Opd} {x y : AC} (hc : c.ev tm = .fv (.bool false)) (h : AP P Y kb y K tm ob) : AP P Y kb (.cond c x y) K tm ob := by
  simp only [AW_eq, AD_eq, AP_eq] at *
  exact Raw.c_false hc h
theorem w_seq {a b : AC} (h : ∀ K1 : AEx → Tm → Ob → Prop, (∀ tm ob, AP P Y kb b K tm ob → K1 .normal tm ob) → (∀ id tm ob, K (.exit id) tm ob → K1 (.exit id) tm ob) → (∀ tm ob, K .ret tm ob → K1 .ret tm ob) → AP P Y kb a K1 tm ob) : AP P Y kb (.seq a b) K tm ob := by
  simp only [AW_eq, AD_eq, AP_eq] at *
  exact Raw.w_seq h
theorem w_skip (h : K .normal tm ob) : AP P Y kb .skip K tm ob := by
  simp only [AW_eq, AD_eq, AP_eq] at *
  exact Raw.w_skip h
theorem w_ret (h : K .ret tm ob) : AP P Y kb .ret K tm ob := by
  simp only [AW_eq, AD_eq, AP_eq] at *
  exact Raw.w_ret h
theorem w_exit {id : Nat} (h : K (.exit id) tm ob) : AP P Y kb (.exit id) K tm ob := by
  simp only [AW_eq, AD_eq, AP_eq] at *
  exact Raw.w_exit h
theorem w_region {L : List AI} (h : ∀ K1 : Tm → Ob → Prop, (∀ tm ob, K .normal tm ob → K1 tm ob) → AW P Y kb L K1 tm ob) : AP P Y kb (.region L) K tm ob := by
  simp only [AW_eq, AD_eq, AP_eq] at *
  exact Raw.w_region h
theorem w_draw {t : DT} (h : ∀ K1 : Tm → Ob → Prop, (∀ tm ob, K .normal tm ob → K1 tm ob) → AD P Y kb K1 t tm ob) : AP P Y kb (.draw t) K tm ob := by
  simp only [AW_eq, AD_eq, AP_eq] at *
  exact Raw.w_draw h
theorem w_cond {c : Opd} {x y : AC} {b : Bool} (hc : c.ev tm = .fv (.bool b)) (hx : b = true → AP P Y kb x K tm ob) (hy : b = false → AP P Y kb y K tm ob) : AP P Y kb (.cond c x y) K tm ob := by
  simp only [AW_eq, AD_eq, AP_eq] at *
  exact Raw.w_cond hc hx hy
theorem w_block {id : Nat} {b : AC} (h : ∀ K1 : AEx → Tm → Ob → Prop, (∀ tm ob, K .normal tm ob → K1 .normal tm ob) → (∀ tm ob, K .normal tm ob → K1 (.exit id) tm ob) → (∀ i tm ob, i ≠ id → K (.exit i) tm ob → K1 (.exit i) tm ob) → (∀ tm ob, K .ret tm ob → K1 .ret tm ob) → AP P Y kb b K1 tm ob) : AP P Y kb (.block id b) K tm ob := by
  simp only [AW_eq, AD_eq, AP_eq] at *
  exact Raw.w_block h
theorem w_loop {b : AC} (I : Nat → Tm → Ob → Prop) {n : Nat} (h0 : I n tm ob) (h : ∀ n tm ob, I n tm ob → ∀ K1 : AEx → Tm → Ob → Prop, (∀ n' tm ob, n' < n → I n' tm ob → K1 .normal tm ob) → (∀ id tm ob, K (.exit id) tm ob → K1 (.exit id) tm ob) → (∀ tm ob, K .ret tm ob → K1 .ret tm ob) → AP P Y kb b K1 tm ob) : AP P Y kb (.loop b) K tm ob := by
  simp only [AW_eq, AD_eq, AP_eq] at *
  exact Raw.w_loop I h0 h
theorem w_gh {g : Gst} {c : AC} (h : ghostP g tm ob fun tm ob => AP P Y kb c K tm ob) : AP P Y kb (.gh g c) K tm ob := by
  simp only [AW_eq, AD_eq, AP_eq] at *
  exact Raw.w_gh h
end
section
variable {P : Program} {Y : YT} {kb : Nat} {tm : Tm} {ob : Ob} {K : Tm → Ob → Prop} {r : List AI}
theorem o_nil (h : K tm ob) : AW P Y kb [] K tm ob := by
  simp only [AW_eq, AD_eq, AP_eq] at *
  exact Raw.o_nil h
theorem o_op {d : Option Nat} {tk : Bool} {o : AOp} (h : ∀ e q : Nat, stepOp o tm (oget ob) (keyOf kb d) e (if tk then some q else none) fun v upd new del => AW P Y kb r K (putD d v tm) (obAfter ob (keyOf kb d) e upd new del)) : AW P Y kb (.op d none tk o :: r) K tm ob := by
  simp only [AW_eq, AD_eq, AP_eq] at *
  exact Raw.o_op h
theorem o_opg {d : Option Nat} {t : Nat} {b b' : Bool} {tk : Bool} {o : AOp} (hg : tget tm t = .fv (.bool b')) (h : b' = b → ∀ e q : Nat, stepOp o tm (oget ob) (keyOf kb d) e (if tk then some q else none) fun v upd new del => AW P Y kb r K (putD d v tm) (obAfter ob (keyOf kb d) e upd new del))
    (hs : b' ≠ b → AW P Y kb r K (skipD d tm) ob) : AW P Y kb (.op d (some (t, b)) tk o :: r) K tm ob := by
  simp only [AW_eq, AD_eq, AP_eq] at *
  exact Raw.o_opg hg h hs
end
section
variable {P : Program} {Y : YT} {kb : Nat} {tm : Tm} {ob : Ob} {K : Tm → Ob → Prop} {r : List AI} {d : Option Nat} {tk : Bool} {x y : Opd}
theorem o_gt {t : Nat} {b : Bool} {o : AOp} (hg : tget tm t = .fv (.bool b)) (h : AW P Y kb (.op d none tk o :: r) K tm ob) : AW P Y kb (.op d (some (t, b)) tk o :: r) K tm ob := by
  simp only [AW_eq, AD_eq, AP_eq] at *
  exact Raw.o_gt hg h
theorem o_gs {t : Nat} {b b' : Bool} {o : AOp} (hg : tget tm t = .fv (.bool b')) (hn : (b' == b) = false) (h : AW P Y kb r K (skipD d tm) ob) : AW P Y kb (.op d (some (t, b)) tk o :: r) K tm ob := by
  simp only [AW_eq, AD_eq, AP_eq] at *
  exact Raw.o_gs hg hn h
theorem o_cgt {t : Nat} {b : Bool} {f : Opd} {as : List Opd} (hg : tget tm t = .fv (.bool b)) (h : AW P Y kb (.call d none f as :: r) K tm ob) : AW P Y kb (.call d (some (t, b)) f as :: r) K tm ob := by
  simp only [AW_eq, AD_eq, AP_eq] at *
  exact Raw.o_cgt hg h
theorem o_cgs {t : Nat} {b b' : Bool} {f : Opd} {as : List Opd} (hg : tget tm t = .fv (.bool b')) (hn : (b' == b) = false) (h : AW P Y kb r K (skipD d tm) ob) : AW P Y kb (.call d (some (t, b)) f as :: r) K tm ob := by
  simp only [AW_eq, AD_eq, AP_eq] at *
  exact Raw.o_cgs hg hn h
theorem o_call {n : FuncId} {f : Opd} {as : List Opd} (hf : f.ev tm = .fv (.func n)) (h : FnA P Y n (as.map (·.ev tm)) ob fun v ob' => AW P Y kb r K (putD d v tm) ob') : AW P Y kb (.call d none f as :: r) K tm ob := by
  simp only [AW_eq, AD_eq, AP_eq] at *
  exact Raw.o_call hf h
theorem o_callc {n : FuncId} {f : Opd} {as : List Opd} {first caps : List AV} (hf : f.ev tm = .clo n first caps) (h : FnA P Y n (first ++ as.map (·.ev tm) ++ caps) ob fun v ob' => AW P Y kb r K (putD d v tm) ob') : AW P Y kb (.call d none f as :: r) K tm ob := by
  simp only [AW_eq, AD_eq, AP_eq] at *
  exact Raw.o_callc hf h
theorem o_callp {n : FuncId} {f : Opd} {as : List Opd} {v : AV} (hf : f.ev tm = .fv (.func n)) (hp : PureA P n (as.map (·.ev tm)) v) (h : AW P Y kb r K (putD d v tm) ob) : AW P Y kb (.call d none f as :: r) K tm ob := by
  simp only [AW_eq, AD_eq, AP_eq] at *
  exact Raw.o_callp hf hp h
theorem o_callcp {n : FuncId} {f : Opd} {as : List Opd} {first caps : List AV} {v : AV} (hf : f.ev tm = .clo n first caps) (hp : PureA P n (first ++ as.map (·.ev tm) ++ caps) v) (h : AW P Y kb r K (putD d v tm) ob) : AW P Y kb (.call d none f as :: r) K tm ob := by
  simp only [AW_eq, AD_eq, AP_eq] at *
  exact Raw.o_callcp hf hp h
theorem o_gh {g : Gst} (h : ghostP g tm ob fun tm ob => AW P Y kb r K tm ob) : AW P Y kb (.gh g :: r) K tm ob := by
  simp only [AW_eq, AD_eq, AP_eq] at *
  exact Raw.o_gh h
theorem o_dec {p : Prop} [Decidable p] (h1 : p → AW P Y kb r K (putD d (.fv (.bool true)) tm) ob) (h2 : ¬ p → AW P Y kb r K (putD d (.fv (.bool false)) tm) ob) : AW P Y kb r K (putD d (.fv (.bool (decide p))) tm) ob := by
  simp only [AW_eq, AD_eq, AP_eq] at *
  exact Raw.o_dec h1 h2
theorem o_bool {b : Bool} (h1 : b = true → AW P Y kb r K (putD d (.fv (.bool true)) tm) ob) (h2 : b = false → AW P Y kb r K (putD d (.fv (.bool false)) tm) ob) : AW P Y kb r K (putD d (.fv (.bool b)) tm) ob := by
  simp only [AW_eq, AD_eq, AP_eq] at *
  exact Raw.o_bool h1 h2
theorem o_lss {k k' : IntKind} {a b : Int} (hx : x.ev tm = .fv (.int k a)) (hy : y.ev tm = .fv (.int k' b)) (hk : (k == k') = true) (h1 : a < b → AW P Y kb r K (putD d (.fv (.bool true)) tm) ob) (h2 : ¬ (a < b) → AW P Y kb r K (putD d (.fv (.bool false)) tm) ob) :
    AW P Y kb (.op d none tk (.bin .lss x y) :: r) K tm ob := by
  simp only [AW_eq, AD_eq, AP_eq] at *
  exact Raw.o_lss hx hy hk h1 h2
theorem o_leq {k k' : IntKind} {a b : Int} (hx : x.ev tm = .fv (.int k a)) (hy : y.ev tm = .fv (.int k' b)) (hk : (k == k') = true) (h1 : a ≤ b → AW P Y kb r K (putD d (.fv (.bool true)) tm) ob) (h2 : ¬ (a ≤ b) → AW P Y kb r K (putD d (.fv (.bool false)) tm) ob) :
    AW P Y kb (.op d none tk (.bin .leq x y) :: r) K tm ob := by
  simp only [AW_eq, AD_eq, AP_eq] at *
  exact Raw.o_leq hx hy hk h1 h2
theorem o_gtr {k k' : IntKind} {a b : Int} (hx : x.ev tm = .fv (.int k a)) (hy : y.ev tm = .fv (.int k' b)) (hk : (k == k') = true) (h1 : a > b → AW P Y kb r K (putD d (.fv (.bool true)) tm) ob) (h2 : ¬ (a > b) → AW P Y kb r K (putD d (.fv (.bool false)) tm) ob) :
    AW P Y kb (.op d none tk (.bin .gtr x y) :: r) K tm ob := by
  simp only [AW_eq, AD_eq, AP_eq] at *
  exact Raw.o_gtr hx hy hk h1 h2
theorem o_geq {k k' : IntKind} {a b : Int} (hx : x.ev tm = .fv (.int k a)) (hy : y.ev tm = .fv (.int k' b)) (hk : (k == k') = true) (h1 : a ≥ b → AW P Y kb r K (putD d (.fv (.bool true)) tm) ob) (h2 : ¬ (a ≥ b) → AW P Y kb r K (putD d (.fv (.bool false)) tm) ob) :
    AW P Y kb (.op d none tk (.bin .geq x y) :: r) K tm ob := by
  simp only [AW_eq, AD_eq, AP_eq] at *
  exact Raw.o_geq hx hy hk h1 h2
theorem o_eql {k k' : IntKind} {a b : Int} (hx : x.ev tm = .fv (.int k a)) (hy : y.ev tm = .fv (.int k' b)) (hk : (k == k') = true) (h1 : a = b → AW P Y kb r K (putD d (.fv (.bool true)) tm) ob) (h2 : ¬ (a = b) → AW P Y kb r K (putD d (.fv (.bool false)) tm) ob) :
    AW P Y kb (.op d none tk (.bin .eql x y) :: r) K tm ob := by
  simp only [AW_eq, AD_eq, AP_eq] at *
  exact Raw.o_eql hx hy hk h1 h2
theorem o_neq {k k' : IntKind} {a b : Int} (hx : x.ev tm = .fv (.int k a)) (hy : y.ev tm = .fv (.int k' b)) (hk : (k == k') = true) (h1 : a ≠ b → AW P Y kb r K (putD d (.fv (.bool true)) tm) ob) (h2 : ¬ (a ≠ b) → AW P Y kb r K (putD d (.fv (.bool false)) tm) ob) :
    AW P Y kb (.op d none tk (.bin .neq x y) :: r) K tm ob := by
  simp only [AW_eq, AD_eq, AP_eq] at *
  exact Raw.o_neq hx hy hk h1 h2
end
section
variable {P : Program} {Y : YT} {kb : Nat} {tm : Tm} {ob : Ob} {K : Tm → Ob → Prop} {t r : DT} {d : Option Nat} {tk : Bool}
theorem d_done (h : K tm ob) : AD P Y kb K .done tm ob := by
  simp only [AW_eq, AD_eq, AP_eq] at *
  exact Raw.d_done h
theorem d_stop : AD P Y kb K .stop tm ob := by
  simp only [AW_eq, AD_eq, AP_eq] at *
  exact Raw.d_stop 
theorem d_fst {o : AOp} (h : ∃ v, stepOp o tm (oget ob) 0 0 none (fun v' u n dl => v' = v ∧ u = none ∧ n = none ∧ dl = none) ∧ AD P Y kb K t (putD d v tm) ob) : AD P Y kb K (.fst (.op d none tk o) t) tm ob := by
  simp only [AW_eq, AD_eq, AP_eq] at *
  exact Raw.d_fst h
theorem d_fst_gt {s : Nat} {b : Bool} {o : AOp} (hg : tget tm s = .fv (.bool b)) (h : AD P Y kb K (.fst (.op d none tk o) t) tm ob) : AD P Y kb K (.fst (.op d (some (s, b)) tk o) t) tm ob := by
  simp only [AW_eq, AD_eq, AP_eq] at *
  exact Raw.d_fst_gt hg h
theorem d_fst_gs {s : Nat} {b b' : Bool} {o : AOp} (hg : tget tm s = .fv (.bool b')) (hn : (b' == b) = false) (h : AD P Y kb K t (skipD d tm) ob) : AD P Y kb K (.fst (.op d (some (s, b)) tk o) t) tm ob := by
  simp only [AW_eq, AD_eq, AP_eq] at *
  exact Raw.d_fst_gs hg hn h
theorem d_main {ld : List Opd} {o : AOp} (h : ∀ e, stepOp o tm (oget ob) (keyOf kb d) e none fun v u n dl => stab ld tm ob (obAfter ob (keyOf kb d) e u n dl) ∧ AD P Y kb K t (putD d v tm) (obAfter ob (keyOf kb d) e u n dl)) (hr : AD P Y kb K r tm ob) :
    AD P Y kb K (.main ld (.op d none tk o) t r) tm ob := by
  simp only [AW_eq, AD_eq, AP_eq] at *
  exact Raw.d_main h hr
theorem d_call {ld : List Opd} {n : FuncId} {f : Opd} {as : List Opd} (hf : f.ev tm = .fv (.func n)) (h : FnA P Y n (as.map (·.ev tm)) ob fun v ob' => stab ld tm ob ob' ∧ AD P Y kb K t (putD d v tm) ob') (hr : AD P Y kb K r tm ob) :
    AD P Y kb K (.main ld (.call d none f as) t r) tm ob := by
  simp only [AW_eq, AD_eq, AP_eq] at *
  exact Raw.d_call hf h hr
theorem d_callp {ld : List Opd} {n : FuncId} {f : Opd} {as : List Opd} {v : AV} (hf : f.ev tm = .fv (.func n)) (hp : PureA P n (as.map (·.ev tm)) v) (h : AD P Y kb K t (putD d v tm) ob) (hr : AD P Y kb K r tm ob) :
    AD P Y kb K (.main ld (.call d none f as) t r) tm ob := by
  simp only [AW_eq, AD_eq, AP_eq] at *
  exact Raw.d_callp hf hp h hr
theorem stab_refl (ld : List Opd) (tm : Tm) (ob : Ob) : stab ld tm ob ob := fun p _ => peq_refl _ _
end
section
variable {P : Program} {Y : YT} {kb : Nat} {tm : Tm} {ob : Ob} {K : AEx → Tm → Ob → Prop} {K' : Tm → Ob → Prop} {i id n : Nat} {I : Nat → Tm → Ob → Prop}
theorem s_seq {a b : AC} (h : AP P Y kb a (seqK (AP P Y kb b K) K) tm ob) : AP P Y kb (.seq a b) K tm ob := by
  simp only [AW_eq, AD_eq, AP_eq] at *
  exact Raw.s_seq h
theorem s_region {L : List AI} (h : AW P Y kb L (K .normal) tm ob) : AP P Y kb (.region L) K tm ob := by
  simp only [AW_eq, AD_eq, AP_eq] at *
  exact Raw.s_region h
theorem s_draw {t : DT} (h : AD P Y kb (K .normal) t tm ob) : AP P Y kb (.draw t) K tm ob := by
  simp only [AW_eq, AD_eq, AP_eq] at *
  exact Raw.s_draw h
theorem s_block {b : AC} (h : AP P Y kb b (blkK id K) tm ob) : AP P Y kb (.block id b) K tm ob := by
  simp only [AW_eq, AD_eq, AP_eq] at *
  exact Raw.s_block h
theorem s_loop {b : AC} (I : Nat → Tm → Ob → Prop) (n : Nat) (h0 : I n tm ob) (h : ∀ n tm ob, I n tm ob → AP P Y kb b (loopK I n K) tm ob) : AP P Y kb (.loop b) K tm ob := by
  simp only [AW_eq, AD_eq, AP_eq] at *
  exact Raw.s_loop I n h0 h
theorem e_seqn (h : K' tm ob) : seqK K' K .normal tm ob := h
theorem e_seqx (h : K (.exit id) tm ob) : seqK K' K (.exit id) tm ob := h
theorem e_seqr (h : K .ret tm ob) : seqK K' K .ret tm ob := h
theorem e_blkn (h : K .normal tm ob) : blkK id K .normal tm ob := h
theorem e_blkx (h : K .normal tm ob) : blkK id K (.exit id) tm ob := by simp only [blkK, if_true]; exact h
theorem e_blky (hi : (i == id) = false) (h : K (.exit i) tm ob) : blkK id K (.exit i) tm ob := by
  have : i ≠ id := by simpa using hi
  simp only [blkK, if_neg this]; exact h
theorem e_blkr (h : K .ret tm ob) : blkK id K .ret tm ob := h
theorem e_loopn (n' : Nat) (hn : n' < n) (h : I n' tm ob) : loopK I n K .normal tm ob := ⟨n', hn, h⟩
theorem e_loopx (h : K (.exit id) tm ob) : loopK I n K (.exit id) tm ob := h
theorem e_loopr (h : K .ret tm ob) : loopK I n K .ret tm ob := h
end
section
variable {rs : List ARes} {ks : Option (List Nat)} {K : AV → Ob → Prop} {tm : Tm} {ob : Ob}
theorem e_endn (h : resP rs tm ob fun vs => K (one vs) (match ks with | none => ob | some ks => okeep ob ks)) : endK rs ks K .normal tm ob := h
theorem e_endr (h : resP rs tm ob fun vs => K (one vs) (match ks with | none => ob | some ks => okeep ob ks)) : endK rs ks K .ret tm ob := h
end
section
variable {P : Program} {Y : YT} {kb : Nat} {tm : Tm} {ob : Ob} {K : Tm → Ob → Prop} {t r : DT} {d : Option Nat} {tk : Bool} {x y : Opd}
theorem d_main_gt {ld : List Opd} {s : Nat} {b : Bool} {o : AOp} (hg : tget tm s = .fv (.bool b)) (h : AD P Y kb K (.main ld (.op d none tk o) t r) tm ob) : AD P Y kb K (.main ld (.op d (some (s, b)) tk o) t r) tm ob := by
  simp only [AW_eq, AD_eq, AP_eq] at *
  exact Raw.d_main_gt hg h
theorem d_main_gs {ld : List Opd} {s : Nat} {b b' : Bool} {o : AOp} (hg : tget tm s = .fv (.bool b')) (hn : (b' == b) = false) (h : AD P Y kb K t (skipD d tm) ob) (hr : AD P Y kb K r tm ob) : AD P Y kb K (.main ld (.op d (some (s, b)) tk o) t r) tm ob := by
  simp only [AW_eq, AD_eq, AP_eq] at *
  exact Raw.d_main_gs hg hn h hr
theorem d_call_gt {ld : List Opd} {s : Nat} {b : Bool} {f : Opd} {as : List Opd} (hg : tget tm s = .fv (.bool b)) (h : AD P Y kb K (.main ld (.call d none f as) t r) tm ob) : AD P Y kb K (.main ld (.call d (some (s, b)) f as) t r) tm ob := by
  simp only [AW_eq, AD_eq, AP_eq] at *
  exact Raw.d_call_gt hg h
theorem d_call_gs {ld : List Opd} {s : Nat} {b b' : Bool} {f : Opd} {as : List Opd} (hg : tget tm s = .fv (.bool b')) (hn : (b' == b) = false) (h : AD P Y kb K t (skipD d tm) ob) (hr : AD P Y kb K r tm ob) : AD P Y kb K (.main ld (.call d (some (s, b)) f as) t r) tm ob := by
  simp only [AW_eq, AD_eq, AP_eq] at *
  exact Raw.d_call_gs hg hn h hr
theorem d_dec {p : Prop} [Decidable p] (h1 : p → AD P Y kb K t (putD d (.fv (.bool true)) tm) ob) (h2 : ¬ p → AD P Y kb K t (putD d (.fv (.bool false)) tm) ob) : AD P Y kb K t (putD d (.fv (.bool (decide p))) tm) ob := by
  simp only [AW_eq, AD_eq, AP_eq] at *
  exact Raw.d_dec h1 h2
theorem d_lss {k k' : IntKind} {a b : Int} (hx : x.ev tm = .fv (.int k a)) (hy : y.ev tm = .fv (.int k' b)) (hk : (k == k') = true) (h1 : a < b → AD P Y kb K t (putD d (.fv (.bool true)) tm) ob) (h2 : ¬ (a < b) → AD P Y kb K t (putD d (.fv (.bool false)) tm) ob) :
    AD P Y kb K (.fst (.op d none tk (.bin .lss x y)) t) tm ob := by
  simp only [AW_eq, AD_eq, AP_eq] at *
  exact Raw.d_lss hx hy hk h1 h2
theorem d_leq {k k' : IntKind} {a b : Int} (hx : x.ev tm = .fv (.int k a)) (hy : y.ev tm = .fv (.int k' b)) (hk : (k == k') = true) (h1 : a ≤ b → AD P Y kb K t (putD d (.fv (.bool true)) tm) ob) (h2 : ¬ (a ≤ b) → AD P Y kb K t (putD d (.fv (.bool false)) tm) ob) :
    AD P Y kb K (.fst (.op d none tk (.bin .leq x y)) t) tm ob := by
  simp only [AW_eq, AD_eq, AP_eq] at *
  exact Raw.d_leq hx hy hk h1 h2
theorem d_gtr {k k' : IntKind} {a b : Int} (hx : x.ev tm = .fv (.int k a)) (hy : y.ev tm = .fv (.int k' b)) (hk : (k == k') = true) (h1 : a > b → AD P Y kb K t (putD d (.fv (.bool true)) tm) ob) (h2 : ¬ (a > b) → AD P Y kb K t (putD d (.fv (.bool false)) tm) ob) :
    AD P Y kb K (.fst (.op d none tk (.bin .gtr x y)) t) tm ob := by
  simp only [AW_eq, AD_eq, AP_eq] at *
  exact Raw.d_gtr hx hy hk h1 h2
theorem d_geq {k k' : IntKind} {a b : Int} (hx : x.ev tm = .fv (.int k a)) (hy : y.ev tm = .fv (.int k' b)) (hk : (k == k') = true) (h1 : a ≥ b → AD P Y kb K t (putD d (.fv (.bool true)) tm) ob) (h2 : ¬ (a ≥ b) → AD P Y kb K t (putD d (.fv (.bool false)) tm) ob) :
    AD P Y kb K (.fst (.op d none tk (.bin .geq x y)) t) tm ob := by
  simp only [AW_eq, AD_eq, AP_eq] at *
  exact Raw.d_geq hx hy hk h1 h2
theorem d_eql {k k' : IntKind} {a b : Int} (hx : x.ev tm = .fv (.int k a)) (hy : y.ev tm = .fv (.int k' b)) (hk : (k == k') = true) (h1 : a = b → AD P Y kb K t (putD d (.fv (.bool true)) tm) ob) (h2 : ¬ (a = b) → AD P Y kb K t (putD d (.fv (.bool false)) tm) ob) :
    AD P Y kb K (.fst (.op d none tk (.bin .eql x y)) t) tm ob := by
  simp only [AW_eq, AD_eq, AP_eq] at *
  exact Raw.d_eql hx hy hk h1 h2
theorem d_neq {k k' : IntKind} {a b : Int} (hx : x.ev tm = .fv (.int k a)) (hy : y.ev tm = .fv (.int k' b)) (hk : (k == k') = true) (h1 : a ≠ b → AD P Y kb K t (putD d (.fv (.bool true)) tm) ob) (h2 : ¬ (a ≠ b) → AD P Y kb K t (putD d (.fv (.bool false)) tm) ob) :
    AD P Y kb K (.fst (.op d none tk (.bin .neq x y)) t) tm ob := by
  simp only [AW_eq, AD_eq, AP_eq] at *
  exact Raw.d_neq hx hy hk h1 h2
end
section
variable {P : Program} {Y : YT} {kb : Nat} {tm : Tm} {ob : Ob}
theorem o_bin {K : Tm → Ob → Prop} {r : List AI} {d : Option Nat} {g : Option (Nat × Bool)} {tk : Bool} {op : BinOp} {x y : Opd} (h : AW P Y kb (.op d g tk (.bin op x y) :: r) K tm ob) : AW P Y kb (.op d g tk (.bin op x y) :: r) K tm ob := by
  simp only [AW_eq, AD_eq, AP_eq] at *
  exact Raw.o_bin h
theorem d_bin {K : Tm → Ob → Prop} {t : DT} {d : Option Nat} {g : Option (Nat × Bool)} {tk : Bool} {op : BinOp} {x y : Opd} (h : AD P Y kb K (.fst (.op d g tk (.bin op x y)) t) tm ob) : AD P Y kb K (.fst (.op d g tk (.bin op x y)) t) tm ob := by
  simp only [AW_eq, AD_eq, AP_eq] at *
  exact Raw.d_bin h
end
theorem o_eqnil {P : Program} {Y : YT} {kb : Nat} {tm : Tm} {ob : Ob} {K : Tm → Ob → Prop} {r : List AI} {d : Nat} {x : Opd} {cap : Option Nat} {xs : List (List FV)} (hx : x.ev tm = .fv (.sl none cap xs))
    (h1 : xs = [] → AW P Y kb r K (tput tm d (.fv (.bool true))) ob) (h2 : AW P Y kb r K (tput tm d (.fv (.bool false))) ob) : AW P Y kb (.op (some d) none false (.eqNil 0 false x) :: r) K tm ob := by
  refine o_op fun e q => ?_
  simp only [stepOp, hx, eqNilP]
  intro b hb
  cases b with
  | true => exact h1 (List.length_eq_zero_iff.1 (hb rfl))
  | false => exact h2
/-! ### Loops of a known number of rounds -/
def loopU (J : Tm → Ob → Prop) (K : AEx → Tm → Ob → Prop) : AEx → Tm → Ob → Prop
  | .normal => J
  | e => K e
def An (P : Program) (Y : YT) (kb : Nat) (b : AC) (K : AEx → Tm → Ob → Prop) : Nat → Tm → Ob → Prop
  | 0 => fun _ _ => False
  | n + 1 => fun tm ob => An P Y kb b K n tm ob ∨ AP P Y kb b (loopU (An P Y kb b K n) K) tm ob
section
variable {P : Program} {Y : YT} {kb : Nat} {tm : Tm} {ob : Ob} {K : AEx → Tm → Ob → Prop} {b : AC} {n : Nat} {J : Tm → Ob → Prop} {id : Nat}
theorem An_iff : ∀ n, An P Y kb b K n tm ob ↔ ∃ n', n' < n ∧ AP P Y kb b (loopU (An P Y kb b K n') K) tm ob
  | 0 => ⟨fun h => h.elim, fun ⟨_, h, _⟩ => absurd h (by omega)⟩
  | n + 1 => by
    simp only [An, An_iff n]
    constructor
    · rintro (⟨n', h, h'⟩ | h)
      · exact ⟨n', by omega, h'⟩
      · exact ⟨n, by omega, h⟩
    · rintro ⟨n', h, h'⟩
      by_cases e : n' = n
      · subst e; exact .inr h'
      · exact .inl ⟨n', by omega, h'⟩
theorem s_unroll (n : Nat) (h : AP P Y kb b (loopU (An P Y kb b K n) K) tm ob) : AP P Y kb (.loop b) K tm ob := by
  refine s_loop (fun n tm ob => AP P Y kb b (loopU (An P Y kb b K n) K) tm ob) n h fun n tm ob h => ?_
  have e : loopU (An P Y kb b K n) K = loopK (fun n tm ob => AP P Y kb b (loopU (An P Y kb b K n) K) tm ob) n K := by
    funext e
    cases e with
    | normal => funext tm ob; exact propext (An_iff n)
    | _ => rfl
  rw [← e]
  exact h
theorem u_step (h : AP P Y kb b (loopU (An P Y kb b K n) K) tm ob) : An P Y kb b K (n + 1) tm ob := .inr h
theorem e_un (h : J tm ob) : loopU J K .normal tm ob := h
theorem e_ux (h : K (.exit id) tm ob) : loopU J K (.exit id) tm ob := h
theorem e_ur (h : K .ret tm ob) : loopU J K .ret tm ob := h

/-! ### Range over a function -/
/-- What a round does. -/
def RF (P : Program) (Y : YT) (kb k el : Nat) (r : Loop) (ps : List Nat) (x y : AC) (tm : Tm) : List AV → Ob → (AV → Ob → Prop) → Prop := fun as ob0 K0 =>
  as.length = ps.length ∧ oget ob0 (kb + 950 + k) = some (el, .lp r) ∧ AP P Y kb x (rndA (kb + 950 + k) el r (AP P Y kb y (rndB (kb + 950 + k) el r K0))) (tputs tm ps as) ob0
theorem s_rangeF {k : Nat} {f : Opd} {ps : List Nat} {x y : AC} {fn : FuncId} {first caps : List AV} (hc : callTo (f.ev tm) = some (fn, first, caps))
    (h : ∀ (el : Nat) (r : Loop), FnA P (addY Y el (RF P Y kb k el r ps x y tm)) fn (first ++ [.yld (kb + 950 + k) el] ++ caps) (oset ob (kb + 950 + k) el (.lp r)) (endF (kb + 950 + k) el r tm K)) : AP P Y kb (.rangeF k f ps x y) K tm ob := by
  refine ⟨fn, first, caps, hc, fun el r => ?_⟩
  have h1 := h el r
  unfold RF at h1
  simp only [AP_eq] at h1
  exact h1
theorem o_yld {k el : Nat} {d : Option Nat} {f : Opd} {as : List Opd} {R : List AV → Ob → (AV → Ob → Prop) → Prop} {r : List AI} {K : Tm → Ob → Prop} (hf : f.ev tm = .yld k el)
    (h : R (as.map (·.ev tm)) ob fun v ob' => AW P (addY Y el R) kb r K (putD d v tm) ob') : AW P (addY Y el R) kb (.call d none f as :: r) K tm ob := by
  refine ⟨?_⟩
  simp only [AW_eq] at h
  simp only [awpOps, guardP, callP, hf]
  exact .inl ⟨rfl, h⟩
theorem rf_go {k el : Nat} {r : Loop} {ps : List Nat} {x y : AC} {as : List AV} {ob0 : Ob} {K0 : AV → Ob → Prop} (h1 : as.length = ps.length) (h2 : oget ob0 (kb + 950 + k) = some (el, .lp r))
    (h : AP P Y kb x (rndA (kb + 950 + k) el r (AP P Y kb y (rndB (kb + 950 + k) el r K0))) (tputs tm ps as) ob0) : RF P Y kb k el r ps x y tm as ob0 K0 := ⟨h1, h2, h⟩
theorem r_an {kl el : Nat} {r : Loop} {B : Tm → Ob → Prop} (h1 : oget ob kl = some (el, .lp r)) (h : B tm (oset ob kl el (.lp (busyL r)))) : rndA kl el r B .normal tm ob := ⟨h1, h⟩
theorem r_bn {kl el : Nat} {r : Loop} {K0 : AV → Ob → Prop} (h1 : oget ob kl = some (el, .lp (busyL r))) (h : K0 (.fv (.bool true)) (oset ob kl el (.lp r))) : rndB kl el r K0 .normal tm ob := ⟨h1, h⟩
theorem r_bx {kl el : Nat} {r : Loop} {K0 : AV → Ob → Prop} (h1 : oget ob kl = some (el, .lp (busyL r))) (h : K0 (.fv (.bool false)) (oset ob kl el (.lp (doneL r (.exit id))))) : rndB kl el r K0 (.exit id) tm ob := ⟨h1, h⟩
theorem r_br {kl el : Nat} {r : Loop} {K0 : AV → Ob → Prop} (h1 : oget ob kl = some (el, .lp (busyL r))) (h : K0 (.fv (.bool false)) (oset ob kl el (.lp (doneL r .ret)))) : rndB kl el r K0 .ret tm ob := ⟨h1, h⟩
theorem f_en {kl el : Nat} {r : Loop} {v : AV} (h1 : oget ob kl = some (el, .lp r)) (h : K .normal tm (odel ob kl)) : endF kl el r tm K v ob := .inl ⟨h1, h⟩
theorem f_ex {kl el : Nat} {r : Loop} {v : AV} (h1 : oget ob kl = some (el, .lp (doneL r (.exit id)))) (h : K (.exit id) tm (odel ob kl)) : endF kl el r tm K v ob := .inr ⟨.exit id, by simp, h1, h⟩
theorem f_er {kl el : Nat} {r : Loop} {v : AV} (h1 : oget ob kl = some (el, .lp (doneL r .ret))) (h : K .ret tm (odel ob kl)) : endF kl el r tm K v ob := .inr ⟨.ret, by simp, h1, h⟩
end
/-- A fact that the steps don't look at. -/
structure Hd (p : Prop) : Prop where
  out : p
/-- A drawn region of several orders: all of them end alike. -/
def drawC (t : DT) : AC := .draw t
theorem w_dseq {P : Program} {Y : YT} {kb : Nat} {tm : Tm} {ob : Ob} {K : AEx → Tm → Ob → Prop} {t : DT} {l : List Nat} {c : AC} {S : Prop}
    (h : Hd S → AD P Y kb (fun tm ob => AP P Y kb c K (tkeep tm l) ob) t tm ob) (hS : Hd S) : AP P Y kb (.seq (drawC t) (.gh (.keep l) c)) K tm ob := by
  have := h hS
  simp only [AD_eq, AP_eq] at *
  exact this
theorem ap_id {P : Program} {Y : YT} {kb : Nat} {tm : Tm} {ob : Ob} {K : AEx → Tm → Ob → Prop} {c : AC} (h : AP P Y kb c K tm ob) : AP P Y kb c K tm ob := h
theorem i64_in (n : Int) (h : -9223372036854775808 ≤ n ∧ n ≤ 9223372036854775807) : IntKind.i64.wrap n = n := by rw [IntKind.wrap_i64]; omega
theorem FnA.wk {P : Program} {Y : YT} {f : FuncId} {args : List AV} {ob : Ob} {K : AV → Ob → Prop} (h : FnA P Y f (args.map AV.wk) ob K) : FnA P Y f args ob K :=
  ⟨h.1, fun G w vs hY hR hl hv => h.2 G w vs hY hR (by simpa using hl) fun i hi => by
    simp only [List.length_map] at hi
    have := vrel_wk (hv i hi)
    simpa [List.getD_eq_getElem?_getD, List.getElem?_map, List.getElem?_eq_getElem hi] using this⟩
theorem PureA.weak {P : Program} {f : FuncId} {args args' : List AV} {r : AV} (h : PureA P f args' r) (he : args.map AV.wk = args') : PureA P f args r := ⟨fun Y => FnA.wk (by rw [he]; exact h.out Y)⟩

attribute [simp] eqAggP eqCells thas twk owk AObj.wk ghostP tkeep bndG odels tdels
theorem row4 (l : List (List FV)) (i : Nat) (a b c d : FV) : (l.map (·.map AV.fv)).set i [.fv a, .fv b, .fv c, .fv d] = (l.set i [a, b, c, d]).map (·.map AV.fv) := by simp [List.map_set]
theorem row1 (l : List (List FV)) (i : Nat) (a : FV) : (l.map (·.map AV.fv)).set i [.fv a] = (l.set i [a]).map (·.map AV.fv) := by simp [List.map_set]
theorem app1 (l : List (List FV)) (a : FV) : l.map (·.map AV.fv) ++ [[.fv a]] = (l ++ [[a]]).map (·.map AV.fv) := by simp
theorem app4 (l : List (List FV)) (a b c d : FV) : l.map (·.map AV.fv) ++ [[.fv a, .fv b, .fv c, .fv d]] = (l ++ [[a, b, c, d]]).map (·.map AV.fv) := by simp
theorem frz_map (l : List (List FV)) : frzCells (l.map (·.map AV.fv)) = some l := by
  unfold frzCells
  induction l with
  | nil => rfl
  | cons x r ih =>
    have hx : ∀ x : List FV, (x.map AV.fv).mapM FV.ofAV = some x := fun x => by
      induction x with
      | nil => rfl
      | cons y r ih => simp [FV.ofAV, ih]
    simp only [List.map_cons, List.mapM_cons, hx]
    simp [ih]
theorem frz_nil : frzCells [] = some [] := rfl
def mapOf (r : List AV) : Option (List FV) := r.mapM FV.ofAV
theorem mapOf_nil : mapOf [] = some [] := rfl
theorem mapOf_fv (x : FV) (r : List AV) : mapOf (.fv x :: r) = (mapOf r).map (x :: ·) := by
  unfold mapOf; rw [List.mapM_cons]; cases r.mapM FV.ofAV <;> rfl
theorem mapOf_map (l : List FV) : mapOf (l.map .fv) = some l := by
  induction l with
  | nil => rfl
  | cons x r ih => rw [List.map_cons, mapOf_fv, ih]; rfl
theorem mapOf_eq {r : List AV} {a : List FV} (h : mapOf r = some a) : r = a.map .fv := by
  induction r generalizing a with
  | nil => cases h; rfl
  | cons x r ih =>
    unfold mapOf at h ih
    rw [List.mapM_cons] at h
    cases x <;> first | (simp [FV.ofAV] at h; done) | skip
    rename_i y
    simp only [FV.ofAV, Option.bind_eq_bind, Option.bind_some] at h
    cases hr : r.mapM FV.ofAV with
    | none => rw [hr] at h; cases h
    | some b => rw [hr] at h; cases h; rw [ih hr]; rfl
theorem frz_cons (r : List AV) (rs : List (List AV)) : frzCells (r :: rs) = (mapOf r).bind fun a => (frzCells rs).map (a :: ·) := by
  unfold frzCells mapOf; rw [List.mapM_cons]; cases r.mapM FV.ofAV <;> cases (List.mapM (fun l : List AV => l.mapM FV.ofAV) rs) <;> rfl
theorem frz_append (a b : List (List AV)) : frzCells (a ++ b) = (frzCells a).bind fun x => (frzCells b).map (x ++ ·) := by
  induction a with
  | nil => rw [List.nil_append, frz_nil]; cases frzCells b <;> rfl
  | cons x r ih =>
    rw [List.cons_append, frz_cons, frz_cons, ih]
    cases mapOf x <;> cases frzCells r <;> cases frzCells b <;> simp
theorem frz_setc (l : List (List FV)) (i : Nat) (r : List AV) (h : (mapOf r).isSome = true) : frzCells ((l.map (·.map AV.fv)).set i r) = (mapOf r).map (l.set i ·) := by
  cases hr : mapOf r with
  | none => rw [hr] at h; cases h
  | some a => rw [mapOf_eq hr, show (l.map (·.map AV.fv)).set i (a.map .fv) = (l.set i a).map (·.map AV.fv) by rw [List.map_set], frz_map]; rfl
theorem frz_repl (n : Nat) (r : List AV) (h : (mapOf r).isSome = true) : frzCells (List.replicate n r) = (mapOf r).map (List.replicate n ·) := by
  cases hr : mapOf r with
  | none => rw [hr] at h; cases h
  | some a => rw [mapOf_eq hr, show List.replicate n (a.map AV.fv) = (List.replicate n a).map (·.map AV.fv) by rw [List.map_replicate], frz_map]; rfl
theorem frz0_fv (k e s : Nat) (xs : List (List FV)) (x : FV) : frz0 k e s xs (.fv x) = .fv x := rfl
theorem frz0_comp (k e s : Nat) (xs : List (List FV)) : frz0 k e s xs ∘ AV.fv = AV.fv := rfl
theorem frz_rows (k e s : Nat) (xs l : List (List FV)) : List.map ((fun x => List.map (frz0 k e s xs) x) ∘ fun x => List.map AV.fv x) l = List.map (fun x => List.map AV.fv x) l := by
  refine List.map_congr_left fun x _ => ?_
  simp [frz0_comp]
attribute [simp] frz0_fv frz0_comp frz_rows mapOf_nil mapOf_fv mapOf_map frz_cons frz_append frz_setc frz_repl List.take_of_length_le List.take_append
attribute [simp] frz_map frz_nil frzTm frz2 frz1 frz0 frzOb frzO
attribute [simp] stab peq
attribute [simp] putD skipD tput tdel tget Opd.ev guardP stepOp loadP storeP binP intBin oget oset odel obAfter keyOf AV.cells AV.solid splice mkv lenP capP idxAP faddP eqNilP sliceP bndP srcP appendR appendP hdLen buildCells buildRow sliceStrP mkTm resP one okeep AV.wk AV.wk1 AV.wk0 FV.wk FV.wks_eq FV.wkss_eq
end Go.Proofs.RL
