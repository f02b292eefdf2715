/- Each operation of the model does what its abstract twin says. Conditions: none. -/
import Derived.Test.YthefjfcphgiggaaRlC
set_option linter.unusedVariables false
set_option linter.unusedSimpArgs false
namespace Go.Proofs.RL

def trOpd : Operand → Option Opd
  | .tmp t => some (.t t)
  | .const v => (FV.ofValue v).map .c
  | .func f => some (.c (.func f))
  | .global _ => none

def TRel (G : Gh) (tm : Tm) (a : Act) : Prop := ∀ t, VRel G (tget tm t) (a.tmps.getD t undef)

theorem trOpd_rel {G : Gh} {tm : Tm} {a : Act} (hT : TRel G tm a) {x : Operand} {y : Opd} (h : trOpd x = some y) : VRel G (y.ev tm) (a.eval x) := by
  cases x with
  | tmp t => cases h; exact hT t
  | const v =>
    simp only [trOpd, Option.map_eq_some_iff] at h
    obtain ⟨x, hx, rfl⟩ := h
    exact .fv x v (FV.ofValue_rel G.F hx)
  | func f => cases h; exact .fv _ _ (.func f)
  | global g => cases h

def Out (P : Program) (o : Oper) (a : Act) (w : World) (G : Gh) (ob : Ob) (d e : Nat) (K : Kont) : Prop :=
  ∃ x upd new del nx v w' G', (execOp a.eval o).run P w = .ok nx w' ∧ (nx = .value v ∨ (nx = .skip ∧ v = undef)) ∧ K x upd new del ∧ VRel G' x v ∧
    Rel G' w' (obAfter ob d e upd new del) ∧ Fr G w ob G' w' (obAfter ob d e upd new del) ∧ (∀ e', G'.dom e' → G.dom e' ∨ e' = e) ∧ (upd = none → new = none → del = none → w' = w ∧ G' = G)

section
variable {P : Program} {o : Oper} {a : Act} {w : World} {G : Gh} {ob : Ob} {tm : Tm} {d e : Nat} {c : Option Nat} {K : Kont}

theorem out_quiet {x : AV} {v : Value} (hR : Rel G w ob) (hrun : (execOp a.eval o).run P w = .ok (.value v) w) (hx : VRel G x v) (hK : K x none none none) : Out P o a w G ob d e K :=
  ⟨x, none, none, none, _, v, w, G, hrun, .inl rfl, hK, hx, hR, Fr.refl .., fun _ h => .inl h, fun _ _ _ => ⟨rfl, rfl⟩⟩

theorem vr_int {G : Gh} {k : IntKind} {n : Int} {v : Value} (h : VRel G (.fv (.int k n)) v) : v = .int k n := by cases h; rename_i h; cases h; rfl
theorem vr_bool {G : Gh} {b : Bool} {v : Value} (h : VRel G (.fv (.bool b)) v) : v = .bool b := by cases h; rename_i h; cases h; rfl
theorem vr_str {G : Gh} {s : ByteArray} {v : Value} (h : VRel G (.fv (.str s)) v) : v = .string s := by cases h; rename_i h; cases h; rfl
theorem vr_ptr {G : Gh} {k e o : Nat} {v : Value} (h : VRel G (.ptr k e o) v) : G.dom e ∧ v = .pointer (some ⟨(G.ρ e).1, o, none⟩) := by cases h; exact ⟨by assumption, rfl⟩
theorem vr_eptr {G : Gh} {k e sz i f : Nat} {v : Value} (h : VRel G (.eptr k e sz i f) v) : G.dom e ∧ v = .pointer (some ⟨(G.ρ e).1, i * sz + f, none⟩) := by cases h; exact ⟨by assumption, rfl⟩
theorem mk_int (G : Gh) (k : IntKind) (n : Int) : VRel G (.fv (.int k n)) (.int k n) := .fv _ _ (.int k n)
theorem mk_bool (G : Gh) (b : Bool) : VRel G (.fv (.bool b)) (.bool b) := .fv _ _ (.bool b)
theorem mk_str (G : Gh) (s : ByteArray) : VRel G (.fv (.str s)) (.string s) := .fv _ _ (.str s)

theorem op_mv {x : Operand} {x' : Opd} (ho : o.op = .move x ∨ o.op = .assign x) (hx : trOpd x = some x') (hT : TRel G tm a) (hR : Rel G w ob)
    (h : stepOp (.mv x') tm (oget ob) d e c K) : Out P o a w G ob d e K :=
  out_quiet (v := a.eval x) hR (by rcases ho with ho | ho <;> simp [execOp, ho]) (trOpd_rel hT hx) h

theorem op_pick {x y z : Operand} {x' y' z' : Opd} (ho : o.op = .pick x y z) (hx : trOpd x = some x') (hy : trOpd y = some y') (hz : trOpd z = some z') (hT : TRel G tm a) (hR : Rel G w ob)
    (h : stepOp (.pick x' y' z') tm (oget ob) d e c K) : Out P o a w G ob d e K := by
  have r1 := trOpd_rel hT hx
  simp only [stepOp] at h
  split at h
  · rename_i b hb
    rw [hb] at r1
    have e1 := vr_bool r1
    cases b with
    | true => exact out_quiet (v := a.eval y) hR (by simp [execOp, ho, e1, asBool]) (trOpd_rel hT hy) (h.1 rfl)
    | false => exact out_quiet (v := a.eval z) hR (by simp [execOp, ho, e1, asBool]) (trOpd_rel hT hz) (h.2 rfl)
  · exact h.elim

theorem op_not {x : Operand} {t : TypeId} {x' : Opd} (ho : o.op = .unOp .not t x) (hx : trOpd x = some x') (hT : TRel G tm a) (hR : Rel G w ob)
    (h : stepOp (.not x') tm (oget ob) d e c K) : Out P o a w G ob d e K := by
  have r1 := trOpd_rel hT hx
  simp only [stepOp] at h
  split at h
  · rename_i b hb
    rw [hb] at r1
    exact out_quiet hR (by simp [execOp, ho, vr_bool r1, Op.unary] <;> rfl) (mk_bool G _) h
  · exact h.elim
theorem op_neg {x : Operand} {t : TypeId} {x' : Opd} (ho : o.op = .unOp .neg t x) (hx : trOpd x = some x') (hT : TRel G tm a) (hR : Rel G w ob)
    (h : stepOp (.neg x') tm (oget ob) d e c K) : Out P o a w G ob d e K := by
  have r1 := trOpd_rel hT hx
  simp only [stepOp] at h
  split at h
  · rename_i k n hb
    rw [hb] at r1
    exact out_quiet hR (by simp [execOp, ho, vr_int r1, Op.unary, Op.intArith] <;> rfl) (mk_int G k _) (by simpa using h)
  · exact h.elim

theorem op_conv {x : Operand} {s t : TypeId} {k ks : IntKind} {x' : Opd} (ho : o.op = .convert s t x) (hs : P.underlying s = some (.int ks)) (ht : P.underlying t = some (.int k)) (hx : trOpd x = some x') (hT : TRel G tm a) (hR : Rel G w ob)
    (h : stepOp (.conv k x') tm (oget ob) d e c K) : Out P o a w G ob d e K := by
  have r1 := trOpd_rel hT hx
  simp only [stepOp] at h
  split at h
  · rename_i k' n hb
    rw [hb] at r1
    exact out_quiet hR (by simp [execOp, ho, vr_int r1, convert, run_underlying hs, run_underlying ht, Conv.intToInt] <;> rfl) (mk_int G k _) h
  · exact h.elim

theorem op_bin {op : BinOp} {t u : TypeId} {x y : Operand} {x' y' : Opd} (ho : o.op = .binOp op t x y u) (hx : trOpd x = some x') (hy : trOpd y = some y') (hT : TRel G tm a) (hR : Rel G w ob)
    (h : stepOp (.bin op x' y') tm (oget ob) d e c K) : Out P o a w G ob d e K := by
  have r1 := trOpd_rel hT hx
  have r2 := trOpd_rel hT hy
  simp only [stepOp, binP] at h
  split at h
  · rename_i k n k' m hb hb'
    rw [hb] at r1
    rw [hb'] at r2
    have e1 := vr_int r1
    have e2 := vr_int r2
    cases op <;> simp only [intBin] at h
    case shl | shr =>
      obtain ⟨h0, h⟩ := h
      have h0' : ¬ m < 0 := by omega
      exact out_quiet hR (by simp [execOp, ho, e1, e2, eqGuard, binOp, Op.shift, h0'] <;> rfl) (mk_int G _ _) h
    all_goals (obtain ⟨rfl, h⟩ := h)
    case quo | rem =>
      obtain ⟨h0, h⟩ := h
      exact out_quiet hR (by simp [execOp, ho, e1, e2, eqGuard, binOp, Op.intDiv, h0] <;> rfl) (mk_int G _ _) h
    case eql | neq | lss | leq | gtr | geq => exact out_quiet hR (by simp [execOp, ho, e1, e2, eqGuard, binOp, Op.intCmp] <;> rfl) (mk_bool G _) h
    case add | sub | mul | and | or | xor => exact out_quiet hR (by simp [execOp, ho, e1, e2, eqGuard, binOp, Op.intArith, Op.intBits] <;> rfl) (mk_int G _ _) h
    all_goals exact h.elim
  · rename_i s s' hb hb'
    rw [hb] at r1
    rw [hb'] at r2
    have e1 := vr_str r1
    have e2 := vr_str r2
    cases op <;> simp only [strBin] at h
    case add =>
      obtain ⟨h0, h⟩ := h
      have h1 : ¬ (9223372036854775807 < ((s.size : Int) + (s'.size : Int))) := by omega
      exact out_quiet hR (by simp [execOp, ho, e1, e2, eqGuard, binOp, Op.stringOp, h1] <;> rfl) (mk_str G _) h
    case eql | neq => exact out_quiet hR (by simp [execOp, ho, e1, e2, eqGuard, binOp, Op.stringOp] <;> rfl) (mk_bool G _) h
    all_goals exact h.elim
  · exact h.elim

theorem op_eqB {op : BinOp} {neg : Bool} (hop : op = if neg then .neq else .eql) {t u : TypeId} {x y : Operand} {x' y' : Opd} (ho : o.op = .binOp op t x y u) (ht : P.underlying t = some .bool)
    (hx : trOpd x = some x') (hy : trOpd y = some y') (hT : TRel G tm a) (hR : Rel G w ob)
    (h : stepOp (.eqB neg x' y') tm (oget ob) d e c K) : Out P o a w G ob d e K := by
  have r1 := trOpd_rel hT hx
  have r2 := trOpd_rel hT hy
  simp only [stepOp] at h
  split at h
  · rename_i b b' hb hb'
    rw [hb] at r1
    rw [hb'] at r2
    have e1 := vr_bool r1
    have e2 := vr_bool r2
    refine out_quiet hR (v := .bool (if neg then !(b == b') else b == b')) ?_ (mk_bool G _) h
    cases neg <;> simp [execOp, ho, hop, e1, e2, eqGuard, run_eql_bool w t b b' ht, run_neq_bool w t b b' ht]
  · exact h.elim

end
end Go.Proofs.RL
