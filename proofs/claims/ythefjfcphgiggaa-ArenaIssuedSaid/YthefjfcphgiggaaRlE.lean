/- Each operation of the model does what its abstract twin says: memory. Conditions: none. -/
import Derived.Test.YthefjfcphgiggaaRlD
set_option linter.unusedVariables false
set_option linter.unusedSimpArgs false
namespace Go.Proofs.RL

def aggD : TypeDesc → Bool
  | .struct _ | .array _ _ => true
  | _ => false
/-- Is a type's value an aggregate, and how many cells has it? -/
def tyAt (P : Program) (t : TypeId) : Option (Bool × Nat) :=
  match P.underlying t, P.info? t with
  | some d, some i => if aggD d || i.size == 1 then some (aggD d, i.size) else none
  | _, _ => none
theorem tyAt_spec {P : Program} {t : TypeId} {ag : Bool} {sz : Nat} (h : tyAt P t = some (ag, sz)) :
    ∃ d i, P.underlying t = some d ∧ P.info? t = some i ∧ aggD d = ag ∧ i.size = sz ∧ (ag = false → sz = 1) := by
  unfold tyAt at h
  split at h
  · rename_i d i hd hi
    split at h
    · rename_i hc
      cases h
      refine ⟨d, i, hd, hi, rfl, rfl, fun h => ?_⟩
      simpa [h] using hc
    · cases h
  · cases h
theorem run_isAgg {P : Program} {t : TypeId} {d : TypeDesc} (h : P.underlying t = some d) (w : World) : (isAgg t).run P w = .ok (aggD d) w := by
  simp only [isAgg, Sem.run_bind, run_underlying h, Result.andThen_ok]
  cases d <;> rfl
theorem run_size {P : Program} {t : TypeId} {i : TypeInfo} (h : P.info? t = some i) (w : World) : (sizeOf t).run P w = .ok i.size w := by simp [sizeOf, typeInfo, h]

theorem vrel_mkv {G : Gh} {ag : Bool} {sz : Nat} {cs : List AV} {f : Nat → Value} (hl : cs.length = sz) (h1 : ag = false → sz = 1) (hr : ∀ j, j < sz → VRel G (cs.getD j .junk) (f j)) :
    VRel G (mkv ag cs) (if ag then .agg ((List.range sz).map f).toArray else f 0) := by
  cases ag with
  | true =>
    refine .agg cs _ (by simp [hl]) fun i hi => ?_
    have hi' : i < sz := by omega
    have : (((List.range sz).map f).toArray).getD i undef = f i := by simp [Array.getD, hi']
    rw [this]
    exact hr i hi'
  | false =>
    have hs := h1 rfl
    subst hs
    have h0 := hr 0 (by omega)
    match cs, hl with
    | [x], _ => simpa [mkv] using h0

theorem run_loadVar_at {P : Program} {t : TypeId} {ag : Bool} {sz : Nat} (ht : tyAt P t = some (ag, sz)) {w : World} {b o : Nat} {f : Nat → Value}
    (hc : ∀ j, j < sz → w.cell? ⟨b, o + j, none⟩ = some (f j)) : (loadVar t ⟨b, o, none⟩).run P w = .ok (if ag then .agg ((List.range sz).map f).toArray else f 0) w := by
  obtain ⟨d, i, hd, hi, rfl, rfl, h1⟩ := tyAt_spec ht
  simp only [loadVar, Sem.run_bind, run_isAgg hd, Result.andThen_ok]
  cases hag : aggD d with
  | true =>
    have hl := run_loadCells (P := P) w ⟨b, o, none⟩ i.size f (fun j hj => by rw [addr_add]; exact hc j hj)
    simp [run_size hi, hl]
  | false =>
    have hs := h1 hag
    have h0 := hc 0 (by omega)
    simp only [Nat.add_zero] at h0
    simp [h0]

theorem vr_fptr {G : Gh} {cells : List FV} {v : Value} (h : VRel G (.fptr cells) v) : ∃ (b o : Nat) (vs : Nat → Value), v = .pointer (some ⟨b, o, none⟩) ∧
    (∀ j, j < cells.length → G.F b (o + j) = some (vs j)) ∧ (∀ j, j < cells.length → FRel G.F (cells.getD j .nilp) (vs j)) := by
  cases h with
  | fptr _ b o vs hF hR => exact ⟨b, o, vs, rfl, hF, hR⟩

theorem take_drop_getD {α : Type} (l : List α) (o n j : Nat) (x : α) (hj : j < n) : ((l.drop o).take n).getD j x = l.getD (o + j) x := by
  simp only [List.getD_eq_getElem?_getD, List.getElem?_take, if_pos hj, List.getElem?_drop]

section
variable {P : Program} {o : Oper} {a : Act} {w : World} {G : Gh} {ob : Ob} {tm : Tm} {d e : Nat} {c : Option Nat} {K : Kont}

theorem op_load {t : TypeId} {ag : Bool} {sz : Nat} {p : Operand} {p' : Opd} (ho : o.op = .load t p) (ht : tyAt P t = some (ag, sz)) (hp : trOpd p = some p') (hT : TRel G tm a) (hR : Rel G w ob)
    (h : stepOp (.load ag sz p') tm (oget ob) d e c K) : Out P o a w G ob d e K := by
  have r1 := trOpd_rel hT hp
  obtain ⟨_, _, _, _, _, _, hone⟩ := tyAt_spec ht
  simp only [stepOp, loadP] at h
  split at h
  · rename_i k e1 o1 hx
    rw [hx] at r1
    obtain ⟨hd, hv⟩ := vr_ptr r1
    split at h
    · rename_i e' cells hk
      obtain ⟨rfl, hle, h⟩ := h
      obtain ⟨_, hok⟩ := hR.obj k _ _ hk
      have hex : ∀ j, ∃ v, j < sz → w.cell? ⟨(G.ρ e').1, o1 + j, none⟩ = some v ∧ VRel G (cells.getD (o1 + j) .junk) v := fun j => by
        by_cases hj : j < sz
        · obtain ⟨v, h1, h2⟩ := var_cell hok (o1 + j) (by omega)
          exact ⟨v, fun _ => ⟨h1, h2⟩⟩
        · exact ⟨undef, fun h => absurd h hj⟩
      obtain ⟨f, hf⟩ := Classical.axiomOfChoice hex
      refine out_quiet hR (v := if ag then .agg ((List.range sz).map f).toArray else f 0) ?_ (vrel_mkv (by simp; omega) hone fun j hj => ?_) h
      · simp [execOp, ho, Instr.loadAt, hv, Instr.sureAddr, run_loadVar_at ht (fun j hj => (hf j hj).1)]
      · rw [take_drop_getD _ _ _ _ _ hj]; exact (hf j hj).2
    · exact h.elim
  · rename_i k e1 sz' i f1 hx
    rw [hx] at r1
    obtain ⟨hd, hv⟩ := vr_eptr r1
    split at h
    · rename_i e' sz2 xs hk
      obtain ⟨rfl, rfl, hi, hle, h⟩ := h
      obtain ⟨_, hok⟩ := hR.obj k _ _ hk
      have hlen := hok.2.1 i hi
      have hex : ∀ j, ∃ v, j < sz → w.cell? ⟨(G.ρ e').1, i * sz2 + f1 + j, none⟩ = some v ∧ VRel G ((xs.getD i []).getD (f1 + j) .junk) v := fun j => by
        by_cases hj : j < sz
        · obtain ⟨v, h1, h2⟩ := row_cell hok i (f1 + j) hi (by omega)
          exact ⟨v, fun _ => ⟨by rw [Nat.add_assoc]; exact h1, h2⟩⟩
        · exact ⟨undef, fun h => absurd h hj⟩
      obtain ⟨f, hf⟩ := Classical.axiomOfChoice hex
      refine out_quiet hR (v := if ag then .agg ((List.range sz).map f).toArray else f 0) ?_ (vrel_mkv (by simp only [List.length_take, List.length_drop, hlen]; omega) hone fun j hj => ?_) h
      · simp [execOp, ho, Instr.loadAt, hv, Instr.sureAddr, run_loadVar_at ht (fun j hj => (hf j hj).1)]
      · rw [take_drop_getD _ _ _ _ _ hj]; exact (hf j hj).2
    · exact h.elim
  · rename_i cells hx
    rw [hx] at r1
    obtain ⟨hle, h⟩ := h
    obtain ⟨b, off, vs, hv, hF, hRr⟩ := vr_fptr r1
    · refine out_quiet hR (v := if ag then .agg ((List.range sz).map vs).toArray else vs 0) ?_ (vrel_mkv (by simp; omega) hone fun j hj => ?_) h
      · simp [execOp, ho, Instr.loadAt, hv, Instr.sureAddr, run_loadVar_at ht (f := vs) (fun j hj => hR.fok _ _ _ (hF j (by omega)))]
      · have hj' : j < cells.length := by omega
        have := VRel.fv _ _ (hRr j hj')
        simpa [List.getD_eq_getElem?_getD, List.getElem?_map, List.getElem?_take, hj, List.getElem?_eq_getElem hj'] using this
  · exact h.elim
end
end Go.Proofs.RL
