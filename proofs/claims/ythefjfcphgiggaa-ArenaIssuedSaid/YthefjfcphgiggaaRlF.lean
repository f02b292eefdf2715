/- Each operation of the model does what its abstract twin says: stores and new objects. Conditions: none. -/
import Derived.Test.YthefjfcphgiggaaRlE
set_option linter.unusedVariables false
set_option linter.unusedSimpArgs false
namespace Go.Proofs.RL

theorem splice_length {α : Type} (l : List α) (o : Nat) (cs : List α) (h : o + cs.length ≤ l.length) : (splice l o cs).length = l.length := by
  simp only [splice, List.length_append, List.length_take, List.length_drop]; omega
theorem splice_getD {α : Type} (l : List α) (o : Nat) (cs : List α) (h : o + cs.length ≤ l.length) (j : Nat) (u : α) :
    (splice l o cs).getD j u = if j < o then l.getD j u else if j < o + cs.length then cs.getD (j - o) u else l.getD j u := by
  simp only [splice, List.getD_eq_getElem?_getD, List.getElem?_append, List.length_take, List.getElem?_take, List.getElem?_drop]
  have ho : min o l.length = o := by omega
  rw [ho]
  by_cases h1 : j < o
  · simp [h1]
  · simp only [h1, if_false]
    by_cases h2 : j < o + cs.length
    · have : j - o < cs.length := by omega
      simp [h2, this]
    · have : ¬ j - o < cs.length := by omega
      simp only [h2, this, if_false]
      congr 2
      omega
theorem arr_getD {α : Type} (l : List α) (j : Nat) (u : α) : l.toArray.getD j u = l.getD j u := by simp [Array.getD, List.getD_eq_getElem?_getD, List.getElem?_eq_getElem]; split <;> simp_all
theorem list_getD {α : Type} (l : Array α) (j : Nat) (u : α) : l.toList.getD j u = l.getD j u := by rw [← arr_getD, Array.toArray_toList]

theorem rel_setRow {G : Gh} {w : World} {ob : Ob} (hR : Rel G w ob) {k e : Nat} {o x : AObj} (hk : oget ob k = some (e, o)) (ho : owns G e o) {vs : Array Value} {t : TypeId}
    (hh : w.heap[(G.ρ e).1]? = some (.cells vs t (0, 0))) (cs : Array Value) (hx : ObjOK G (w.setRow (G.ρ e).1 cs) e x) :
    Rel G (w.setRow (G.ρ e).1 cs) (oset ob k e x) ∧ Fr G w ob G (w.setRow (G.ρ e).1 cs) (oset ob k e x) ∧ (∀ e', G.dom e' → G.dom e' ∨ e' = e) :=
  rel_upd hR hk ho (fun b hb => setRow_other w _ b _ hb) (size_setRow ..) rfl rfl rfl hx (frz_setRow w _ _)

section
variable {P : Program} {o : Oper} {a : Act} {w : World} {G : Gh} {ob : Ob} {tm : Tm} {d e : Nat} {c : Option Nat} {K : Kont}

theorem run_storeAt {t : TypeId} {i : TypeInfo} (hi : P.info? t = some i) {b off : Nat} {v : Value} {cur : Array Value} {u : TypeId} (hh : w.heap[b]? = some (.cells cur u (0, 0)))
    (hs : v.cells.size = i.size) (hf : off + i.size ≤ cur.size) (h1 : ∀ x ∈ v.cells.toList, x.oneCell' = true) :
    (Instr.storeAt t (.pointer (some ⟨b, off, none⟩)) v).run P w = .ok () (w.setRow b (splice cur.toList off v.cells.toList).toArray) := by
  have hst := run_storeCells_at P b off u v.cells.toList 0 cur w hh (by simpa [hs] using hf) h1
  simp only [Nat.add_zero] at hst
  simp [Instr.storeAt, Instr.sureAddr, storeVar, run_size hi, hs, hst, splice]

theorem op_store {t : TypeId} {ag : Bool} {sz : Nat} {p x : Operand} {p' x' : Opd} (ho : o.op = .store t p x) (ht : tyAt P t = some (ag, sz)) (hp : trOpd p = some p') (hx : trOpd x = some x') (hT : TRel G tm a) (hR : Rel G w ob)
    (h : stepOp (.store sz p' x') tm (oget ob) d e c K) : Out P o a w G ob d e K := by
  have r1 := trOpd_rel hT hp
  have r2 := trOpd_rel hT hx
  obtain ⟨_, i, _, hi, _, rfl, _⟩ := tyAt_spec ht
  simp only [stepOp, storeP] at h
  obtain ⟨hlen, hsol, h⟩ := h
  obtain ⟨hcs, hcr, hc1⟩ := cells_rel r2 hsol
  have hvl : (a.eval x).cells.size = i.size := by omega
  have hvl' : (a.eval x).cells.toList.length = (x'.ev tm).cells.length := by simpa using hcs
  split at h
  · rename_i k e1 o1 hpx
    rw [hpx] at r1
    obtain ⟨hd, hv⟩ := vr_ptr r1
    split at h
    · rename_i e' cells hk
      obtain ⟨rfl, hle, h⟩ := h
      obtain ⟨_, hok⟩ := hR.obj k _ _ hk
      obtain ⟨vs, u, h1, h2, h3, h4⟩ := hok
      have hrun := run_storeAt (P := P) hi h1 hvl (by omega : o1 + i.size ≤ vs.size) hc1
      have hfit : o1 + (x'.ev tm).cells.length ≤ cells.length := by omega
      have hfit' : o1 + (a.eval x).cells.toList.length ≤ vs.toList.length := by simp only [Array.length_toList]; omega
      have hx : ObjOK G (w.setRow (G.ρ e').1 (splice vs.toList o1 (a.eval x).cells.toList).toArray) e' (.var (splice cells o1 (x'.ev tm).cells)) := by
        refine ⟨_, u, setRow_heap w _ vs _ u _ h1, ?_, fun j hj => ?_, h4⟩
        · rw [splice_length _ _ _ hfit, List.size_toArray, splice_length _ _ _ hfit', Array.length_toList]; exact h2
        · rw [splice_length _ _ _ hfit] at hj
          rw [arr_getD, splice_getD _ _ _ hfit, splice_getD _ _ _ hfit', hvl', list_getD vs, list_getD (a.eval x).cells]
          split
          · exact h3 j hj
          · split
            · exact hcr _ (by omega)
            · exact h3 j hj
      obtain ⟨g1, g2, _⟩ := rel_setRow hR hk trivial h1 _ hx
      exact ⟨.junk, some (k, e', _), none, none, .skip, undef, _, G, by simp [execOp, ho, hv, hrun], .inr ⟨rfl, rfl⟩, h, .junk _, g1, g2, fun _ h => .inl h, fun h => by cases h⟩
    · exact h.elim
  · rename_i k e1 sz' i1 f1 hpx
    rw [hpx] at r1
    obtain ⟨hd, hv⟩ := vr_eptr r1
    split at h
    · rename_i e' sz2 xs hk
      obtain ⟨rfl, rfl, hi1, hle, h⟩ := h
      obtain ⟨_, hok⟩ := hR.obj k _ _ hk
      obtain ⟨hcap, hsz, hrest⟩ := hok
      obtain ⟨vs, u, h1, h2, h3, h4⟩ := hrest (by omega)
      have hbound : i1 * sz2 + sz2 ≤ vs.size := by
        rw [h2]
        calc i1 * sz2 + sz2 = (i1 + 1) * sz2 := by rw [Nat.add_mul]; omega
          _ ≤ (G.ρ e').2 * sz2 := Nat.mul_le_mul_right _ (by omega)
      have hrun := run_storeAt (P := P) hi h1 hvl (by omega : i1 * sz2 + f1 + i.size ≤ vs.size) hc1
      have hrl := hsz i1 hi1
      have hfit : f1 + (x'.ev tm).cells.length ≤ (xs.getD i1 []).length := by omega
      have hfit' : i1 * sz2 + f1 + (a.eval x).cells.toList.length ≤ vs.toList.length := by simp only [Array.length_toList]; omega
      have hx : ObjOK G (w.setRow (G.ρ e').1 (splice vs.toList (i1 * sz2 + f1) (a.eval x).cells.toList).toArray) e' (.row sz2 (xs.set i1 (splice (xs.getD i1 []) f1 (x'.ev tm).cells))) := by
        refine ⟨by simpa using hcap, fun j hj => ?_, fun hp => ⟨_, u, setRow_heap w _ vs _ u _ h1, ?_, fun i2 j hi2 hj => ?_, h4⟩⟩
        · simp only [List.length_set] at hj
          by_cases hji : i1 = j
          · subst hji
            simp only [List.getD_eq_getElem?_getD, List.getElem?_set_self hi1, Option.getD_some]
            rw [← List.getD_eq_getElem?_getD, splice_length _ _ _ hfit]; exact hrl
          · simp only [List.getD_eq_getElem?_getD, List.getElem?_set_ne hji]
            rw [← List.getD_eq_getElem?_getD]; exact hsz j hj
        · rw [List.size_toArray, splice_length _ _ _ hfit', Array.length_toList]; exact h2
        · simp only [List.length_set] at hi2
          rw [arr_getD, splice_getD _ _ _ hfit', hvl', list_getD vs, list_getD (a.eval x).cells]
          by_cases hji : i1 = i2
          · subst hji
            have e1 : (xs.set i1 (splice (xs.getD i1 []) f1 (x'.ev tm).cells)).getD i1 [] = splice (xs.getD i1 []) f1 (x'.ev tm).cells := by
              simp only [List.getD_eq_getElem?_getD, List.getElem?_set_self hi1, Option.getD_some]
            rw [e1, splice_getD _ _ _ hfit]
            by_cases c1 : j < f1
            · have c1' : i1 * sz2 + j < i1 * sz2 + f1 := by omega
              simp only [c1, c1', if_true]; exact h3 i1 j hi1 hj
            · have c1' : ¬ i1 * sz2 + j < i1 * sz2 + f1 := by omega
              by_cases c2 : j < f1 + (x'.ev tm).cells.length
              · have c2' : i1 * sz2 + j < i1 * sz2 + f1 + (x'.ev tm).cells.length := by omega
                simp only [c1, c1', c2, c2', if_true, if_false]
                rw [show i1 * sz2 + j - (i1 * sz2 + f1) = j - f1 by omega]; exact hcr _ (by omega)
              · have c2' : ¬ i1 * sz2 + j < i1 * sz2 + f1 + (x'.ev tm).cells.length := by omega
                simp only [c1, c1', c2, c2', if_false]; exact h3 i1 j hi1 hj
          · have e1 : (xs.set i1 (splice (xs.getD i1 []) f1 (x'.ev tm).cells)).getD i2 [] = xs.getD i2 [] := by
              simp only [List.getD_eq_getElem?_getD, List.getElem?_set_ne hji]
            rw [e1]
            have hout : i2 * sz2 + j < i1 * sz2 + f1 ∨ i1 * sz2 + f1 + (x'.ev tm).cells.length ≤ i2 * sz2 + j := by
              rcases Nat.lt_or_gt_of_ne hji with hlt | hgt
              · right
                have : (i1 + 1) * sz2 ≤ i2 * sz2 := Nat.mul_le_mul_right _ hlt
                rw [Nat.add_mul] at this; omega
              · left
                have : (i2 + 1) * sz2 ≤ i1 * sz2 := Nat.mul_le_mul_right _ hgt
                rw [Nat.add_mul] at this; omega
            rcases hout with ho1 | ho1
            · rw [if_pos ho1]; exact h3 i2 j hi2 hj
            · rw [if_neg (by omega), if_neg (by omega)]; exact h3 i2 j hi2 hj
      obtain ⟨g1, g2, _⟩ := rel_setRow hR hk (show owns G e' (.row sz2 xs) from by simp only [owns]; omega) h1 _ hx
      exact ⟨.junk, some (k, e', _), none, none, .skip, undef, _, G, by simp [execOp, ho, hv, hrun], .inr ⟨rfl, rfl⟩, h, .junk _, g1, g2, fun _ h => .inl h, fun h => by cases h⟩
    · exact h.elim
  · exact h.elim

/-- A new variable. -/
theorem new_var {cells : List AV} {vs : Array Value} {t : TypeId} (hR : Rel G w ob) (he : ¬ G.dom e) (hl : vs.size = cells.length) (hc : ∀ j, j < cells.length → VRel G (cells.getD j .junk) (vs.getD j undef)) :
    Rel (G.add e w.heap.size 0) (w.alloc (.cells vs t)) (oset ob d e (.var cells)) ∧ Fr G w ob (G.add e w.heap.size 0) (w.alloc (.cells vs t)) (oset ob d e (.var cells)) ∧
      (∀ e', (G.add e w.heap.size 0).dom e' → G.dom e' ∨ e' = e) := by
  refine rel_new hR he d 0 (.var cells) vs t rfl rfl rfl rfl ?_
  have hno : ∀ j, (G.add e w.heap.size 0).F w.heap.size j = none := fun j => by
    cases hF : G.F w.heap.size j with
    | none => exact hF
    | some v => have := hR.F_lt hF; omega
  refine ⟨vs, t, ?_, hl, fun j hj => (hc j hj).mono (G.le_add he ..), ?_⟩
  · rw [Gh.add_ρ]; exact heap_alloc_new w _
  · rw [Gh.add_ρ]; exact hno

theorem op_box {t : TypeId} {x : Operand} {x' : Opd} (ho : o.op = .box t x) (hx : trOpd x = some x') (he : ¬ G.dom e) (hT : TRel G tm a) (hR : Rel G w ob)
    (h : stepOp (.box x') tm (oget ob) d e c K) : Out P o a w G ob d e K := by
  have r1 := trOpd_rel hT hx
  simp only [stepOp] at h
  obtain ⟨hsol, h⟩ := h
  obtain ⟨hcs, hcr, _⟩ := cells_rel r1 hsol
  obtain ⟨g1, g2, g3⟩ := new_var (d := d) (t := t) hR he hcs hcr
  refine ⟨.ptr d e 0, none, some _, none, _, .pointer (some ⟨w.heap.size, 0, none⟩), _, _, ?_, .inl rfl, h, ?_, g1, g2, g3, fun _ h => by cases h⟩
  · simp [execOp, ho, Instr.box, newVar, newRow]
  · have := VRel.ptr (G := G.add e w.heap.size 0) d e 0 (Gh.add_dom ..)
    rwa [Gh.add_ρ] at this

/-- A type's zero value, cell by cell. -/
def zAt (P : Program) (t : TypeId) : Option (List FV) := ((P.info? t).bind (·.zero)).bind fun v => v.cells.toList.mapM FV.ofValue
theorem mapM_ofValue {G : Gh} : ∀ {vs : List Value} {z : List FV}, vs.mapM FV.ofValue = some z → z.length = vs.length ∧ ∀ j, j < z.length → VRel G ((z.map AV.fv).getD j .junk) (vs.getD j undef)
  | [], z, h => by simp at h; subst h; simp
  | v :: vs, z, h => by
    simp only [List.mapM_cons, Option.bind_eq_bind, Option.pure_def, Option.bind_eq_some_iff] at h
    obtain ⟨x, hx, z', hz, h⟩ := h
    cases h
    obtain ⟨h1, h2⟩ := mapM_ofValue (G := G) hz
    refine ⟨by simp [h1], fun j hj => ?_⟩
    cases j with
    | zero => exact .fv _ _ (FV.ofValue_rel G.F hx)
    | succ j => simpa using h2 j (by simpa using hj)
theorem zAt_spec {t : TypeId} {z : List FV} (h : zAt P t = some z) : ∃ i v, P.info? t = some i ∧ i.zero = some v ∧ v.cells.size = z.length ∧ ∀ (G : Gh) j, j < z.length → VRel G ((z.map AV.fv).getD j .junk) (v.cells.getD j undef) := by
  unfold zAt at h
  simp only [Option.bind_eq_some_iff] at h
  obtain ⟨v, ⟨i, hi, hz⟩, h⟩ := h
  refine ⟨i, v, hi, hz, ?_, fun G j hj => ?_⟩
  · have := (mapM_ofValue (G := ⟨fun _ _ => none, fun _ => (0, 0), fun _ => False⟩) h).1; simpa using this.symm
  · have := (mapM_ofValue (G := G) h).2 j hj; rwa [list_getD v.cells] at this

theorem op_alloc {t : TypeId} {z : List FV} (ho : o.op = .alloc t) (hz : zAt P t = some z) (he : ¬ G.dom e) (hR : Rel G w ob)
    (h : stepOp (.alloc z) tm (oget ob) d e c K) : Out P o a w G ob d e K := by
  simp only [stepOp] at h
  obtain ⟨i, v, hi, hiz, hl, hr⟩ := zAt_spec hz
  obtain ⟨g1, g2, g3⟩ := new_var (d := d) (t := t) (cells := z.map AV.fv) hR he (by simpa using hl) (fun j hj => hr G j (by simpa using hj))
  refine ⟨.ptr d e 0, none, some _, none, _, .pointer (some ⟨w.heap.size, 0, none⟩), _, _, ?_, .inl rfl, h, ?_, g1, g2, g3, fun _ h => by cases h⟩
  · simp [execOp, ho, Instr.alloc, zeroValue, typeInfo, hi, hiz, newVar, newRow]
  · have := VRel.ptr (G := G.add e w.heap.size 0) d e 0 (Gh.add_dom ..)
    rwa [Gh.add_ρ] at this

theorem op_mkMap {t : TypeId} (ho : o.op = .makeMap t none) (he : ¬ G.dom e) (hR : Rel G w ob) (h : stepOp .mkMap tm (oget ob) d e c K) : Out P o a w G ob d e K := by
  simp only [stepOp] at h
  obtain ⟨g1, g2, g3⟩ := rel_newO (w' := w.alloc (.map #[] 0)) hR he d 0 (.mp []) (.map #[] 0) rfl rfl rfl rfl (by
    refine ⟨#[], 0, ?_, rfl, fun i hi => absurd hi (by simp), fun j => ?_⟩
    · rw [Gh.add_ρ]; exact heap_alloc_new w _
    · rw [Gh.add_ρ]
      cases hF : G.F w.heap.size j with
      | none => exact hF
      | some v => have := hR.F_lt hF; omega) (by intro c t f h; cases h)
  refine ⟨.mp d e, none, some _, none, _, .map (some w.heap.size), _, _, ?_, .inl rfl, h, ?_, g1, g2, g3, fun _ h => by cases h⟩
  · simp [execOp, ho, Instr.makeMap, newObj]
    rfl
  · have := VRel.mp (G := G.add e w.heap.size 0) d e (Gh.add_dom ..)
    rwa [Gh.add_ρ] at this
end
end Go.Proofs.RL
