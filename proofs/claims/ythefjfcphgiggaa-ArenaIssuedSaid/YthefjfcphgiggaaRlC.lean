/- How the objects of an abstract state live through stores and new blocks. Conditions: none. -/
import Derived.Test.YthefjfcphgiggaaRlB
import Derived.Laws.CopyRow
import Derived.Laws.Tables
import Derived.Laws.StructEq
import Derived.Laws.Small
import Derived.Laws.Pointers
set_option linter.unusedVariables false
set_option linter.unusedSimpArgs false
namespace Go.Proofs.RL

theorem frel_one {F : FMap} {x : FV} {v : Value} (h : FRel F x v) : v.oneCell' = true := by
  cases h <;> rfl
theorem frel_cells {F : FMap} {x : FV} {v : Value} (h : FRel F x v) : v.cells = #[v] := by
  cases h <;> rfl
theorem solid_one {G : Gh} {x : AV} {v : Value} (h : VRel G x v) (hs : x.solid = true) : v.oneCell' = true := by
  cases h <;> first | rfl | (simp [AV.solid] at hs; done) | (rename_i h; exact frel_one h)
theorem solid_cells {G : Gh} {x : AV} {v : Value} (h : VRel G x v) (hs : x.solid = true) : v.cells = #[v] := by
  cases h <;> first | rfl | (simp [AV.solid] at hs; done) | (rename_i h; exact frel_cells h)

theorem cells_rel {G : Gh} {x : AV} {v : Value} (h : VRel G x v) (hs : x.cells.all AV.solid = true) :
    v.cells.size = x.cells.length ∧ (∀ j, j < x.cells.length → VRel G (x.cells.getD j .junk) (v.cells.getD j undef)) ∧ (∀ u ∈ v.cells.toList, u.oneCell' = true) := by
  by_cases hx : x.solid = true
  · have hc : x.cells = [x] := by cases x <;> first | rfl | simp [AV.solid] at hx
    rw [hc, solid_cells h hx]
    refine ⟨rfl, fun j hj => ?_, fun u hu => ?_⟩
    · have : j = 0 := by simp at hj; omega
      subst this; exact h
    · simp at hu; subst hu; exact solid_one h hx
  · cases h with
    | agg cs vs hl hr =>
      refine ⟨hl, hr, fun u hu => ?_⟩
      simp only [Value.cells] at hu
      obtain ⟨i, hi, rfl⟩ := List.mem_iff_getElem.1 hu
      have hi' : i < cs.length := by simpa [hl] using hi
      have h1 := hr i hi'
      have h2 : vs.getD i undef = vs.toList[i] := by simp [Array.getD, hl, hi']
      rw [← h2]
      refine solid_one h1 ?_
      simp only [AV.cells, List.all_eq_true] at hs
      refine hs _ ?_
      rw [List.getD_eq_getElem?_getD, List.getElem?_eq_getElem hi']
      exact List.getElem_mem hi'
    | tup cs vs hl hr => simp [AV.cells, AV.solid] at hs
    | junk v => simp [AV.cells, AV.solid] at hs
    | _ => simp [AV.solid] at hx

theorem objOK_keep {G G' : Gh} {w w' : World} {e : Nat} {o : AObj} (hG : GLe G G') (hd : G.dom e) (hh : owns G e o → w'.heap[(G.ρ e).1]? = w.heap[(G.ρ e).1]?)
    (hF : owns G e o → ∀ j, G'.F (G.ρ e).1 j = G.F (G.ρ e).1 j) (h : ObjOK G w e o) : ObjOK G' w' e o := by
  cases o with
  | var cells =>
    obtain ⟨vs, t, h1, h2, h3, h4⟩ := h
    simp only [ObjOK, hG.ρ e hd]
    exact ⟨vs, t, (hh trivial).trans h1, h2, fun j hj => (h3 j hj).mono hG, fun j => (hF trivial j).trans (h4 j)⟩
  | row sz xs =>
    obtain ⟨h1, h2, h3⟩ := h
    simp only [ObjOK, hG.ρ e hd]
    refine ⟨h1, h2, fun hp => ?_⟩
    obtain ⟨vs, t, h4, h5, h6, h7⟩ := h3 hp
    exact ⟨vs, t, (hh hp).trans h4, h5, fun i j hi hj => (h6 i j hi hj).mono hG, fun j => (hF hp j).trans (h7 j)⟩
  | mp es =>
    obtain ⟨ents, cl, h1, h2, h3, h4⟩ := h
    simp only [ObjOK, hG.ρ e hd]
    exact ⟨ents, cl, (hh trivial).trans h1, h2, fun i hi => ⟨(h3 i hi).1, (h3 i hi).2.mono hG⟩, fun j => (hF trivial j).trans (h4 j)⟩
  | lp r =>
    obtain ⟨h1, h4⟩ := h
    simp only [ObjOK, hG.ρ e hd]
    exact ⟨(hh trivial).trans h1, fun j => (hF trivial j).trans (h4 j)⟩

theorem objOK_F {G : Gh} {w : World} {e : Nat} {o : AObj} (h : ObjOK G w e o) (ho : owns G e o) : ∀ j, G.F (G.ρ e).1 j = none := by
  cases o with
  | var cells => obtain ⟨_, _, _, _, _, h4⟩ := h; exact h4
  | row sz xs => obtain ⟨_, _, h3⟩ := h; obtain ⟨_, _, _, _, _, h4⟩ := h3 ho; exact h4
  | mp es => obtain ⟨_, _, _, _, _, h4⟩ := h; exact h4
  | lp r => exact h.2

theorem objOK_lt {G : Gh} {w : World} {e : Nat} {o : AObj} (h : ObjOK G w e o) (ho : owns G e o) : (G.ρ e).1 < w.heap.size := by
  cases o with
  | var cells => obtain ⟨vs, t, h1, _⟩ := h; exact (Array.getElem?_eq_some_iff.1 h1).1
  | row sz xs => obtain ⟨_, _, h3⟩ := h; obtain ⟨vs, t, h1, _⟩ := h3 ho; exact (Array.getElem?_eq_some_iff.1 h1).1
  | mp es => obtain ⟨_, _, h1, _⟩ := h; exact (Array.getElem?_eq_some_iff.1 h1).1
  | lp r => exact (Array.getElem?_eq_some_iff.1 h.1).1

theorem owns_le {G G' : Gh} (hG : GLe G G') {e : Nat} (hd : G.dom e) {o : AObj} : owns G' e o ↔ owns G e o := by
  cases o <;> simp [owns, hG.ρ e hd]

/-- The frozen facts speak of blocks that lie. -/
theorem Rel.F_lt {G : Gh} {w : World} {ob : Ob} (h : Rel G w ob) {b o : Nat} {v : Value} (hF : G.F b o = some v) : b < w.heap.size :=
  World.block_lt_of_cell? w ⟨b, o, none⟩ (h.fok b o v hF)

/-- The ghost with one epoch more. -/
def Gh.add (G : Gh) (e b c : Nat) : Gh := { F := G.F, ρ := fun x => if x = e then (b, c) else G.ρ x, dom := fun x => G.dom x ∨ x = e }
theorem Gh.le_add (G : Gh) {e : Nat} (he : ¬ G.dom e) (b c : Nat) : GLe G (G.add e b c) :=
  ⟨.refl _, fun _ h => .inl h, fun x hx => by simp only [Gh.add]; rw [if_neg (by rintro rfl; exact he hx)]⟩
theorem Gh.add_ρ (G : Gh) (e b c : Nat) : (G.add e b c).ρ e = (b, c) := by simp [Gh.add]
theorem Gh.add_dom (G : Gh) (e b c : Nat) : (G.add e b c).dom e := .inr rfl

theorem getHeap_alloc_old (w : World) (o : Obj) (k : Nat) (h : k < w.heap.size) : (w.alloc o).heap[k]? = w.heap[k]? := heap_alloc_old w o k h

theorem cell_heap {w w' : World} {b o : Nat} (h : w'.heap[b]? = w.heap[b]?) : w'.cell? ⟨b, o, none⟩ = w.cell? ⟨b, o, none⟩ := World.cell?_of_block (w := w) h

/-- What is not owned by the new object, and lay before, is as it was: the general step. -/
theorem rel_step {G G' : Gh} {w w' : World} {ob ob' : Ob} (h : Rel G w ob) (hG : GLe G G') (hFx : G'.F = G.F) (hs : w.heap.size ≤ w'.heap.size)
    (X : Nat → Prop) (hX : ∀ b o v, G.F b o = some v → ¬ X b) (hheap : ∀ b, b < w.heap.size → ¬ X b → w'.heap[b]? = w.heap[b]?)
    (hob : ∀ k e o, oget ob' k = some (e, o) → (oget ob k = some (e, o) ∧ (owns G e o → ¬ X (G.ρ e).1)) ∨ (G'.dom e ∧ ObjOK G' w' e o ∧
      (owns G' e o → ∀ k' e' o', oget ob' k' = some (e', o') → k' ≠ k → owns G' e' o' → (G'.ρ e').1 ≠ (G'.ρ e).1)))
    (hfin : ∃ N, ∀ e, G'.dom e → e < N) : Rel G' w' ob' where
  fok b o v hF := by
    rw [hFx] at hF
    rw [cell_heap (hheap b (h.F_lt hF) (hX b o v hF))]
    exact h.fok b o v hF
  obj k e o hk := by
    rcases hob k e o hk with ⟨h1, h2⟩ | ⟨h1, h2, _⟩
    · obtain ⟨hd, hok⟩ := h.obj k e o h1
      refine ⟨hG.dom e hd, objOK_keep hG hd (fun ho => hheap _ (objOK_lt hok ho) (h2 ho)) (fun _ j => by rw [hFx]) hok⟩
    · exact ⟨h1, h2⟩
  inj k k' e o e' o' hk hk' hne ho ho' := by
    rcases hob k e o hk with ⟨h1, h2⟩ | ⟨h1, h2, h3⟩
    · rcases hob k' e' o' hk' with ⟨h1', h2'⟩ | ⟨h1', h2', h3'⟩
      · obtain ⟨hd, _⟩ := h.obj k e o h1
        obtain ⟨hd', _⟩ := h.obj k' e' o' h1'
        rw [hG.ρ e hd, hG.ρ e' hd']
        exact h.inj k k' e o e' o' h1 h1' hne ((owns_le hG hd).1 ho) ((owns_le hG hd').1 ho')
      · exact h3' ho' k e o hk hne ho
    · exact fun he => h3 ho k' e' o' hk' (fun h => hne h.symm) ho' he.symm
  fin := hfin

/-- A new object, in a new block. -/
theorem frz_push {w w' : World} {x0 : Obj} (hw : w'.heap = w.heap.push x0) (hx0 : ∀ c t f, x0 = .cells c t f → f = (0, 0)) (a : Addr) : w'.frozen? a = w.frozen? a := by
  unfold World.frozen?
  rw [hw, Array.getElem?_push]
  by_cases hb : a.block = w.heap.size
  · have e2 : w.heap[a.block]? = none := by rw [hb]; simp
    rw [if_pos hb, e2]
    cases x0 with
    | cells c t f => have := hx0 c t f rfl; subst this; simp
    | _ => rfl
  · rw [if_neg hb]
theorem frz_setRow (w : World) (g : Nat) (cs : Array Value) (a : Addr) : (w.setRow g cs).frozen? a = w.frozen? a := by
  unfold World.frozen? World.setRow
  simp only [Array.getElem?_modify]
  by_cases hb : g = a.block
  · rw [if_pos hb]
    cases w.heap[a.block]? with
    | none => rfl
    | some o => cases o <;> rfl
  · rw [if_neg hb]
theorem rel_newO {G : Gh} {w : World} {ob : Ob} (h : Rel G w ob) {e : Nat} (he : ¬ G.dom e) (d cap : Nat) (x : AObj) {w' : World} (x0 : Obj)
    (hw : w'.heap = w.heap.push x0) (hos : w'.os = w.os) (htape : w'.tape = w.tape) (hout : w'.output = w.output)
    (hx : ObjOK (G.add e w.heap.size cap) w' e x) (hx0 : ∀ c t f, x0 = .cells c t f → f = (0, 0)) :
    Rel (G.add e w.heap.size cap) w' (oset ob d e x) ∧ Fr G w ob (G.add e w.heap.size cap) w' (oset ob d e x) ∧ (∀ e', (G.add e w.heap.size cap).dom e' → G.dom e' ∨ e' = e) := by
  have hG := G.le_add he w.heap.size cap
  have hsz : w'.heap.size = w.heap.size + 1 := by rw [hw]; simp
  have hold : ∀ b, b < w.heap.size → w'.heap[b]? = w.heap[b]? := fun b hb => by rw [hw, Array.getElem?_push, if_neg (by omega)]
  refine ⟨?_, ?_, fun e' h' => h'⟩
  · refine rel_step h hG rfl (by omega) (fun _ => False) (fun _ _ _ _ h => h) (fun b hb _ => hold b hb) (fun k e1 o1 hk => ?_) ?_
    · rw [oget_oset] at hk
      split at hk
      · rename_i hkd
        cases hk
        refine .inr ⟨Gh.add_dom .., hx, fun _ k' e' o' hk' hne ho' => ?_⟩
        rw [oget_oset, if_neg (by rw [hkd]; exact fun h => hne h.symm)] at hk'
        obtain ⟨hd', hok'⟩ := h.obj k' e' o' hk'
        rw [Gh.add_ρ, hG.ρ e' hd']
        have := objOK_lt hok' ((owns_le hG hd').1 ho')
        simp only []
        omega
      · exact .inl ⟨hk, fun _ h => h⟩
    · obtain ⟨N, hN⟩ := h.fin
      refine ⟨max N (e + 1), fun e' h' => ?_⟩
      rcases h' with h' | h'
      · have := hN e' h'; omega
      · omega
  · refine ⟨hG, hos, htape, hout, by omega, fun b hb _ => hold b hb, fun b hb hlt => ?_, fun _ _ _ _ => rfl, frz_push hw hx0⟩
    obtain ⟨k, e1, o1, hk, ho, rfl⟩ := hb
    rw [oget_oset] at hk
    split at hk
    · cases hk
      rw [Gh.add_ρ] at hlt
      simp at hlt
    · obtain ⟨hd, _⟩ := h.obj k e1 o1 hk
      exact ⟨k, e1, o1, hk, (owns_le hG hd).1 ho, by rw [hG.ρ e1 hd]⟩

/-- An object is written. -/
theorem rel_new {G : Gh} {w : World} {ob : Ob} (h : Rel G w ob) {e : Nat} (he : ¬ G.dom e) (d cap : Nat) (x : AObj) {w' : World} (vs : Array Value) (t : TypeId)
    (hw : w'.heap = w.heap.push (.cells vs t)) (hos : w'.os = w.os) (htape : w'.tape = w.tape) (hout : w'.output = w.output)
    (hx : ObjOK (G.add e w.heap.size cap) w' e x) :
    Rel (G.add e w.heap.size cap) w' (oset ob d e x) ∧ Fr G w ob (G.add e w.heap.size cap) w' (oset ob d e x) ∧ (∀ e', (G.add e w.heap.size cap).dom e' → G.dom e' ∨ e' = e) :=
  rel_newO h he d cap x _ hw hos htape hout hx (by intro c t f h; cases h; rfl)

theorem rel_upd {G : Gh} {w : World} {ob : Ob} (h : Rel G w ob) {k e : Nat} {o x : AObj} (hk : oget ob k = some (e, o)) (ho : owns G e o) {w' : World}
    (hheap : ∀ b, b ≠ (G.ρ e).1 → w'.heap[b]? = w.heap[b]?) (hsz : w'.heap.size = w.heap.size) (hos : w'.os = w.os) (htape : w'.tape = w.tape) (hout : w'.output = w.output)
    (hx : ObjOK G w' e x) (hfz : ∀ a, w'.frozen? a = w.frozen? a) : Rel G w' (oset ob k e x) ∧ Fr G w ob G w' (oset ob k e x) ∧ (∀ e', G.dom e' → G.dom e' ∨ e' = e) := by
  obtain ⟨hd, hok⟩ := h.obj k e o hk
  have hFn : ∀ j, G.F (G.ρ e).1 j = none := objOK_F hok ho
  refine ⟨?_, ?_, fun _ h => .inl h⟩
  · refine rel_step h (.refl G) rfl (by omega) (fun b => b = (G.ρ e).1) (fun b o v hF hb => by subst hb; rw [hFn] at hF; cases hF) (fun b _ hb => hheap b hb) (fun k' e' o' hk' => ?_) h.fin
    rw [oget_oset] at hk'
    split at hk'
    · rename_i hkk
      subst hkk
      cases hk'
      refine .inr ⟨hd, hx, fun _ k2 e2 o2 hk2 hne ho2 => ?_⟩
      rw [oget_oset, if_neg (fun h => hne h.symm)] at hk2
      exact h.inj k2 k e2 o2 e o hk2 hk hne ho2 ho
    · rename_i hkk
      exact .inl ⟨hk', fun ho' => h.inj k' k e' o' e o hk' hk (fun h => hkk h.symm) ho' ho⟩
  · refine ⟨.refl G, hos, htape, hout, by omega, fun b _ hb => hheap b (fun hbe => hb ⟨k, e, o, hk, ho, hbe.symm⟩), fun b hb _ => ?_, fun _ _ _ _ => rfl, hfz⟩
    obtain ⟨k', e', o', hk', ho', rfl⟩ := hb
    rw [oget_oset] at hk'
    split at hk'
    · cases hk'; exact ⟨k, e, o, hk, ho, rfl⟩
    · exact ⟨k', e', o', hk', ho', rfl⟩

/-- An object is forgotten. -/
theorem rel_del {G : Gh} {w : World} {ob : Ob} (h : Rel G w ob) (k : Nat) : Rel G w (odel ob k) ∧ Fr G w ob G w (odel ob k) := by
  have hsub : ∀ k' e o, oget (odel ob k) k' = some (e, o) → oget ob k' = some (e, o) := fun k' e o hk => by
    rw [oget_odel] at hk
    split at hk
    · cases hk
    · exact hk
  refine ⟨⟨h.fok, fun k' e o hk => h.obj k' e o (hsub _ _ _ hk), fun k1 k2 e o e' o' h1 h2 => h.inj k1 k2 e o e' o' (hsub _ _ _ h1) (hsub _ _ _ h2), h.fin⟩, ?_⟩
  exact ⟨.refl G, rfl, rfl, rfl, Nat.le_refl _, fun _ _ _ => rfl, fun b ⟨k', e, o, hk, ho, hb⟩ _ => ⟨k', e, o, hsub _ _ _ hk, ho, hb⟩, fun _ _ _ _ => rfl, fun _ => rfl⟩

/-! ### Reading and writing an object's cells -/
theorem getD_arr (vs : Array Value) (j : Nat) (h : j < vs.size) : vs[j]? = some (vs.getD j undef) := by simp [Array.getD, h]
theorem addr_add (b o j : Nat) : (⟨b, o, none⟩ : Addr).add j = ⟨b, o + j, none⟩ := by unfold Addr.add; split <;> simp_all

theorem var_cell {G : Gh} {w : World} {e : Nat} {cells : List AV} (h : ObjOK G w e (.var cells)) (j : Nat) (hj : j < cells.length) :
    ∃ v, w.cell? ⟨(G.ρ e).1, j, none⟩ = some v ∧ VRel G (cells.getD j .junk) v := by
  obtain ⟨vs, t, h1, h2, h3, _⟩ := h
  refine ⟨vs.getD j undef, ?_, h3 j hj⟩
  rw [cell_of_row w _ j vs t _ h1, getD_arr vs j (by omega)]
theorem row_cell {G : Gh} {w : World} {e sz : Nat} {xs : List (List AV)} (h : ObjOK G w e (.row sz xs)) (i j : Nat) (hi : i < xs.length) (hj : j < sz) :
    ∃ v, w.cell? ⟨(G.ρ e).1, i * sz + j, none⟩ = some v ∧ VRel G ((xs.getD i []).getD j .junk) v := by
  obtain ⟨h1, h2, h3⟩ := h
  obtain ⟨vs, t, h4, h5, h6, _⟩ := h3 (by omega)
  refine ⟨vs.getD (i * sz + j) undef, ?_, h6 i j hi hj⟩
  have : i * sz + j < vs.size := by
    rw [h5]
    calc i * sz + j < i * sz + sz := by omega
      _ = (i + 1) * sz := by rw [Nat.add_mul]; omega
      _ ≤ (G.ρ e).2 * sz := Nat.mul_le_mul_right _ (by omega)
  rw [cell_of_row w _ _ vs t _ h4, getD_arr vs _ this]

end Go.Proofs.RL
