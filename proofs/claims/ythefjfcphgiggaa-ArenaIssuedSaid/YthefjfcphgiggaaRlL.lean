/- Each operation of the model does what its abstract twin says: literals. Conditions: none. -/
import Derived.Test.YthefjfcphgiggaaRlK
set_option linter.unusedVariables false
set_option linter.unusedSimpArgs false
namespace Go.Proofs.RL

theorem splice_step {α : Type} (l : List α) (k : Nat) (v : α) (rest : List α) (hk : k + (rest.length + 1) ≤ l.length) : splice (l.set k v) (k + 1) rest = splice l k (v :: rest) := by
  apply List.ext_getElem?
  intro j
  have h1 : ∀ u, (splice (l.set k v) (k + 1) rest).getD j u = (splice l k (v :: rest)).getD j u := fun u => by
    rw [splice_getD _ _ _ (by simp; omega), splice_getD _ _ _ (by simp; omega)]
    simp only [List.length_cons]
    by_cases c1 : j < k
    · rw [if_pos (by omega), if_pos c1]
      simp only [List.getD_eq_getElem?_getD, List.getElem?_set_ne (show k ≠ j by omega)]
    · by_cases c2 : j = k
      · subst c2
        rw [if_pos (by omega), if_neg c1, if_pos (by omega)]
        simp only [List.getD_eq_getElem?_getD, List.getElem?_set_self (show j < l.length by omega), Nat.sub_self, List.getElem?_cons_zero]
      · rw [if_neg (by omega), if_neg c1]
        by_cases c3 : j < k + 1 + rest.length
        · rw [if_pos c3, if_pos (by omega), show j - k = (j - (k + 1)) + 1 by omega]
          simp only [List.getD_eq_getElem?_getD, List.getElem?_cons_succ]
        · rw [if_neg c3, if_neg (by omega)]
          simp only [List.getD_eq_getElem?_getD, List.getElem?_set_ne (show k ≠ j by omega)]
  have hl : (splice (l.set k v) (k + 1) rest).length = (splice l k (v :: rest)).length := by
    rw [splice_length _ _ _ (by simp; omega), splice_length _ _ _ (by simp; omega)]; simp
  by_cases hj : j < (splice l k (v :: rest)).length
  · have h2 := h1 v
    have hj' : j < (splice (l.set k v) (k + 1) rest).length := by omega
    simp only [List.getD_eq_getElem?_getD, List.getElem?_eq_getElem hj, List.getElem?_eq_getElem hj', Option.getD_some] at h2
    rw [List.getElem?_eq_getElem hj, List.getElem?_eq_getElem hj', h2]
  · rw [List.getElem?_eq_none (by omega), List.getElem?_eq_none (by omega)]

theorem fold_set (off : Nat) : ∀ (l : List Value) (j0 : Nat) (cells : Array Value), off + j0 + l.length ≤ cells.size →
    (l.zipIdx j0).foldl (fun cs (x : Value × Nat) => cs.setIfInBounds (off + x.2) x.1) cells = (splice cells.toList (off + j0) l).toArray
  | [], j0, cells, _ => by simp [splice]
  | v :: l, j0, cells, h => by
    simp only [List.length_cons] at h
    rw [List.zipIdx_cons, List.foldl_cons, fold_set off l (j0 + 1) _ (by simp; omega)]
    rw [Array.toList_setIfInBounds, ← Nat.add_assoc, splice_step _ _ _ _ (by simp; omega)]

section
variable {P : Program} {o : Oper} {a : Act} {w : World} {G : Gh} {ob : Ob} {tm : Tm} {d e : Nat} {c : Option Nat} {K : Kont}

theorem fill_one (place : Nat → Option (Nat × Nat)) (cells : Array Value) (i off size : Nat) (v : Value) (rest : List (Nat × Value)) (hp : place i = some (off, size)) (hs : v.cells.size = size) (hf : off + size ≤ cells.size) :
    Instr.fill place cells ((i, v) :: rest) = Instr.fill place (splice cells.toList off v.cells.toList).toArray rest := by
  have h1 : ¬ (v.cells.size ≠ size ∨ off + v.cells.size > cells.size) := by omega
  have h2 := fold_set off v.cells.toList 0 cells (by simp; omega)
  simp only [Instr.fill, hp]
  have h3 : (v.cells.size ≠ size || off + v.cells.size > cells.size) = false := by
    simp only [Bool.or_eq_false_iff, decide_eq_false_iff_not]; omega
  simp only [h3, Bool.false_eq_true, if_false]
  congr 1
  rw [← Array.foldl_toList, Array.toList_zipIdx]
  simpa using h2

def trParts (place : Nat → Option (Nat × Nat)) : List (Nat × Operand) → Option (List (Nat × Nat × Opd))
  | [] => some []
  | (i, x) :: r => (place i).bind fun (o, n) => (trOpd x).bind fun x' => (trParts place r).map fun r' => (o, n, x') :: r'

def CRel (G : Gh) (cs : List AV) (cells : Array Value) : Prop := cells.size = cs.length ∧ ∀ j, j < cs.length → VRel G (cs.getD j .junk) (cells.getD j undef)

theorem splice_rel {cs : List AV} {cells : Array Value} (h : CRel G cs cells) {off : Nat} {xs : List AV} {vs : Array Value} (hx : vs.size = xs.length) (hr : ∀ j, j < xs.length → VRel G (xs.getD j .junk) (vs.getD j undef)) (hf : off + xs.length ≤ cs.length) :
    CRel G (splice cs off xs) (splice cells.toList off vs.toList).toArray := by
  obtain ⟨h1, h2⟩ := h
  have hf' : off + vs.toList.length ≤ cells.toList.length := by simp; omega
  refine ⟨by rw [splice_length _ _ _ hf, List.size_toArray, splice_length _ _ _ hf']; simpa using h1, fun j hj => ?_⟩
  rw [splice_length _ _ _ hf] at hj
  have hvl : vs.toList.length = xs.length := by simpa using hx
  rw [arr_getD, splice_getD _ _ _ hf, splice_getD _ _ _ hf', hvl, list_getD cells, list_getD vs]
  by_cases c1 : j < off
  · simp only [c1, if_true]; exact h2 j hj
  · by_cases c2 : j < off + xs.length
    · simp only [c1, c2, if_true, if_false]; exact hr _ (by omega)
    · simp only [c1, c2, if_false]; exact h2 j hj

theorem fill_spec (hT : TRel G tm a) (place : Nat → Option (Nat × Nat)) : ∀ (parts : List (Nat × Operand)) (parts' : List (Nat × Nat × Opd)) (cs : List AV) (cells : Array Value) (K : List AV → Prop),
    trParts place parts = some parts' → CRel G cs cells → buildCells tm cs parts' K →
    ∃ cs' cells', Instr.fill place cells (parts.map fun p => (p.1, a.eval p.2)) = some cells' ∧ K cs' ∧ CRel G cs' cells'
  | [], parts', cs, cells, K, hp, hc, h => by
    simp only [trParts, Option.some.injEq] at hp
    subst hp
    exact ⟨cs, cells, rfl, h, hc⟩
  | (i, x) :: r, parts', cs, cells, K, hp, hc, h => by
    simp only [trParts, Option.bind_eq_some_iff, Option.map_eq_some_iff] at hp
    obtain ⟨⟨off, n⟩, hpl, x', hx, r', hr, rfl⟩ := hp
    simp only [buildCells] at h
    obtain ⟨hn, hf, hsol, h⟩ := h
    have r1 := trOpd_rel hT hx
    obtain ⟨k1, k2, k3⟩ := cells_rel r1 hsol
    have hc' := splice_rel (off := off) hc k1 k2 (by omega)
    obtain ⟨cs', cells', g1, g2, g3⟩ := fill_spec hT place r r' _ _ K hr hc' h
    refine ⟨cs', cells', ?_, g2, g3⟩
    rw [List.map_cons, fill_one place cells i off n (a.eval x) _ hpl (by omega) (by rw [hc.1]; omega)]
    exact g1

/-- The places of a literal's parts. -/
def placesT (P : Program) (t : TypeId) : Option (Nat → Option (Nat × Nat)) :=
  match P.underlying t with
  | some (.struct fs) => (fs.toList.mapM fun f => (P.info? f.type).map fun i => (f.offset, i.size)).map fun ps => (ps.toArray[·]?)
  | some (.array _ e) => (P.info? e).map fun ie => fun i => some (i * ie.size, ie.size)
  | _ => none

theorem op_build {t : TypeId} {z : List FV} {parts : Array (Nat × Operand)} {parts' : List (Nat × Nat × Opd)} {pl : Nat → Option (Nat × Nat)} (ho : o.op = .build t parts) (hpl : placesT P t = some pl) (hz : zAt P t = some z)
    (hp : trParts pl parts.toList = some parts') (hT : TRel G tm a) (hR : Rel G w ob)
    (h : stepOp (.build z parts') tm (oget ob) d e c K) : Out P o a w G ob d e K := by
  obtain ⟨it, zv, hit, hzv, hzl, hzr⟩ := zAt_spec hz
  have hc : CRel G (z.map .fv) zv.cells := ⟨by simpa using hzl, fun j hj => hzr G j (by simpa using hj)⟩
  obtain ⟨cs', cells', g1, g2, g3⟩ := fill_spec hT pl parts.toList parts' _ _ _ hp hc h
  have hb : P.built t (parts.map fun (p : Nat × Operand) => (p.1, a.eval p.2)).toList = some cells' := by
    rw [Array.toList_map]
    unfold placesT at hpl
    unfold Program.built
    rw [hit]
    split at hpl
    · rename_i fs hfs
      simp only [Option.map_eq_some_iff] at hpl
      obtain ⟨ps, hps, rfl⟩ := hpl
      simp only [hfs, hzv, hps]
      exact g1
    · rename_i n el hel
      simp only [Option.map_eq_some_iff] at hpl
      obtain ⟨ie, hie, rfl⟩ := hpl
      simp only [hel, hzv, hie]
      exact g1
    · cases hpl
  refine out_quiet hR (v := .agg cells') ?_ (.agg _ _ g3.1 g3.2) g2
  have := run_build (P := P) w t (parts.map fun (p : Nat × Operand) => (p.1, a.eval p.2)) cells' hb
  simp only [execOp, ho, Sem.run_bind, this, Result.andThen_ok, Sem.run_pure]

def trRowParts : List (Nat × Operand) → Option (List (Nat × Opd))
  | [] => some []
  | (i, x) :: r => (trOpd x).bind fun x' => (trRowParts r).map fun r' => (i, x') :: r'

def RRel (G : Gh) (sz : Nat) (xs : List (List AV)) (cells : Array Value) : Prop :=
  cells.size = xs.length * sz ∧ (∀ i, i < xs.length → (xs.getD i []).length = sz) ∧ ∀ i j, i < xs.length → j < sz → VRel G ((xs.getD i []).getD j .junk) (cells.getD (i * sz + j) undef)

theorem rrow_set {sz : Nat} {xs : List (List AV)} {cells : Array Value} (h : RRel G sz xs cells) {k : Nat} (hk : k < xs.length) {ys : List AV} {vs : Array Value} (hy : ys.length = sz) (hx : vs.size = ys.length) (hr : ∀ j, j < ys.length → VRel G (ys.getD j .junk) (vs.getD j undef)) :
    RRel G sz (xs.set k ys) (splice cells.toList (k * sz) vs.toList).toArray := by
  obtain ⟨h1, h2, h3⟩ := h
  have hm := Nat.mul_le_mul_right sz (show k + 1 ≤ xs.length by omega)
  rw [Nat.add_mul] at hm
  have hf' : k * sz + vs.toList.length ≤ cells.toList.length := by simp; omega
  have hvl : vs.toList.length = sz := by simp; omega
  refine ⟨by rw [List.size_toArray, splice_length _ _ _ hf']; simpa using h1, fun i hi => ?_, fun i j hi hj => ?_⟩
  · simp only [List.length_set] at hi
    by_cases hik : k = i
    · subst hik; simp only [List.getD_eq_getElem?_getD, List.getElem?_set_self hk, Option.getD_some]; exact hy
    · simp only [List.getD_eq_getElem?_getD, List.getElem?_set_ne hik]; rw [← List.getD_eq_getElem?_getD]; exact h2 i hi
  · simp only [List.length_set] at hi
    rw [arr_getD, splice_getD _ _ _ hf', hvl, list_getD cells, list_getD vs]
    by_cases hik : k = i
    · subst hik
      have e1 : (xs.set k ys).getD k [] = ys := by simp only [List.getD_eq_getElem?_getD, List.getElem?_set_self hk, Option.getD_some]
      rw [e1, if_neg (by omega), if_pos (by omega), show k * sz + j - k * sz = j by omega]
      exact hr j (by omega)
    · have e1 : (xs.set k ys).getD i [] = xs.getD i [] := by simp only [List.getD_eq_getElem?_getD, List.getElem?_set_ne hik]
      rw [e1]
      rcases Nat.lt_or_gt_of_ne hik with hlt | hgt
      · have := Nat.mul_le_mul_right sz (show k + 1 ≤ i by omega)
        rw [Nat.add_mul] at this
        rw [if_neg (by omega), if_neg (by omega)]; exact h3 i j hi hj
      · have := Nat.mul_le_mul_right sz (show i + 1 ≤ k by omega)
        rw [Nat.add_mul] at this
        rw [if_pos (by omega)]; exact h3 i j hi hj

theorem fillRow_spec (hT : TRel G tm a) (sz : Nat) : ∀ (parts : List (Nat × Operand)) (parts' : List (Nat × Opd)) (xs : List (List AV)) (cells : Array Value) (K : List (List AV) → Prop),
    trRowParts parts = some parts' → RRel G sz xs cells → buildRow tm sz xs parts' K →
    ∃ xs' cells', Instr.fill (fun i => some (i * sz, sz)) cells (parts.map fun p => (p.1, a.eval p.2)) = some cells' ∧ K xs' ∧ xs'.length = xs.length ∧ RRel G sz xs' cells'
  | [], parts', xs, cells, K, hp, hc, h => by
    simp only [trRowParts, Option.some.injEq] at hp
    subst hp
    exact ⟨xs, cells, rfl, h, rfl, hc⟩
  | (i, x) :: r, parts', xs, cells, K, hp, hc, h => by
    simp only [trRowParts, Option.bind_eq_some_iff, Option.map_eq_some_iff] at hp
    obtain ⟨x', hx, r', hr, rfl⟩ := hp
    simp only [buildRow] at h
    obtain ⟨hn, hf, hsol, h⟩ := h
    have r1 := trOpd_rel hT hx
    obtain ⟨k1, k2, k3⟩ := cells_rel r1 hsol
    have hc' := rrow_set hc hf hn k1 k2
    obtain ⟨xs', cells', g1, g2, g3, g4⟩ := fillRow_spec hT sz r r' _ _ K hr hc' h
    refine ⟨xs', cells', ?_, g2, by simpa using g3, g4⟩
    have hm := Nat.mul_le_mul_right sz (show i + 1 ≤ xs.length by omega)
    rw [Nat.add_mul] at hm
    rw [List.map_cons, fill_one _ cells i (i * sz) sz (a.eval x) _ rfl (by omega) (by rw [hc.1]; omega)]
    exact g1

theorem op_buildSl {t el : TypeId} {len : Nat} {i : TypeInfo} {z : List FV} {parts : Array (Nat × Operand)} {parts' : List (Nat × Opd)} (ho : o.op = .buildSlice t len parts) (ht : P.underlying t = some (.slice el)) (hi : P.info? el = some i) (hz : zAt P el = some z) (hzs : z.length = i.size) (hpos : 0 < i.size)
    (hsmall : len * i.size ≤ 2 ^ 24) (hp : trRowParts parts.toList = some parts') (he : ¬ G.dom e) (hT : TRel G tm a) (hR : Rel G w ob)
    (h : stepOp (.buildSl i.size len z parts') tm (oget ob) d e c K) : Out P o a w G ob d e K := by
  obtain ⟨i', zv, hi', hzv, hzl, hzr⟩ := zAt_spec hz
  rw [hi] at hi'
  cases hi'
  simp only [stepOp] at h
  have hget : ∀ j, j < len → (List.replicate len (z.map AV.fv)).getD j [] = z.map AV.fv := fun j hj => by simp [List.getD_eq_getElem?_getD, List.getElem?_replicate, hj]
  have hc : RRel G i.size (List.replicate len (z.map .fv)) (madeCells zv.cells (len * i.size)) := by
    refine ⟨by rw [size_madeCells]; simp, fun j hj => by rw [hget j (by simpa using hj)]; simpa using hzs, fun j k hj hk => ?_⟩
    have hj' : j < len := by simpa using hj
    rw [hget j hj']
    have hlt : j * i.size + k < len * i.size := flat_index hj' hk
    have hmod : (j * i.size + k) % zv.cells.size = k := by
      rw [hzl, hzs, Nat.add_comm, Nat.add_mul_mod_self_right, Nat.mod_eq_of_lt hk]
    have e1 : (madeCells zv.cells (len * i.size)).getD (j * i.size + k) undef = zv.cells.getD k undef := by
      have hk2 : k < zv.cells.size := by omega
      simp [madeCells, Array.getD, hlt, hmod, hk2]
    rw [e1]
    exact hzr G k (by omega)
  obtain ⟨xs', cells', g1, g2, g3, g4⟩ := fillRow_spec hT i.size parts.toList parts' _ _ _ hp hc h
  obtain ⟨k1, k2, k3⟩ := g4
  have hlen : xs'.length = len := by simpa using g3
  obtain ⟨m1, m2, m3⟩ := rel_new (w' := w.alloc (.cells cells' el)) hR he d len (.row i.size xs') cells' el rfl rfl rfl rfl (by
    refine ⟨by rw [Gh.add_ρ, hlen]; exact Nat.le_refl _, k2, fun hp => ?_⟩
    rw [Gh.add_ρ]
    exact ⟨cells', el, heap_alloc_new w _, by rw [k1, hlen], fun p q hp hq => (k3 p q hp hq).mono (G.le_add he ..), fun j => (show G.F w.heap.size j = none from F_new hR j)⟩)
  have hsm : ¬ len * i.size > 2 ^ 24 := by omega
  have g1' : Instr.fill (fun j => some (j * i.size, i.size)) (madeCells zv.cells (len * i.size)) (parts.map fun (p : Nat × Operand) => (p.1, a.eval p.2)).toList = some cells' := by rw [Array.toList_map]; exact g1
  have hrun : (Instr.buildSlice t len (parts.map fun (p : Nat × Operand) => (p.1, a.eval p.2))).run P w = .ok (.slice (some ⟨w.heap.size, 0, none⟩) len len) (w.alloc (.cells cells' el)) := by
    by_cases h0 : len * i.size = 0
    · have hmz : madeCells zv.cells (len * i.size) = (Array.range (len * i.size)).map (fun j => (#[] : Array Value)[j % 0]!) := by
        rw [h0]; simp [madeCells]
      rw [hmz] at g1'
      simp only [h0] at g1'
      simp only [Instr.buildSlice, Sem.run_bind, run_underlying ht, Result.andThen_ok, run_size hi, hsm, if_false, h0, if_true, Sem.run_pure]
      simp only [Sem.run_ite, Nat.not_lt_zero, if_false]
      simp at g1' ⊢
      simp [g1', newRow]
    · simp [Instr.buildSlice, run_underlying ht, sizeOf, typeInfo, zeroValue, hi, hzv, hsm, h0, newRow]
      unfold madeCells at g1'
      simp at g1'
      simp [g1']
  have hbound : len ≤ 16777216 := by
    have := Nat.le_mul_of_pos_right len hpos
    have h24 : (2 : Nat) ^ 24 = 16777216 := rfl
    omega
  refine ⟨_, none, some _, none, _, .slice (some ⟨w.heap.size, 0, none⟩) len len, _, _, ?_, .inl rfl, g2, ?_, m1, m2, m3, fun _ h => by cases h⟩
  · simp only [execOp, ho, Sem.run_bind, hrun, Result.andThen_ok, Sem.run_pure]
  · exact .ms d e _ 0 len _ _ len (Gh.add_dom ..) (fun q hq => by cases hq; rfl) (Nat.le_refl _) (by omega) (by rw [Gh.add_ρ]; simp) (fun _ => by rw [Gh.add_ρ]; simp)
end
end Go.Proofs.RL
