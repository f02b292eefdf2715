/- Arguments: what a reading says of them, as frozen values. Conditions: none. -/
import Derived.Test.YthefjfcphgiggaaRlX
import Derived.SizedLaws
import GoSem.ClaimChange
import Derived.DataReads
set_option linter.unusedVariables false
set_option linter.unusedSimpArgs false
namespace Go.Proofs.RL

def memF (w : World) : FMap := fun b o => w.cell? ⟨b, o, none⟩

def hasFs (T : TypeId → List FV → Prop) : List Field → List FV → Prop
  | [], xs => xs = []
  | f :: r, xs => ∃ a b, xs = a ++ b ∧ T f.type a ∧ hasFs T r b
/-- What values of a type are, cell by cell. -/
def hasT (P : Program) : Nat → TypeId → List FV → Prop
  | 0, _, _ => False
  | fuel + 1, t, xs =>
    match P.underlying t with
    | some .bool => ∃ b, xs = [.bool b]
    | some (.int k) => ∃ n, xs = [.int k n] ∧ (Lit.int k n).wf = true
    | some .string => ∃ s, xs = [.str s] ∧ s.size ≤ reachBytes
    | some (.slice e) => ∃ rows, xs = [.sl none none rows] ∧ rows.length ≤ reachBytes ∧ ∀ r ∈ rows, hasT P fuel e r
    | some (.struct fs) => hasFs (hasT P fuel) fs.toList xs
    | _ => False

def tiles (P : Program) (T : TypeId → Bool) : Nat → List Field → Nat → Bool
  | acc, [], n => acc == n
  | acc, f :: r, n => (f.offset == acc) && T f.type && decide (acc + P.cellsOf f.type ≤ n) && tiles P T (acc + P.cellsOf f.type) r n
/-- The types that are opened so. -/
def plainT (P : Program) : Nat → TypeId → Bool
  | 0, _ => false
  | fuel + 1, t =>
    match P.underlying t with
    | some .bool => true
    | some (.int _) => true
    | some .string => true
    | some (.slice e) => decide (0 < P.cellsOf e) && decide (0 < P.bytesOf e) && plainT P fuel e
    | some (.struct fs) => tiles P (plainT P fuel) 0 fs.toList (P.cellsOf t)
    | _ => false

section
variable {H : Type} {enc : TypeId × Value → H} {P : Program} {w : World} {sp : Nat → Bool} {hd : Bool}

theorem weightsAll_mem {e : TypeId} : ∀ {l : List (DataW H)} {d : DataW H}, d ∈ l → ∀ n ∈ d.weights P e, n ∈ DataW.weightsAll P e l
  | x :: r, d, hm, n, hn => by
    simp only [DataW.weightsAll, List.mem_append]
    rcases List.mem_cons.1 hm with rfl | hm
    · exact .inl hn
    · exact .inr (weightsAll_mem hm n hn)

def Opens (P : Program) (w : World) (fuel : Nat) (t : TypeId) (cs : List Value) : Prop :=
  ∃ xs : List FV, xs.length = cs.length ∧ hasT P fuel t xs ∧ ∀ j, j < cs.length → FRel (memF w) (xs.getD j .nilp) (cs.getD j undef)

theorem open_fields {fuel n0 : Nat} {T : TypeId → Bool} (ih : ∀ (t : TypeId) (cs : List Value) (d : DataW H) (ps : List MemPlace), DataW.trod enc P w 0 sp hd n0 t cs = some (d, ps) → T t = true → (∀ n ∈ d.weights P t, n ≤ reachBytes) → Opens P w fuel t cs) {n : Nat} (cs : List Value) (hn : cs.length = n) :
    ∀ (fs : List Field) (acc : Nat) (ys : List (DataW H × List MemPlace)), tiles P T acc fs n = true → fs.mapM (fun f => DataW.trod enc P w 0 sp hd n0 f.type ((cs.drop f.offset).take (P.cellsOf f.type))) = some ys →
      (∀ m ∈ DataW.weightsEach P (fs.map (·.type)) (ys.map (·.1)), m ≤ reachBytes) → ∃ xs : List FV, acc + xs.length = n ∧ hasFs (hasT P fuel) fs xs ∧ ∀ j, j < xs.length → FRel (memF w) (xs.getD j .nilp) (cs.getD (acc + j) undef)
  | [], acc, ys, ht, hm, hw => by
    simp only [tiles, beq_iff_eq] at ht
    exact ⟨[], by simpa using ht, rfl, fun j hj => by simp at hj⟩
  | f :: r, acc, ys, ht, hm, hw => by
    simp only [tiles, Bool.and_eq_true, beq_iff_eq, decide_eq_true_eq] at ht
    obtain ⟨⟨⟨hoff, hT⟩, hle⟩, ht⟩ := ht
    simp only [List.mapM_cons, Option.bind_eq_bind, Option.pure_def, Option.bind_eq_some_iff] at hm
    obtain ⟨⟨d, p⟩, hd', ys', hys, hm⟩ := hm
    cases hm
    simp only [List.map_cons, DataW.weightsEach, List.mem_append] at hw
    obtain ⟨a, ha1, ha2, ha3⟩ := ih _ _ d p hd' hT (fun m hm => hw m (.inl hm))
    obtain ⟨b, hb1, hb2, hb3⟩ := open_fields ih cs hn r (acc + P.cellsOf f.type) ys' ht hys (fun m hm => hw m (.inr hm))
    have hlen : ((cs.drop f.offset).take (P.cellsOf f.type)).length = P.cellsOf f.type := by simp; omega
    rw [hlen] at ha1 ha3
    refine ⟨a ++ b, by simp; omega, ⟨a, b, rfl, ha2, hb2⟩, fun j hj => ?_⟩
    by_cases hja : j < a.length
    · rw [getD_append_left _ _ _ _ hja]
      have := ha3 j (by omega)
      rwa [take_drop_getD _ _ _ _ _ (by omega), hoff] at this
    · rw [getD_append_right _ _ _ _ (by omega)]
      simp only [List.length_append] at hj
      have := hb3 (j - a.length) (by omega)
      rwa [show acc + P.cellsOf f.type + (j - a.length) = acc + j by omega] at this

theorem open_trod : ∀ (fuel n0 : Nat) (t : TypeId) (cs : List Value) (d : DataW H) (ps : List MemPlace), DataW.trod enc P w 0 sp hd n0 t cs = some (d, ps) → plainT P fuel t = true → (∀ n ∈ d.weights P t, n ≤ reachBytes) → Opens P w fuel t cs
  | 0, n0, t, cs, d, ps, h, hp, hw => by simp [plainT] at hp
  | fuel + 1, 0, t, cs, d, ps, h, hp, hw => by simp [DataW.trod] at h
  | fuel + 1, n0 + 1, t, cs, d, ps, h, hp, hw => by
    unfold DataW.trod at h
    simp only [plainT] at hp
    cases hu : P.underlying t with
    | none => rw [hu] at hp; cases hp
    | some dsc =>
      rw [hu] at hp h
      cases dsc <;> simp only [Bool.false_eq_true] at hp
      case bool =>
        split at h <;> first | (cases h; done) | skip
        all_goals first | (exfalso; rename_i h1 _; cases h1; done) | (exfalso; rename_i h1; cases h1; done) | skip
        rename_i b _
        exact ⟨[.bool b], rfl, by simp [hasT, hu], fun j hj => by simp at hj; subst hj; exact .bool b⟩
      case int k =>
        split at h <;> first | (cases h; done) | skip
        all_goals first | (exfalso; rename_i h1 _; cases h1; done) | (exfalso; rename_i h1; cases h1; done) | skip
        rename_i k0 k' n heq
        cases heq
        split at h
        · rename_i hc
          obtain ⟨rfl, hwf⟩ := hc
          exact ⟨[.int k' n], rfl, by simp only [hasT, hu]; exact ⟨n, rfl, hwf⟩, fun j hj => by simp at hj; subst hj; exact .int k' n⟩
        · cases h
      case string =>
        split at h <;> first | (cases h; done) | skip
        all_goals first | (exfalso; rename_i h1 _; cases h1; done) | (exfalso; rename_i h1; cases h1; done) | skip
        rename_i s0 _
        split at h
        · cases h
          have hsz := hw s0.data.toList.length (by simp [DataW.weights])
          exact ⟨[.str s0], rfl, by simp only [hasT, hu]; exact ⟨s0, rfl, by simpa using hsz⟩, fun j hj => by simp at hj; subst hj; exact .str s0⟩
        · cases h
      case slice e =>
        simp only [Bool.and_eq_true, decide_eq_true_eq] at hp
        obtain ⟨⟨hc0, hb0⟩, hpe⟩ := hp
        split at h <;> first | (cases h; done) | skip
        all_goals first | (exfalso; rename_i h1 _; cases h1; done) | (exfalso; rename_i h1; cases h1; done) | skip
        · refine ⟨[.sl none none []], rfl, by simp only [hasT, hu]; exact ⟨[], rfl, Nat.zero_le _, by simp⟩, fun j hj => ?_⟩
          simp at hj; subst hj
          exact FRel.sl none none [] none 0 0 0 0 (fun _ _ => undef) (by simp) (by simp) (by simp) (by simp) (by simp) (by simp) (by simp) (by simp)
        · rename_i e0 a len cap heq
          cases heq
          split at h
          · rename_i hc
            simp only [Option.bind_eq_some_iff, Option.map_eq_some_iff] at h
            obtain ⟨elems, hel, rest, hrest, hdp⟩ := h
            cases hdp
            have hlen : elems.length = len := by
              have := mapM_some_length hel
              simpa using this
            have hsp : ∀ i, ∃ cx : List Value × List FV, i < len → w.cells? 0 (a.add (i * P.cellsOf e)) (P.cellsOf e) = some cx.1 ∧ cx.2.length = cx.1.length ∧ hasT P fuel e cx.2 ∧ ∀ j, j < cx.1.length → FRel (memF w) (cx.2.getD j .nilp) (cx.1.getD j undef) := fun i => by
              by_cases hi : i < len
              · have h1 := mapM_some_get hel i i (by simp [hi])
                have hi' : i < elems.length := by omega
                rw [List.getElem?_eq_getElem hi'] at h1
                simp only [Option.bind_eq_some_iff] at h1
                obtain ⟨ci, hci, htr⟩ := h1
                obtain ⟨xs, x1, x2, x3⟩ := open_trod fuel n0 e ci _ _ htr hpe fun n hn => hw n (by
                  simp only [DataW.weights, hu, List.mem_cons, List.mem_append]
                  exact .inr (.inl (weightsAll_mem (List.mem_map.2 ⟨elems[i], List.getElem_mem hi', rfl⟩) n hn)))
                exact ⟨(ci, xs), fun _ => ⟨hci, x1, x2, x3⟩⟩
              · exact ⟨([], []), fun h => absurd h hi⟩
            obtain ⟨f, hf⟩ := Classical.axiomOfChoice hsp
            have hbytes := hw (((elems.map (·.1)).length + (rest.map (·.1)).length) * P.bytesOf e) (by simp [DataW.weights, hu])
            have hlr : len ≤ reachBytes := by
              have h1 : len * 1 ≤ ((elems.map (·.1)).length + (rest.map (·.1)).length) * P.bytesOf e := Nat.mul_le_mul (by simp; omega) hb0
              omega
            have hrl : ((List.range len).map fun i => (f i).2).length = len := by simp
            have hrg : ∀ i, i < len → ((List.range len).map fun i => (f i).2).getD i [] = (f i).2 := fun i hi => by simp [List.getD_eq_getElem?_getD, hi]
            have hcl : ∀ i, i < len → (f i).1.length = P.cellsOf e := fun i hi => (World.cells?_some (hf i hi).1).2.1
            have hspot : 0 < len → a.spot = none := fun hl => by
              have h1 := (World.cells?_some (hf 0 hl).1).2.2 0 hc0
              rw [Nat.zero_mul, show (a.add 0).add 0 = a from rfl] at h1
              have h2 := hcl 0 hl
              cases hs : a.spot with
              | none => rfl
              | some q =>
                have : w.cell? a = none := by
                  unfold World.cell?
                  split
                  · rw [hs]; rfl
                  · rfl
                rw [this, List.getElem?_eq_getElem (by omega)] at h1
                cases h1
            refine ⟨[.sl none none ((List.range len).map fun i => (f i).2)], rfl, by simp only [hasT, hu]; exact ⟨_, rfl, by rw [hrl]; exact hlr, fun r hr => by
              obtain ⟨i, hi, rfl⟩ := List.mem_map.1 hr
              exact (hf i (List.mem_range.1 hi)).2.2.1⟩, fun j hj => ?_⟩
            simp at hj; subst hj
            have := FRel.sl (F := memF w) none none ((List.range len).map fun i => (f i).2) (some a) cap (P.cellsOf e) a.block a.off (fun i j => (f i).1.getD j undef) (by rw [hrl]; exact hc.2.1) (by rw [hrl]; exact Nat.le_trans hlr (by decide)) (by simp) (by simp)
              (fun i hi => by rw [hrl] at hi; rw [hrg i hi, (hf i hi).2.1, hcl i hi]) (fun hl => by
                rw [hrl] at hl
                have hs := hspot hl
                obtain ⟨ab, ao, asp⟩ := a
                simp only at hs
                subst hs
                rfl) (fun i j hi hj => ?_) (fun i j hi hj => ?_)
            · rwa [hrl] at this
            · rw [hrl] at hi
              have h1 := (World.cells?_some (hf i hi).1).2.2 j hj
              have hs := hspot (by omega)
              obtain ⟨ab, ao, asp⟩ := a
              simp only at hs
              subst hs
              rw [addr_add, addr_add, List.getElem?_eq_getElem (by rw [hcl i hi]; exact hj)] at h1
              show w.cell? ⟨ab, ao + (i * P.cellsOf e + j), none⟩ = some ((f i).1.getD j undef)
              rw [← Nat.add_assoc, h1]
              simp [List.getD_eq_getElem?_getD, List.getElem?_eq_getElem (show j < (f i).1.length by rw [hcl i hi]; exact hj)]
            · rw [hrl] at hi
              rw [hrg i hi]
              exact (hf i hi).2.2.2 j (by rw [hcl i hi]; exact hj)
          · cases h
      case struct fs =>
        split at h <;> first | (cases h; done) | skip
        all_goals first | (exfalso; rename_i h1 _; cases h1; done) | (exfalso; rename_i h1; cases h1; done) | (exfalso; simp_all; done) | skip
        rename_i fs0 heq
        cases heq
        split at h
        · rename_i hl
          simp only [Option.map_eq_some_iff] at h
          obtain ⟨ys, hys, hdp⟩ := h
          cases hdp
          obtain ⟨xs, h1, h2, h3⟩ := open_fields (open_trod fuel n0) _ hl fs.toList 0 ys hp hys (fun m hm => hw m (by simp only [DataW.weights, hu]; exact hm))
          rw [Nat.zero_add] at h1
          exact ⟨xs, by omega, by simp only [hasT, hu]; exact h2, fun j hj => by have := h3 j (by omega); rwa [Nat.zero_add] at this⟩
        · cases h

def isSt (P : Program) (t : TypeId) : Bool := match P.underlying t with | some (.struct _) => true | _ => false
/-- What an argument of a type is. -/
def ArgT (P : Program) (m : Nat) (t : TypeId) (x : AV) : Prop := ∃ xs, hasT P m t xs ∧ if isSt P t then x = .agg (xs.map .fv) else ∃ y, xs = [y] ∧ x = .fv y
def gh0 (w : World) : Gh := { F := memF w, ρ := fun _ => (0, 0), dom := fun _ => False }
theorem rel_gh0 (w : World) : Rel (gh0 w) w [] where
  fok b o v h := h
  obj k e o h := by cases h
  inj k k' e o e' o' h := by cases h
  fin := ⟨0, fun e h => False.elim h⟩

theorem open_arg {m : Nat} {r : Reach} {base : Nat} {t : TypeId} {v : Value} {d : DataW H} {ps : List MemPlace} (hval : Value.okWide P w r base t v) (h : DataW.Trod enc P w 0 sp hd t v d ps) (hp : plainT P m t = true) (hw : ∀ n ∈ d.weights P t, n ≤ reachBytes) :
    ∃ x, ArgT P m t x ∧ VRel (gh0 w) x v := by
  obtain ⟨n, hn⟩ := h
  obtain ⟨xs, h1, h2, h3⟩ := open_trod m n t _ d ps hn hp hw
  cases m with
  | zero => simp [plainT] at hp
  | succ m =>
    have hsplit : (isSt P t = true ∧ ∃ cs, v = .agg cs) ∨ (isSt P t = false ∧ ∃ y, xs = [y] ∧ v.cells = #[v]) := by
      unfold Value.okWide at hval
      unfold isSt
      simp only [plainT] at hp
      simp only [hasT] at h2
      cases hu : P.underlying t with
      | none => rw [hu] at hp; cases hp
      | some dsc =>
        rw [hu] at hp hval h2
        cases dsc <;> simp only [Bool.false_eq_true] at hp <;> simp only [] at hval h2 ⊢
        case struct fs =>
          obtain ⟨cs, rfl, _⟩ := hval
          exact .inl ⟨trivial, cs, rfl⟩
        case bool =>
          obtain ⟨b, rfl⟩ := h2
          refine .inr ⟨trivial, _, rfl, ?_⟩
          cases v <;> simp [Cell.okWide, Cell.ok, hu] at hval ⊢ <;> rfl
        case int k =>
          obtain ⟨b, rfl, _⟩ := h2
          refine .inr ⟨trivial, _, rfl, ?_⟩
          cases v <;> simp [Cell.okWide, Cell.ok, hu] at hval ⊢ <;> rfl
        case string =>
          obtain ⟨b, rfl, _⟩ := h2
          refine .inr ⟨trivial, _, rfl, ?_⟩
          cases v <;> simp [Cell.okWide, Cell.ok, hu] at hval ⊢ <;> rfl
        case slice e =>
          obtain ⟨b, rfl, _⟩ := h2
          refine .inr ⟨trivial, _, rfl, ?_⟩
          cases v <;> simp [Cell.okWide, Cell.ok, hu] at hval ⊢ <;> rfl
    rcases hsplit with ⟨hst, cs, rfl⟩ | ⟨hst, y, rfl, hv⟩
    · refine ⟨.agg (xs.map .fv), ⟨xs, h2, by simp [hst]⟩, .agg _ _ (by simpa [Value.cells] using h1.symm) fun i hi => ?_⟩
      simp only [List.length_map] at hi
      have := h3 i (by omega)
      simp only [Value.cells] at this
      rw [list_getD] at this
      have h4 := VRel.fv (G := gh0 w) _ _ this
      simpa [List.getD_eq_getElem?_getD, List.getElem?_map, List.getElem?_eq_getElem hi] using h4
    · refine ⟨.fv y, ⟨[y], h2, by simp [hst]⟩, .fv _ _ ?_⟩
      have := h3 0 (by rw [hv]; simp)
      rw [hv] at this
      show FRel (memF w) y v
      simpa using this
end
end Go.Proofs.RL
