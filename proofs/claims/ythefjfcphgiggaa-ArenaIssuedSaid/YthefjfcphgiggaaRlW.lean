/- Contracts: beside what a call does not touch; with less told of slices. Conditions: none. -/
import Derived.Test.YthefjfcphgiggaaRlV
set_option linter.unusedVariables false
set_option linter.unusedSimpArgs false
namespace Go.Proofs.RL

theorem oget_append (a b : Ob) (k : Nat) : oget (a ++ b) k = match oget a k with | some x => some x | none => oget b k := by
  induction a with
  | nil => rfl
  | cons x r ih =>
    obtain ⟨k', e, o⟩ := x
    simp only [List.cons_append, oget]
    split
    · rfl
    · exact ih

section
variable {P : Program} {Y : YT} {f : FuncId} {args : List AV} {ob : Ob} {K K' : AV → Ob → Prop}

theorem FnA.mono (h : FnA P Y f args ob K) (hk : ∀ r ob, K r ob → K' r ob) : FnA P Y f args ob K' :=
  ⟨h.1, fun G w vs hY hR hl hv => (h.2 G w vs hY hR hl hv).mono fun e w' he => by
    cases e with
    | returned v => obtain ⟨G', r, ob', h1, h2, h3, h4⟩ := he; exact ⟨G', r, ob', hk _ _ h1, h2, h3, h4⟩
    | panicked c => exact he
    | outgrown => exact he⟩

theorem own_nil {G : Gh} {b : Nat} : ¬ Own G [] b := fun ⟨k, e, o, h, _⟩ => by cases h

theorem rel_beside {G G' : Gh} {w w' : World} {ob ob1 : Ob} (hR : Rel G w ob) (hR' : Rel G' w' ob1) (hF : Fr G w [] G' w' ob1) : Rel G' w' (ob1 ++ ob) ∧ Fr G w ob G' w' (ob1 ++ ob) := by
  have hold : ∀ k e o, oget ob k = some (e, o) → G'.dom e ∧ ObjOK G' w' e o := fun k e o hk => by
    obtain ⟨h1, h2⟩ := hR.obj k e o hk
    refine ⟨hF.le.dom e h1, objOK_keep hF.le h1 (fun ho => hF.heap _ (objOK_lt h2 ho) own_nil) (fun ho j => hF.F _ _ (objOK_lt h2 ho) own_nil) h2⟩
  have hget : ∀ k e o, oget (ob1 ++ ob) k = some (e, o) → oget ob1 k = some (e, o) ∨ (oget ob1 k = none ∧ oget ob k = some (e, o)) := fun k e o hk => by
    rw [oget_append] at hk
    split at hk
    · rename_i x hx; cases hk; exact .inl hx
    · rename_i hx; exact .inr ⟨hx, hk⟩
  have hnew : ∀ k e o, oget ob1 k = some (e, o) → owns G' e o → w.heap.size ≤ (G'.ρ e).1 := fun k e o hk ho => by
    rcases Nat.lt_or_ge (G'.ρ e).1 w.heap.size with h | h
    · exact absurd (hF.own _ ⟨k, e, o, hk, ho, rfl⟩ h) own_nil
    · exact h
  have hlt : ∀ k e o, oget ob k = some (e, o) → owns G' e o → (G'.ρ e).1 < w.heap.size ∧ (G'.ρ e) = G.ρ e ∧ owns G e o := fun k e o hk ho => by
    obtain ⟨h1, h2⟩ := hR.obj k e o hk
    have ho' := (owns_le hF.le h1).1 ho
    have := objOK_lt h2 ho'
    exact ⟨by rw [hF.le.ρ e h1]; exact this, hF.le.ρ e h1, ho'⟩
  refine ⟨⟨hR'.fok, fun k e o hk => ?_, fun k k' e o e' o' hk hk' hne ho ho' => ?_, hR'.fin⟩, ⟨hF.le, hF.os, hF.tape, hF.output, hF.size, fun b hb _ => hF.heap b hb own_nil, fun b hb hlt' => ?_, fun b o hb _ => hF.F b o hb own_nil, hF.frz⟩⟩
  · rcases hget k e o hk with h | ⟨_, h⟩
    · exact hR'.obj k e o h
    · exact hold k e o h
  · rcases hget k e o hk with h | ⟨_, h⟩ <;> rcases hget k' e' o' hk' with h' | ⟨_, h'⟩
    · exact hR'.inj k k' e o e' o' h h' hne ho ho'
    · have h1 := hnew k e o h ho
      have h2 := (hlt k' e' o' h' ho').1
      omega
    · have h1 := hnew k' e' o' h' ho'
      have h2 := (hlt k e o h ho).1
      omega
    · obtain ⟨_, e1, o1⟩ := hlt k e o h ho
      obtain ⟨_, e2, o2⟩ := hlt k' e' o' h' ho'
      rw [e1, e2]
      exact hR.inj k k' e o e' o' h h' hne o1 o2
  · obtain ⟨k, e, o, hk, ho, rfl⟩ := hb
    rcases hget k e o hk with h | ⟨_, h⟩
    · have := hnew k e o h ho; omega
    · obtain ⟨_, e1, o1⟩ := hlt k e o h ho
      exact ⟨k, e, o, h, o1, by rw [e1]⟩

/-- A call that reaches no object of the caller's own leaves them. -/
theorem FnA.frame0 (h : FnA P Y f args [] K) : FnA P Y f args ob fun r ob' => ∃ ob1, K r ob1 ∧ ob' = ob1 ++ ob := by
  refine ⟨h.1, fun G w vs hY hR hl hv => ?_⟩
  obtain ⟨hR0, _⟩ := rel_sub (ob' := []) hR (fun k e o hk => by cases hk)
  refine (h.2 G w vs hY hR0 hl hv).mono fun e w' he => ?_
  cases e with
  | returned v =>
    obtain ⟨G', r, ob1, hk, hv, hR', hF'⟩ := he
    obtain ⟨h1, h2⟩ := rel_beside hR hR' hF'
    exact ⟨G', r, ob1 ++ ob, ⟨ob1, hk, rfl⟩, hv, h1, h2⟩
  | panicked c => exact he
  | outgrown => exact he

/-- A call that hands back r (told less of slices) and leaves nothing else. -/
def isR (r : AV) : AV → Ob → Prop := fun r' ob' => r'.wk = r ∧ ob' = []
theorem isR_mk {r r' : AV} {ob' : Ob} (h : r'.wk = r) (h' : ob' = []) : isR r r' ob' := ⟨h, h'⟩
structure PureA (P : Program) (f : FuncId) (args : List AV) (r : AV) : Prop where
  out : ∀ Y, FnA P Y f args [] (isR r)

theorem PureA.use {r : AV} (h : PureA P f args r) (hk : K r ob) : FnA P Y f args ob K := by
  have h1 := (h.out Y).frame0 (ob := ob)
  refine ⟨h1.1, fun G w vs hY hR hl hv => (h1.2 G w vs hY hR hl hv).mono fun e w' he => ?_⟩
  cases e with
  | returned v =>
    obtain ⟨G', r', ob', ⟨ob1, ⟨rfl, rfl⟩, rfl⟩, h2, h3, h4⟩ := he
    exact ⟨G', _, _, hk, vrel_wk h2, h3, h4⟩
  | panicked c => exact he
  | outgrown => exact he
end
end Go.Proofs.RL
