/- An abstract state for the walks of this claim: values, rows and variables of the call's own, and how they lie in the model's memory. Conditions: none. -/
import Derived.OrdersIn
import Derived.RangeFuncIn
import Derived.RangeFuncRecord
import Derived.Laws.OwnMore
import Derived.Laws.Rows
import Derived.Laws.MakeOwn
import Derived.Laws.Slices
import Derived.IntWalk
import Derived.KernelRfl
set_option linter.unusedVariables false
set_option linter.unusedSimpArgs false
namespace Go.Proofs.RL

/-- A value that never changes: what a slice of it holds lies frozen in memory. -/
inductive FV where
  | int (k : IntKind) (n : Int)
  | bool (b : Bool)
  | str (s : ByteArray)
  | nilp
  | nilf
  | nili
  | nilm
  | func (f : FuncId)
  | iface (t : TypeId) (x : FV)
  | sl (nl : Option Bool) (cap : Option Nat) (xs : List (List FV))
  deriving Inhabited

abbrev FMap := Nat → Nat → Option Value

inductive FRel (F : FMap) : FV → Value → Prop where
  | int (k : IntKind) (n : Int) : FRel F (.int k n) (.int k n)
  | bool (b : Bool) : FRel F (.bool b) (.bool b)
  | str (s : ByteArray) : FRel F (.str s) (.string s)
  | nilp : FRel F .nilp (.pointer none)
  | nilf : FRel F .nilf .nilFunc
  | nili : FRel F .nili .nilIface
  | nilm : FRel F .nilm (.map none)
  | func (f : FuncId) : FRel F (.func f) (.func (.func f) #[] #[])
  | iface (t : TypeId) (x : FV) (v : Value) (h : FRel F x v) : FRel F (.iface t x) (.iface t v)
  | sl (nl : Option Bool) (cap : Option Nat) (xs : List (List FV)) (a : Option Addr) (c sz b off : Nat) (vs : Nat → Nat → Value)
      (hle : xs.length ≤ c) (hbig : xs.length ≤ 281474976710656) (hc : ∀ k, cap = some k → c = k) (hnl : ∀ b, nl = some b → b = a.isNone)
      (hsz : ∀ i, i < xs.length → (xs.getD i []).length = sz) (had : 0 < xs.length → a = some ⟨b, off, none⟩)
      (hF : ∀ i j, i < xs.length → j < sz → F b (off + (i * sz + j)) = some (vs i j))
      (hR : ∀ i j, i < xs.length → j < sz → FRel F ((xs.getD i []).getD j .nilp) (vs i j)) :
      FRel F (.sl nl cap xs) (.slice a xs.length c)

def FLe (F F' : FMap) : Prop := ∀ b o v, F b o = some v → F' b o = some v
theorem FLe.refl (F : FMap) : FLe F F := fun _ _ _ h => h
theorem FLe.trans {F F' F'' : FMap} (h : FLe F F') (h' : FLe F' F'') : FLe F F'' := fun b o v k => h' b o v (h b o v k)

theorem FRel.mono {F F' : FMap} (hF : FLe F F') {x : FV} {v : Value} (h : FRel F x v) : FRel F' x v := by
  induction h with
  | int k n => exact .int k n
  | bool b => exact .bool b
  | str s => exact .str s
  | nilp => exact .nilp
  | nilf => exact .nilf
  | nili => exact .nili
  | nilm => exact .nilm
  | func f => exact .func f
  | iface t x v _ ih => exact .iface t x v ih
  | sl nl cap xs a c sz b off vs hle hbig hc hnl hsz had hFF _ ih =>
    exact .sl nl cap xs a c sz b off vs hle hbig hc hnl hsz had (fun i j hi hj => hF _ _ _ (hFF i j hi hj)) ih

/-- A value in a frame, or in a variable of the call's own. 'k': the key of an object, 'e': its epoch. -/
inductive AV where
  | fv (x : FV)
  | ms (k e sz off len : Nat) (cap : Option Nat)
  | ptr (k e o : Nat)
  | eptr (k e sz i f : Nat)
  | fptr (cells : List FV)
  | clo (f : FuncId) (first caps : List AV)
  | mp (k e : Nat)
  | yld (k e : Nat)
  | agg (cs : List AV)
  | tup (vs : List AV)
  | junk
  deriving Inhabited

/-- The ghost: what is frozen; where an epoch's block lies, and how many elements fit; which epochs are in use. -/
structure Gh where
  F : FMap
  ρ : Nat → Nat × Nat
  dom : Nat → Prop

inductive VRel (G : Gh) : AV → Value → Prop where
  | fv (x : FV) (v : Value) (h : FRel G.F x v) : VRel G (.fv x) v
  | ms (k e sz off len : Nat) (cap : Option Nat) (a : Option Addr) (c : Nat) (hd : G.dom e) (hc : ∀ q, cap = some q → c = q) (hle : len ≤ c)
      (hbig : len ≤ 281474976710656) (hb : off + c ≤ (G.ρ e).2) (ha : 0 < c → a = some ⟨(G.ρ e).1, off * sz, none⟩) : VRel G (.ms k e sz off len cap) (.slice a len c)
  | ptr (k e o : Nat) (hd : G.dom e) : VRel G (.ptr k e o) (.pointer (some ⟨(G.ρ e).1, o, none⟩))
  | eptr (k e sz i f : Nat) (hd : G.dom e) : VRel G (.eptr k e sz i f) (.pointer (some ⟨(G.ρ e).1, i * sz + f, none⟩))
  | fptr (cells : List FV) (b o : Nat) (vs : Nat → Value) (hF : ∀ j, j < cells.length → G.F b (o + j) = some (vs j))
      (hR : ∀ j, j < cells.length → FRel G.F (cells.getD j .nilp) (vs j)) : VRel G (.fptr cells) (.pointer (some ⟨b, o, none⟩))
  | clo (f : FuncId) (first caps : List AV) (vf vc : Array Value) (hf : vf.size = first.length) (hc : vc.size = caps.length)
      (hF : ∀ i, i < first.length → VRel G (first.getD i .junk) (vf.getD i undef)) (hC : ∀ i, i < caps.length → VRel G (caps.getD i .junk) (vc.getD i undef)) :
      VRel G (.clo f first caps) (.func (.func f) vf vc)
  | mp (k e : Nat) (hd : G.dom e) : VRel G (.mp k e) (.map (some (G.ρ e).1))
  | yld (k e : Nat) (hd : G.dom e) : VRel G (.yld k e) (.func (.yield (G.ρ e).1) #[] #[])
  | agg (cs : List AV) (vs : Array Value) (hl : vs.size = cs.length) (h : ∀ i, i < cs.length → VRel G (cs.getD i .junk) (vs.getD i undef)) : VRel G (.agg cs) (.agg vs)
  | tup (cs : List AV) (vs : Array Value) (hl : vs.size = cs.length) (h : ∀ i, i < cs.length → VRel G (cs.getD i .junk) (vs.getD i undef)) : VRel G (.tup cs) (.tuple vs)
  | junk (v : Value) : VRel G .junk v

structure GLe (G G' : Gh) : Prop where
  F : FLe G.F G'.F
  dom : ∀ e, G.dom e → G'.dom e
  ρ : ∀ e, G.dom e → G'.ρ e = G.ρ e
theorem GLe.refl (G : Gh) : GLe G G := ⟨.refl _, fun _ h => h, fun _ _ => rfl⟩
theorem GLe.trans {G G' G'' : Gh} (h : GLe G G') (h' : GLe G' G'') : GLe G G'' :=
  ⟨h.F.trans h'.F, fun e he => h'.dom e (h.dom e he), fun e he => (h'.ρ e (h.dom e he)).trans (h.ρ e he)⟩

theorem VRel.mono {G G' : Gh} (hG : GLe G G') {x : AV} {v : Value} (h : VRel G x v) : VRel G' x v := by
  induction h with
  | fv x v h => exact .fv x v (h.mono hG.F)
  | ms k e sz off len cap a c hd hc hle hbig hb ha =>
    exact .ms k e sz off len cap a c (hG.dom e hd) hc hle hbig (by rw [hG.ρ e hd]; exact hb) (by rw [hG.ρ e hd]; exact ha)
  | ptr k e o hd => have := VRel.ptr (G := G') k e o (hG.dom e hd); rwa [hG.ρ e hd] at this
  | eptr k e sz i f hd => have := VRel.eptr (G := G') k e sz i f (hG.dom e hd); rwa [hG.ρ e hd] at this
  | fptr cells b o vs hF hR => exact .fptr cells b o vs (fun j hj => hG.F _ _ _ (hF j hj)) (fun j hj => (hR j hj).mono hG.F)
  | clo f first caps vf vc hf hc _ _ ih1 ih2 => exact .clo f first caps vf vc hf hc ih1 ih2
  | mp k e hd => have := VRel.mp (G := G') k e (hG.dom e hd); rwa [hG.ρ e hd] at this
  | yld k e hd => have := VRel.yld (G := G') k e (hG.dom e hd); rwa [hG.ρ e hd] at this
  | agg cs vs hl _ ih => exact .agg cs vs hl ih
  | tup cs vs hl _ ih => exact .tup cs vs hl ih
  | junk v => exact .junk v

/-- An object of the call's own: a variable; a row; a map. -/
inductive AObj where
  | var (cells : List AV)
  | row (sz : Nat) (xs : List (List AV))
  | mp (es : List (Int × AV))
  | lp (r : Loop)
  deriving Inhabited

abbrev Ob := List (Nat × Nat × AObj)
def oget : Ob → Nat → Option (Nat × AObj)
  | [], _ => none
  | (k', e, o) :: r, k => if k' = k then some (e, o) else oget r k
def oset : Ob → Nat → Nat → AObj → Ob
  | [], k, e, o => [(k, e, o)]
  | (k', e', o') :: r, k, e, o => if k' = k then (k, e, o) :: r else (k', e', o') :: oset r k e o
def odel : Ob → Nat → Ob
  | [], _ => []
  | (k', e', o') :: r, k => if k' = k then odel r k else (k', e', o') :: odel r k

theorem oget_oset (ob : Ob) (k e : Nat) (o : AObj) (j : Nat) : oget (oset ob k e o) j = if k = j then some (e, o) else oget ob j := by
  induction ob with
  | nil => simp [oset, oget]
  | cons x r ih =>
    obtain ⟨k', e', o'⟩ := x
    simp only [oset]
    split
    · rename_i h; subst h; simp only [oget]; split <;> simp_all
    · rename_i h
      simp only [oget, ih]
      split
      · rename_i h2; subst h2; rw [if_neg (fun h3 => h h3.symm)]
      · rfl
theorem oget_odel (ob : Ob) (k j : Nat) : oget (odel ob k) j = if k = j then none else oget ob j := by
  induction ob with
  | nil => simp [odel, oget]
  | cons x r ih =>
    obtain ⟨k', e', o'⟩ := x
    simp only [odel]
    split
    · rename_i h; subst h; rw [ih]; simp only [oget]; split <;> simp_all
    · rename_i h
      simp only [oget, ih]
      split
      · rename_i h2; subst h2; rw [if_neg (fun h3 => h h3.symm)]
      · rfl

/-- Does the object own a block? -/
def owns (G : Gh) (e : Nat) : AObj → Prop
  | .var _ => True
  | .row _ _ => 0 < (G.ρ e).2
  | .mp _ => True
  | .lp _ => True

def ObjOK (G : Gh) (w : World) (e : Nat) : AObj → Prop
  | .var cells => ∃ vs t, w.heap[(G.ρ e).1]? = some (.cells vs t (0, 0)) ∧ vs.size = cells.length ∧ (∀ j, j < cells.length → VRel G (cells.getD j .junk) (vs.getD j undef)) ∧
      (∀ o, G.F (G.ρ e).1 o = none)
  | .row sz xs => xs.length ≤ (G.ρ e).2 ∧ (∀ i, i < xs.length → (xs.getD i []).length = sz) ∧ (0 < (G.ρ e).2 → ∃ vs t, w.heap[(G.ρ e).1]? = some (.cells vs t (0, 0)) ∧ vs.size = (G.ρ e).2 * sz ∧
      (∀ i j, i < xs.length → j < sz → VRel G ((xs.getD i []).getD j .junk) (vs.getD (i * sz + j) undef)) ∧ (∀ o, G.F (G.ρ e).1 o = none))
  | .mp es => ∃ ents clock, w.heap[(G.ρ e).1]? = some (.map ents clock) ∧ ents.size = es.length ∧
      (∀ i, i < es.length → (ents.getD i default).key = .int .i64 (es.getD i (0, .junk)).1 ∧ VRel G (es.getD i (0, .junk)).2 (ents.getD i default).val) ∧ (∀ o, G.F (G.ρ e).1 o = none)
  | .lp r => w.heap[(G.ρ e).1]? = some (.loop r) ∧ (∀ o, G.F (G.ρ e).1 o = none)

structure Rel (G : Gh) (w : World) (ob : Ob) : Prop where
  fok : ∀ b o v, G.F b o = some v → w.cell? ⟨b, o, none⟩ = some v
  obj : ∀ k e o, oget ob k = some (e, o) → G.dom e ∧ ObjOK G w e o
  inj : ∀ k k' e o e' o', oget ob k = some (e, o) → oget ob k' = some (e', o') → k ≠ k' → owns G e o → owns G e' o' → (G.ρ e).1 ≠ (G.ρ e').1
  fin : ∃ N, ∀ e, G.dom e → e < N

/-- The blocks that the objects own. -/
def Own (G : Gh) (ob : Ob) (b : Nat) : Prop := ∃ k e o, oget ob k = some (e, o) ∧ owns G e o ∧ (G.ρ e).1 = b

/-- From one world to a later one: what isn't owned has not turned. -/
structure Fr (G : Gh) (w : World) (ob : Ob) (G' : Gh) (w' : World) (ob' : Ob) : Prop where
  le : GLe G G'
  os : w'.os = w.os
  tape : w'.tape = w.tape
  output : w'.output = w.output
  size : w.heap.size ≤ w'.heap.size
  heap : ∀ b, b < w.heap.size → ¬ Own G ob b → w'.heap[b]? = w.heap[b]?
  own : ∀ b, Own G' ob' b → b < w.heap.size → Own G ob b
  F : ∀ b o, b < w.heap.size → ¬ Own G ob b → G'.F b o = G.F b o
  frz : ∀ a : Addr, w'.frozen? a = w.frozen? a

theorem Fr.refl (G : Gh) (w : World) (ob : Ob) : Fr G w ob G w ob :=
  ⟨.refl G, rfl, rfl, rfl, Nat.le_refl _, fun _ _ _ => rfl, fun _ h _ => h, fun _ _ _ _ => rfl, fun _ => rfl⟩
theorem Fr.trans {G G1 G2 : Gh} {w w1 w2 : World} {ob ob1 ob2 : Ob} (h : Fr G w ob G1 w1 ob1) (k : Fr G1 w1 ob1 G2 w2 ob2) : Fr G w ob G2 w2 ob2 where
  le := h.le.trans k.le
  os := k.os.trans h.os
  tape := k.tape.trans h.tape
  output := k.output.trans h.output
  size := Nat.le_trans h.size k.size
  heap b hb hn := (k.heap b (Nat.lt_of_lt_of_le hb h.size) (fun o => hn (h.own b o hb))).trans (h.heap b hb hn)
  own b o hb := h.own b (k.own b o (Nat.lt_of_lt_of_le hb h.size)) hb
  frz a := (k.frz a).trans (h.frz a)
  F b o hb hn := (k.F b o (Nat.lt_of_lt_of_le hb h.size) (fun q => hn (h.own b q hb))).trans (h.F b o hb hn)

end Go.Proofs.RL
