/- From the model's operations to their abstract twins; every twin is true of its operation. Conditions: none. -/
import Derived.Test.YthefjfcphgiggaaRlL
set_option linter.unusedVariables false
set_option linter.unusedSimpArgs false
namespace Go.Proofs.RL

def sameOpd : Operand → Operand → Bool
  | .tmp a, .tmp b => a == b
  | .const (.int k n), .const (.int k' n') => k == k' && n == n'
  | _, _ => false
theorem sameOpd_eq {x y : Operand} (h : sameOpd x y = true) : x = y := by
  unfold sameOpd at h
  split at h
  · simp only [beq_iff_eq] at h; rw [h]
  · simp only [Bool.and_eq_true, beq_iff_eq] at h; rw [h.1, h.2]
  · cases h

def trBin (P : Program) (op : BinOp) (t : TypeId) (x y : Operand) : Option AOp :=
  match op with
  | .eql | .neq =>
    match P.underlying t with
    | some (.int _) | some .string => (trOpd x).bind fun x' => (trOpd y).map fun y' => .bin op x' y'
    | some .bool => (trOpd x).bind fun x' => (trOpd y).map fun y' => .eqB (op == .neq) x' y'
    | some (.struct fs) => (fieldKs P 0 fs.toList).bind fun ks => if P.stoodInHeld t = false ∧ P.eqGuardType P.depth t = false then (trOpd x).bind fun x' => (trOpd y).map fun y' => .eqAgg (op == .neq) ks x' y' else none
    | some d =>
      match y with
      | .const v0 => (nilKd d v0).bind fun kd => (trOpd x).map fun x' => .eqNil kd (op == .neq) x'
      | _ => none
    | none => none
  | op => (trOpd x).bind fun x' => (trOpd y).map fun y' => .bin op x' y'

def trIdx (P : Program) (t : TypeId) (x y : Operand) : Option AOp :=
  match P.underlying t with
  | some (.slice el) => (P.info? el).bind fun i => (trOpd x).bind fun x' => (trOpd y).map fun y' => .idxA i.size x' y'
  | some (.array n el) => (P.info? el).bind fun i => (trOpd x).bind fun x' => (trOpd y).map fun y' => .idxArr n i.size x' y'
  | _ => none

def trSlice (P : Program) (t : TypeId) (x : Operand) (lo hi mx : Option Operand) : Option AOp :=
  match P.underlying t with
  | some (.slice el) => (P.info? el).bind fun i => (trOpd x).bind fun x' => (trO lo).bind fun lo' => (trO hi).bind fun hi' => (trO mx).bind fun mx' => if mx.isSome && hi.isNone then none else some (.slice i.size x' lo' hi' mx')
  | some .string => if mx.isSome then none else (trOpd x).bind fun x' => (trO lo).bind fun lo' => (trO hi).map fun hi' => .sliceStr x' lo' hi'
  | _ => none

def trElem (P : Program) (el : TypeId) : Option (TypeInfo × List FV) :=
  (P.info? el).bind fun i => (zAt P el).bind fun z => if z.length = i.size ∧ 0 < i.size ∧ 0 < i.bytes then some (i, z) else none
theorem trElem_spec {P : Program} {el : TypeId} {i : TypeInfo} {z : List FV} (h : trElem P el = some (i, z)) : P.info? el = some i ∧ zAt P el = some z ∧ z.length = i.size ∧ 0 < i.size ∧ 0 < i.bytes := by
  simp only [trElem, Option.bind_eq_some_iff] at h
  obtain ⟨i', hi, z', hz, h⟩ := h
  split at h
  · rename_i hc; cases h; exact ⟨hi, hz, hc⟩
  · cases h

def trBuiltin (P : Program) (b : Builtin) (args : List Operand) (ts : List TypeId) : Option AOp :=
  match b, args, ts with
  | .len, [x], [t] => match P.underlying t with
    | some (.slice _) => (trOpd x).map (.len false)
    | some .string => (trOpd x).map (.len true)
    | _ => none
  | .cap, [x], [t] => match P.underlying t with
    | some (.slice _) => (trOpd x).map .cap
    | _ => none
  | .append, [s, x], [t, t'] => match P.underlying t, P.underlying t' with
    | some (.slice el), some (.slice _) => (trElem P el).bind fun (i, _) => (trOpd s).bind fun s' => (trOpd x).map fun x' => .append i.size i.bytes s' x'
    | _, _ => none
  | .min, [x, y], _ => (trOpd x).bind fun x' => (trOpd y).map fun y' => .minmax false x' y'
  | .max, [x, y], _ => (trOpd x).bind fun x' => (trOpd y).map fun y' => .minmax true x' y'
  | _, _, _ => none

def trOp (P : Program) : Op → Option AOp
  | .move x => (trOpd x).map .mv
  | .assign x => (trOpd x).map .mv
  | .pick c a b => (trOpd c).bind fun c' => (trOpd a).bind fun a' => (trOpd b).map fun b' => .pick c' a' b'
  | .alloc t => (zAt P t).map .alloc
  | .box _ x => (trOpd x).map .box
  | .build t parts => (placesT P t).bind fun pl => (zAt P t).bind fun z => (trParts pl parts.toList).map fun ps => .build z ps
  | .buildSlice t len parts => match P.underlying t with
    | some (.slice el) => (trElem P el).bind fun (i, z) => (trRowParts parts.toList).bind fun ps => if len * i.size ≤ 2 ^ 24 then some (.buildSl i.size len z ps) else none
    | _ => none
  | .load t p => (tyAt P t).bind fun (ag, sz) => (trOpd p).map fun p' => .load ag sz p'
  | .store t p x => (tyAt P t).bind fun (_, sz) => (trOpd p).bind fun p' => (trOpd x).map fun x' => .store sz p' x'
  | .nilCheck x => (trOpd x).map .nilCheck
  | .binOp op t x y _ => trBin P op t x y
  | .unOp .not _ x => (trOpd x).map .not
  | .unOp .neg _ x => (trOpd x).map .neg
  | .convert s t x => match P.underlying s, P.underlying t with
    | some (.int _), some (.int k) => (trOpd x).map (.conv k)
    | _, _ => none
  | .makeInterface t x => match P.underlying t with
    | some (.interface _) => none
    | some _ => (trOpd x).map (.mkIface t)
    | none => none
  | .makeFunc (.func f) first caps => (first.toList.mapM trOpd).bind fun f' => (caps.toList.mapM trOpd).map fun c' => .mkFunc f f' c'
  | .makeSlice t l c => if sameOpd l c then match P.underlying t with
    | some (.slice el) => (trElem P el).bind fun (i, z) => (trOpd l).map fun l' => .mkSl i.size i.bytes z l'
    | _ => none else none
  | .slice t x lo hi mx => trSlice P t x lo hi mx
  | .fieldAddr t x f => (fieldAtT P t f).bind fun (off, _, _) => (trOpd x).map fun x' => .fieldAddr off x'
  | .field t x f => (fieldAtT P t f).bind fun (off, ag, sz) => (trOpd x).map fun x' => .field ag off sz x'
  | .indexAddr t x y => trIdx P t x y
  | .index t x y => match P.underlying t with
    | some .string => (trOpd x).bind fun x' => (trOpd y).map fun y' => .idxS x' y'
    | _ => none
  | .extract x i => (trOpd x).map fun x' => .extract x' i
  | .makeMap _ none => some .mkMap
  | .call { callee := .builtin b, args, argTypes } => trBuiltin P b args.toList argTypes.toList
  | _ => none

section
variable {P : Program} {o : Oper} {a : Act} {w : World} {G : Gh} {ob : Ob} {tm : Tm} {d e : Nat} {K : Kont}

theorem step_sound {ao : AOp} {tk : Bool} (htr : trOp P o.op = some ao) (he : ¬ G.dom e) (hT : TRel G tm a) (hR : Rel G w ob)
    (h : ∀ q, stepOp ao tm (oget ob) d e (if tk then some q else none) K) : Out P o a w G ob d e K := by
  have h0 := h 0
  cases ho : o.op <;> rw [ho] at htr <;> simp only [trOp] at htr <;> try (cases htr; done)
  case move x => obtain ⟨x', hx, rfl⟩ := Option.map_eq_some_iff.1 htr; exact op_mv (.inl ho) hx hT hR h0
  case assign x => obtain ⟨x', hx, rfl⟩ := Option.map_eq_some_iff.1 htr; exact op_mv (.inr ho) hx hT hR h0
  case pick x y z =>
    simp only [Option.bind_eq_some_iff, Option.map_eq_some_iff] at htr
    obtain ⟨x', hx, y', hy, z', hz, rfl⟩ := htr
    exact op_pick ho hx hy hz hT hR h0
  case alloc t => obtain ⟨z, hz, rfl⟩ := Option.map_eq_some_iff.1 htr; exact op_alloc ho hz he hR h0
  case box t x => obtain ⟨x', hx, rfl⟩ := Option.map_eq_some_iff.1 htr; exact op_box ho hx he hT hR h0
  case build t parts =>
    simp only [Option.bind_eq_some_iff, Option.map_eq_some_iff] at htr
    obtain ⟨pl, hpl, z, hz, ps, hp, rfl⟩ := htr
    exact op_build ho hpl hz hp hT hR h0
  case buildSlice t len parts =>
    split at htr
    · rename_i el hel
      simp only [Option.bind_eq_some_iff] at htr
      obtain ⟨⟨i, z⟩, hiz, ps, hp, htr⟩ := htr
      obtain ⟨hi, hz, hzs, hpos, _⟩ := trElem_spec hiz
      split at htr
      · rename_i hs; cases htr; exact op_buildSl ho hel hi hz hzs hpos hs hp he hT hR h0
      · cases htr
    · cases htr
  case load t p =>
    simp only [Option.bind_eq_some_iff, Option.map_eq_some_iff] at htr
    obtain ⟨⟨ag, sz⟩, ht, p', hp, rfl⟩ := htr
    exact op_load ho ht hp hT hR h0
  case store t p x =>
    simp only [Option.bind_eq_some_iff, Option.map_eq_some_iff] at htr
    obtain ⟨⟨ag, sz⟩, ht, p', hp, x', hx, rfl⟩ := htr
    exact op_store ho ht hp hx hT hR h0
  case nilCheck x => obtain ⟨x', hx, rfl⟩ := Option.map_eq_some_iff.1 htr; exact op_nilCheck ho hx hT hR h0
  case binOp op t x y u =>
    unfold trBin at htr
    split at htr
    · split at htr
      · simp only [Option.bind_eq_some_iff, Option.map_eq_some_iff] at htr; obtain ⟨x', hx, y', hy, rfl⟩ := htr; exact op_bin ho hx hy hT hR h0
      · simp only [Option.bind_eq_some_iff, Option.map_eq_some_iff] at htr; obtain ⟨x', hx, y', hy, rfl⟩ := htr; exact op_bin ho hx hy hT hR h0
      · rename_i ht; simp only [Option.bind_eq_some_iff, Option.map_eq_some_iff] at htr; obtain ⟨x', hx, y', hy, rfl⟩ := htr; exact op_eqB (neg := false) rfl ho ht hx hy hT hR h0
      · rename_i fs ht
        simp only [Option.bind_eq_some_iff] at htr
        obtain ⟨ks, hks, htr⟩ := htr
        split at htr
        · rename_i hc
          simp only [Option.bind_eq_some_iff, Option.map_eq_some_iff] at htr
          obtain ⟨x', hx, y', hy, rfl⟩ := htr
          have hfs : P.fieldsOf t = fs := by simp [Program.fieldsOf, ht]
          exact op_eqAgg (neg := false) rfl ho (by rw [hfs]; exact ht) (by rw [hfs]; exact hks) hc.1 hc.2 hx hy hT hR h0
        · cases htr
      · rename_i dd hd1 hd2 hd3 hd4 ht
        split at htr
        · rename_i v0
          simp only [Option.bind_eq_some_iff, Option.map_eq_some_iff] at htr; obtain ⟨kd, hk, x', hx, rfl⟩ := htr; exact op_eqNil (neg := false) rfl ho ht hk hx hT hR h0
        · cases htr
      · cases htr
    · split at htr
      · simp only [Option.bind_eq_some_iff, Option.map_eq_some_iff] at htr; obtain ⟨x', hx, y', hy, rfl⟩ := htr; exact op_bin ho hx hy hT hR h0
      · simp only [Option.bind_eq_some_iff, Option.map_eq_some_iff] at htr; obtain ⟨x', hx, y', hy, rfl⟩ := htr; exact op_bin ho hx hy hT hR h0
      · rename_i ht; simp only [Option.bind_eq_some_iff, Option.map_eq_some_iff] at htr; obtain ⟨x', hx, y', hy, rfl⟩ := htr; exact op_eqB (neg := true) rfl ho ht hx hy hT hR h0
      · rename_i fs ht
        simp only [Option.bind_eq_some_iff] at htr
        obtain ⟨ks, hks, htr⟩ := htr
        split at htr
        · rename_i hc
          simp only [Option.bind_eq_some_iff, Option.map_eq_some_iff] at htr
          obtain ⟨x', hx, y', hy, rfl⟩ := htr
          have hfs : P.fieldsOf t = fs := by simp [Program.fieldsOf, ht]
          exact op_eqAgg (neg := true) rfl ho (by rw [hfs]; exact ht) (by rw [hfs]; exact hks) hc.1 hc.2 hx hy hT hR h0
        · cases htr
      · rename_i dd hd1 hd2 hd3 hd4 ht
        split at htr
        · rename_i v0
          simp only [Option.bind_eq_some_iff, Option.map_eq_some_iff] at htr; obtain ⟨kd, hk, x', hx, rfl⟩ := htr; exact op_eqNil (neg := true) rfl ho ht hk hx hT hR h0
        · cases htr
      · cases htr
    · simp only [Option.bind_eq_some_iff, Option.map_eq_some_iff] at htr; obtain ⟨x', hx, y', hy, rfl⟩ := htr; exact op_bin ho hx hy hT hR h0
  case unOp op t x =>
    cases op <;> simp only [trOp] at htr <;> try (cases htr; done)
    case not => obtain ⟨x', hx, rfl⟩ := Option.map_eq_some_iff.1 htr; exact op_not ho hx hT hR h0
    case neg => obtain ⟨x', hx, rfl⟩ := Option.map_eq_some_iff.1 htr; exact op_neg ho hx hT hR h0
  case convert s t x =>
    split at htr
    · rename_i ks k hs ht; obtain ⟨x', hx, rfl⟩ := Option.map_eq_some_iff.1 htr; exact op_conv ho hs ht hx hT hR h0
    · cases htr
  case makeInterface t x =>
    split at htr
    · cases htr
    · rename_i td hni ht
      obtain ⟨x', hx, rfl⟩ := Option.map_eq_some_iff.1 htr
      exact op_mkIface ho ht (fun ms hm => hni ms (by rw [← hm])) hx hT hR h0
    · cases htr
  case makeFunc fn first caps =>
    cases fn <;> simp only [trOp] at htr <;> try (cases htr; done)
    simp only [Option.bind_eq_some_iff, Option.map_eq_some_iff] at htr
    obtain ⟨f', hf, c', hc, rfl⟩ := htr
    exact op_mkFunc ho hf hc hT hR h0
  case makeMap t r =>
    cases r with
    | none => cases htr; exact op_mkMap ho he hR h0
    | some x => cases htr
  case makeSlice t l c =>
    split at htr
    · rename_i hs
      have := sameOpd_eq hs
      subst this
      split at htr
      · rename_i el hel
        simp only [Option.bind_eq_some_iff, Option.map_eq_some_iff] at htr
        obtain ⟨⟨i, z⟩, hiz, l', hl, rfl⟩ := htr
        obtain ⟨hi, hz, hzs, hpos, _⟩ := trElem_spec hiz
        exact op_mkSl ho hel hi hz hzs hpos hl he hT hR h0
      · cases htr
    · cases htr
  case slice t x lo hi mx =>
    unfold trSlice at htr
    split at htr
    · rename_i el hel
      simp only [Option.bind_eq_some_iff] at htr
      obtain ⟨i, hi0, x', hx, lo', hlo, hi', hhi, mx', hmx, htr⟩ := htr
      split at htr
      · cases htr
      · rename_i hcond
        cases htr
        refine op_slice ho hel hi0 hx hlo hhi hmx (fun hm hn => hcond ?_) hT hR h0
        rw [hn]
        cases mx with
        | none => exact absurd rfl hm
        | some _ => rfl
    · rename_i hel
      split at htr
      · cases htr
      · rename_i hm
        have : mx = none := by cases mx with
          | none => rfl
          | some _ => exact absurd rfl hm
        subst this
        simp only [Option.bind_eq_some_iff, Option.map_eq_some_iff] at htr
        obtain ⟨x', hx, lo', hlo, hi', hhi, rfl⟩ := htr
        exact op_sliceStr ho hel hx hlo hhi hT hR h0
    · cases htr
  case fieldAddr t x f =>
    simp only [Option.bind_eq_some_iff, Option.map_eq_some_iff] at htr
    obtain ⟨⟨off, ag, sz⟩, ht, x', hx, rfl⟩ := htr
    exact op_fieldAddr ho ht hx hT hR h0
  case field t x f =>
    simp only [Option.bind_eq_some_iff, Option.map_eq_some_iff] at htr
    obtain ⟨⟨off, ag, sz⟩, ht, x', hx, rfl⟩ := htr
    exact op_field ho ht hx hT hR h0
  case indexAddr t x y =>
    unfold trIdx at htr
    split at htr
    · rename_i el hel
      simp only [Option.bind_eq_some_iff, Option.map_eq_some_iff] at htr
      obtain ⟨i, hi, x', hx, y', hy, rfl⟩ := htr
      exact op_idxA ho hel hi hx hy hT hR h0
    · rename_i n el hel
      simp only [Option.bind_eq_some_iff, Option.map_eq_some_iff] at htr
      obtain ⟨i, hi, x', hx, y', hy, rfl⟩ := htr
      exact op_idxArr ho hel hi hx hy hT hR h0
    · cases htr
  case index t x y =>
    split at htr
    · rename_i ht
      simp only [Option.bind_eq_some_iff, Option.map_eq_some_iff] at htr
      obtain ⟨x', hx, y', hy, rfl⟩ := htr
      exact op_idxS ho ht hx hy hT hR h0
    · cases htr
  case extract x i => obtain ⟨x', hx, rfl⟩ := Option.map_eq_some_iff.1 htr; exact op_extract ho hx hT hR h0
  case call cl =>
    obtain ⟨callee, args, ts⟩ := cl
    cases callee <;> simp only [trOp] at htr <;> try (cases htr; done)
    rename_i b
    have ea : ∀ l, args.toList = l → args = l.toArray := fun l hl => by rw [← hl, Array.toArray_toList]
    have et : ∀ l, ts.toList = l → ts = l.toArray := fun l hl => by rw [← hl, Array.toArray_toList]
    unfold trBuiltin at htr
    split at htr
    · rename_i x t h1 h2
      have h1 := ea _ h1
      have h2 := et _ h2
      subst h1
      subst h2
      split at htr
      · rename_i el hel; obtain ⟨x', hx, rfl⟩ := Option.map_eq_some_iff.1 htr; exact op_len (str := false) ho (by simpa using ⟨el, hel⟩) hx hT hR h0
      · rename_i hel; obtain ⟨x', hx, rfl⟩ := Option.map_eq_some_iff.1 htr; exact op_len (str := true) ho (by simpa using hel) hx hT hR h0
      · cases htr
    · rename_i x t h1 h2
      have h1 := ea _ h1
      have h2 := et _ h2
      subst h1
      subst h2
      split at htr
      · rename_i el hel; obtain ⟨x', hx, rfl⟩ := Option.map_eq_some_iff.1 htr; exact op_cap ho hel hx hT hR h0
      · cases htr
    · rename_i s x t t' h1 h2
      have h1 := ea _ h1
      have h2 := et _ h2
      subst h1
      subst h2
      split at htr
      · rename_i el el' hel hel'
        simp only [Option.bind_eq_some_iff, Option.map_eq_some_iff] at htr
        obtain ⟨⟨i, z⟩, hiz, s', hs, x', hx, rfl⟩ := htr
        obtain ⟨hi, hz, hzs, hpos, hby⟩ := trElem_spec hiz
        exact op_append ho hel hel' hi hz hzs hpos hby hs hx he hT hR h
      · cases htr
    · rename_i x y h1
      have h1 := ea _ h1
      subst h1
      simp only [Option.bind_eq_some_iff, Option.map_eq_some_iff] at htr
      obtain ⟨x', hx, y', hy, rfl⟩ := htr
      exact op_minmax (isMax := false) (ty := ts) ho hx hy hT hR h0
    · rename_i x y h1
      have h1 := ea _ h1
      subst h1
      simp only [Option.bind_eq_some_iff, Option.map_eq_some_iff] at htr
      obtain ⟨x', hx, y', hy, rfl⟩ := htr
      exact op_minmax (isMax := true) (ty := ts) ho hx hy hT hR h0
    · cases htr
end
end Go.Proofs.RL
