/- Operations upon abstract states: what each yields, as a weakest precondition. Conditions: none. -/
import Derived.Test.YthefjfcphgiggaaRlA
set_option linter.unusedVariables false
set_option linter.unusedSimpArgs false
namespace Go.Proofs.RL

abbrev Tm := List (Nat × AV)
def tget : Tm → Nat → AV
  | [], _ => .junk
  | (i, v) :: r, j => if i = j then v else tget r j
def tput : Tm → Nat → AV → Tm
  | [], i, v => [(i, v)]
  | (j, u) :: r, i, v => if j = i then (i, v) :: r else (j, u) :: tput r i v
def tdel : Tm → Nat → Tm
  | [], _ => []
  | (j, u) :: r, i => if j = i then tdel r i else (j, u) :: tdel r i
def tdels : Tm → List Nat → Tm
  | tm, [] => tm
  | tm, i :: r => tdels (tdel tm i) r
def thas : Tm → Nat → Bool
  | [], _ => false
  | (j, _) :: r, i => if j = i then true else thas r i
/-- What is kept, in the list's order. -/
def tkeep (tm : Tm) : List Nat → Tm
  | [] => []
  | j :: l => if thas tm j = true then (j, tget tm j) :: tkeep tm l else tkeep tm l

theorem tget_tput (tm : Tm) (i : Nat) (v : AV) (j : Nat) : tget (tput tm i v) j = if i = j then v else tget tm j := by
  induction tm with
  | nil => simp [tput, tget]
  | cons x r ih =>
    obtain ⟨k, u⟩ := x
    simp only [tput]
    split
    · rename_i h; subst h; simp only [tget]; split <;> simp_all
    · rename_i h
      simp only [tget, ih]
      split
      · rename_i h2; subst h2; rw [if_neg (fun h3 => h h3.symm)]
      · rfl
theorem tget_tdel (tm : Tm) (i j : Nat) : tget (tdel tm i) j = if i = j then .junk else tget tm j := by
  induction tm with
  | nil => simp [tdel, tget]
  | cons x r ih =>
    obtain ⟨k, u⟩ := x
    simp only [tdel]
    split
    · rename_i h; subst h; rw [ih]; simp only [tget]; split <;> simp_all
    · rename_i h
      simp only [tget, ih]
      split
      · rename_i h2; subst h2; rw [if_neg (fun h3 => h h3.symm)]
      · rfl
theorem tget_not {tm : Tm} {j : Nat} (h : ¬ thas tm j = true) : tget tm j = .junk := by
  induction tm with
  | nil => rfl
  | cons x r ih =>
    obtain ⟨k, u⟩ := x
    simp only [thas] at h
    simp only [tget]
    split
    · rename_i hk; rw [if_pos hk] at h; exact absurd rfl h
    · rename_i hk; rw [if_neg hk] at h; exact ih h
theorem tget_tkeep (tm : Tm) (l : List Nat) (j : Nat) : tget (tkeep tm l) j = if l.contains j then tget tm j else .junk := by
  induction l with
  | nil => rfl
  | cons k r ih =>
    simp only [tkeep, List.contains_cons, Bool.or_eq_true, beq_iff_eq]
    split
    · rename_i hk
      simp only [tget]
      split
      · rename_i h; subst h; simp
      · rename_i h
        rw [ih]
        by_cases hr : r.contains j = true
        · rw [if_pos hr, if_pos (.inr hr)]
        · rw [if_neg hr, if_neg (fun e => e.elim (fun e => h e.symm) hr)]
    · rename_i hk
      rw [ih]
      by_cases hr : r.contains j = true
      · rw [if_pos hr, if_pos (.inr hr)]
      · by_cases hjk : j = k
        · subst hjk
          rw [if_neg hr, if_pos (.inl rfl), tget_not hk]
        · rw [if_neg hr, if_neg (fun e => e.elim hjk hr)]

inductive Opd where
  | t (n : Nat)
  | c (x : FV)
  deriving Inhabited
def Opd.ev (tm : Tm) : Opd → AV
  | .t n => tget tm n
  | .c x => .fv x

def FV.ofValue : Value → Option FV
  | .bool b => some (.bool b)
  | .int k n => some (.int k n)
  | .string s => some (.str s)
  | .pointer none => some .nilp
  | .slice none 0 0 => some (.sl (some true) (some 0) [])
  | .nilFunc => some .nilf
  | .nilIface => some .nili
  | .map none => some .nilm
  | _ => none
theorem FV.ofValue_rel {v : Value} {x : FV} (F : FMap) (h : FV.ofValue v = some x) : FRel F x v := by
  unfold FV.ofValue at h
  split at h <;> cases h <;> first
    | exact .bool _
    | exact .int _ _
    | exact .str _
    | exact .nilp
    | exact .nilf
    | exact .nili
    | exact .nilm
    | exact FRel.sl (some true) (some 0) [] none 0 0 0 0 (fun _ _ => undef) (by simp) (by simp) (by simp) (by simp) (by simp) (by simp) (by simp) (by simp)

def AV.solid : AV → Bool
  | .agg _ => false
  | .tup _ => false
  | .junk => false
  | _ => true
def AV.cells : AV → List AV
  | .agg cs => cs
  | v => [v]
def mkv (ag : Bool) (cs : List AV) : AV := if ag then .agg cs else cs.headD .junk
def splice {α : Type} (cells : List α) (o : Nat) (cs : List α) : List α := cells.take o ++ (cs ++ cells.drop (o + cs.length))

inductive AOp where
  | mv (x : Opd)
  | pick (c a b : Opd)
  | alloc (z : List FV)
  | box (x : Opd)
  | build (z : List FV) (parts : List (Nat × Nat × Opd))
  | buildSl (sz len : Nat) (z : List FV) (parts : List (Nat × Opd))
  | load (ag : Bool) (sz : Nat) (p : Opd)
  | store (sz : Nat) (p x : Opd)
  | nilCheck (x : Opd)
  | bin (op : BinOp) (x y : Opd)
  | eqNil (kd : Nat) (neg : Bool) (x : Opd)
  | eqB (neg : Bool) (x y : Opd)
  | not (x : Opd)
  | neg (x : Opd)
  | conv (k : IntKind) (x : Opd)
  | mkIface (t : TypeId) (x : Opd)
  | mkFunc (f : FuncId) (first caps : List Opd)
  | mkSl (sz bytes : Nat) (z : List FV) (n : Opd)
  | slice (sz : Nat) (x : Opd) (lo hi mx : Option Opd)
  | sliceStr (x : Opd) (lo hi : Option Opd)
  | fieldAddr (off : Nat) (x : Opd)
  | field (ag : Bool) (off sz : Nat) (x : Opd)
  | idxA (sz : Nat) (x i : Opd)
  | idxArr (len sz : Nat) (x i : Opd)
  | idxS (x i : Opd)
  | extract (x : Opd) (i : Nat)
  | len (str : Bool) (x : Opd)
  | cap (x : Opd)
  | append (sz bytes : Nat) (s x : Opd)
  | minmax (isMax : Bool) (x y : Opd)
  | never
  | mkMap
  | eqAgg (neg : Bool) (ks : List Nat) (x y : Opd)
  deriving Inhabited

/-- What an operation leaves: its value; an object that has changed; a new object (at the operation's own key); an object that is no more. -/
abbrev Kont := AV → Option (Nat × Nat × AObj) → Option AObj → Option Nat → Prop

abbrev OG := Nat → Option (Nat × AObj)

def loadP (ag : Bool) (sz : Nat) (p : AV) (ob : OG) (K : AV → Prop) : Prop :=
  match p with
  | .ptr k e o =>
    match ob k with
    | some (e', .var cells) => e' = e ∧ o + sz ≤ cells.length ∧ K (mkv ag ((cells.drop o).take sz))
    | _ => False
  | .eptr k e sz' i f =>
    match ob k with
    | some (e', .row sz2 xs) => e' = e ∧ sz2 = sz' ∧ i < xs.length ∧ f + sz ≤ sz' ∧ K (mkv ag (((xs.getD i []).drop f).take sz))
    | _ => False
  | .fptr cells => sz ≤ cells.length ∧ K (mkv ag ((cells.take sz).map .fv))
  | _ => False

def storeP (sz : Nat) (p x : AV) (ob : OG) (K : Nat × Nat × AObj → Prop) : Prop :=
  x.cells.length = sz ∧ x.cells.all AV.solid = true ∧
  match p with
  | .ptr k e o =>
    match ob k with
    | some (e', .var cells) => e' = e ∧ o + sz ≤ cells.length ∧ K (k, e, .var (splice cells o x.cells))
    | _ => False
  | .eptr k e sz' i f =>
    match ob k with
    | some (e', .row sz2 xs) => e' = e ∧ sz2 = sz' ∧ i < xs.length ∧ f + sz ≤ sz' ∧ K (k, e, .row sz2 (xs.set i (splice (xs.getD i []) f x.cells)))
    | _ => False
  | _ => False

def intBin (op : BinOp) (k : IntKind) (a b : Int) (K : AV → Prop) : Prop :=
  match op with
  | .add => K (.fv (.int k (k.wrap (a + b))))
  | .sub => K (.fv (.int k (k.wrap (a - b))))
  | .mul => K (.fv (.int k (k.wrap (a * b))))
  | .quo => b ≠ 0 ∧ K (.fv (.int k (k.wrap (a.tdiv b))))
  | .rem => b ≠ 0 ∧ K (.fv (.int k (a.tmod b)))
  | .and => K (.fv (.int k (k.wrap (BitVec.ofInt k.bits a &&& BitVec.ofInt k.bits b).toNat)))
  | .or => K (.fv (.int k (k.wrap (BitVec.ofInt k.bits a ||| BitVec.ofInt k.bits b).toNat)))
  | .xor => K (.fv (.int k (k.wrap (BitVec.ofInt k.bits a ^^^ BitVec.ofInt k.bits b).toNat)))
  | .eql => K (.fv (.bool (a == b)))
  | .neq => K (.fv (.bool (a != b)))
  | .lss => K (.fv (.bool (decide (a < b))))
  | .leq => K (.fv (.bool (decide (a ≤ b))))
  | .gtr => K (.fv (.bool (decide (a > b))))
  | .geq => K (.fv (.bool (decide (a ≥ b))))
  | _ => False
def strBin (op : BinOp) (x y : ByteArray) (K : AV → Prop) : Prop :=
  match op with
  | .add => x.size + y.size ≤ 9223372036854775807 ∧ K (.fv (.str (x ++ y)))
  | .eql => K (.fv (.bool (x.toList == y.toList)))
  | .neq => K (.fv (.bool (!(x.toList == y.toList))))
  | _ => False
def binP (op : BinOp) (x y : AV) (K : AV → Prop) : Prop :=
  match x, y with
  | .fv (.int k a), .fv (.int k' b) =>
    match op with
    | .shl => 0 ≤ b ∧ K (.fv (.int k (k.wrap (a * 2 ^ (min b.toNat k.bits)))))
    | .shr => 0 ≤ b ∧ K (.fv (.int k (a.fdiv (2 ^ (min b.toNat k.bits)))))
    | op => k = k' ∧ intBin op k a b K
  | .fv (.str a), .fv (.str b) => strBin op a b K
  | _, _ => False
/-- Against nil: 0: a slice, 1: a pointer, 2: a function, 3: an interface value. -/
def eqNilP (kd : Nat) (x : AV) (K : Bool → Prop) : Prop :=
  match kd, x with
  | 0, .fv (.sl (some b) _ _) => K b
  | 0, .fv (.sl none _ xs) => ∀ b, (b = true → xs.length = 0) → K b
  | 0, .ms _ _ _ _ len _ => ∀ b, (b = true → len = 0) → K b
  | 1, .fv .nilp => K true
  | 1, .ptr _ _ _ => K false
  | 1, .eptr _ _ _ _ _ => K false
  | 1, .fptr _ => K false
  | 2, .fv .nilf => K true
  | 2, .fv (.func _) => K false
  | 2, .clo _ _ _ => K false
  | 3, .fv .nili => K true
  | 3, .fv (.iface _ _) => K false
  | _, _ => False
/-- A bound of a cut: an operand, or what stands in its place. -/
def bndP (tm : Tm) (x : Option Opd) (d : Nat) (K : Nat → Prop) : Prop :=
  match x with
  | none => K d
  | some o =>
    match o.ev tm with
    | .fv (.int _ n) => 0 ≤ n ∧ K n.toNat
    | _ => False
def capLe (cap : Option Nat) (len h : Nat) : Prop := h ≤ len ∨ ∃ q, cap = some q ∧ h ≤ q
def sliceP (tm : Tm) (x : AV) (lo hi mx : Option Opd) (K : AV → Prop) : Prop :=
  match x with
  | .fv (.sl nl cap xs) =>
    match mx with
    | none => bndP tm hi xs.length fun h => bndP tm lo 0 fun l => l ≤ h ∧ h ≤ xs.length ∧ K (.fv (.sl nl (cap.map (· - l)) ((xs.take h).drop l)))
    | some m => bndP tm (some m) 0 fun m => bndP tm hi xs.length fun h => bndP tm lo 0 fun l => l ≤ h ∧ h ≤ m ∧ h ≤ xs.length ∧ capLe cap xs.length m ∧ K (.fv (.sl nl (some (m - l)) ((xs.take h).drop l)))
  | .ms k e sz off len cap =>
    match mx with
    | none => bndP tm hi len fun h => bndP tm lo 0 fun l => l ≤ h ∧ capLe cap len h ∧ h ≤ 281474976710656 ∧ K (.ms k e sz (off + l) (h - l) (cap.map (· - l)))
    | some m => bndP tm (some m) 0 fun m => bndP tm hi len fun h => bndP tm lo 0 fun l => l ≤ h ∧ h ≤ m ∧ capLe cap len m ∧ h ≤ 281474976710656 ∧ K (.ms k e sz (off + l) (h - l) (some (m - l)))
  | _ => False
def sliceStrP (tm : Tm) (x : AV) (lo hi : Option Opd) (K : AV → Prop) : Prop :=
  match x with
  | .fv (.str s) => bndP tm hi s.size fun h => bndP tm lo 0 fun l => l ≤ h ∧ h ≤ s.size ∧ K (.fv (.str (s.extract l h)))
  | _ => False
def idxAP (sz : Nat) (x i : AV) (K : AV → Prop) : Prop :=
  match x, i with
  | .fv (.sl _ _ xs), .fv (.int _ n) => 0 ≤ n ∧ n < xs.length ∧ (xs.getD n.toNat []).length = sz ∧ K (.fptr (xs.getD n.toNat []))
  | .ms k e sz' off len _, .fv (.int _ n) => sz' = sz ∧ 0 ≤ n ∧ n < len ∧ K (.eptr k e sz (off + n.toNat) 0)
  | _, _ => False
def faddP (off : Nat) (x : AV) (K : AV → Prop) : Prop :=
  match x with
  | .ptr k e o => K (.ptr k e (o + off))
  | .eptr k e sz i f => K (.eptr k e sz i (f + off))
  | .fptr cells => K (.fptr (cells.drop off))
  | _ => False
def lenP (str : Bool) (x : AV) (K : AV → Prop) : Prop :=
  match str, x with
  | false, .fv (.sl _ _ xs) => K (.fv (.int .i64 xs.length))
  | false, .ms _ _ _ _ len _ => K (.fv (.int .i64 len))
  | true, .fv (.str s) => K (.fv (.int .i64 s.size))
  | _, _ => False
def capP (x : AV) (K : AV → Prop) : Prop :=
  match x with
  | .fv (.sl _ (some c) xs) => K (.fv (.int .i64 c))
  | .ms _ _ _ _ len (some c) => K (.fv (.int .i64 c))
  | _ => False
def hdLen {α : Type} (xs : List (List α)) (sz : Nat) : Prop := ∀ x, xs.head? = some x → x.length = sz
/-- The cells of what is appended: a slice that is frozen, or a row of the call's own. -/
def srcP (sz : Nat) (x : AV) (ob : OG) (K : List (List AV) → Prop) : Prop :=
  match x with
  | .fv (.sl _ _ ys) => hdLen ys sz ∧ K (ys.map (·.map .fv))
  | .ms k e sz' off len _ =>
    match ob k with
    | some (e', .row sz2 xs) => e' = e ∧ sz2 = sz ∧ sz' = sz ∧ off + len ≤ xs.length ∧ (∀ i, i < len → ((xs.getD (off + i) []).all AV.solid) = true) ∧ K ((xs.drop off).take len)
    | _ => False
  | _ => False
def appendR (sz bytes e : Nat) (c : Option Nat) (d : Nat) (s : AV) (ob : OG) (K : Kont) (ys : List (List AV)) : Prop :=
  match s with
  | .fv (.sl _ cap xs) => cap = some xs.length ∧ hdLen xs sz ∧ (ys = [] → xs = []) ∧ (xs.length + ys.length) * bytes ≤ 140737488355328 ∧
      ((∀ q, c = some q → xs.length + ys.length ≤ q) → K (.ms d e sz 0 (xs.length + ys.length) c) none (some (.row sz (xs.map (·.map .fv) ++ ys))) none)
  | .ms k e0 sz' off len cap =>
    match ob k with
    | some (e', .row sz2 xs) => e' = e0 ∧ sz2 = sz ∧ sz' = sz ∧ off = 0 ∧ len = xs.length ∧ (len + ys.length) * bytes ≤ 140737488355328 ∧
        ((∀ q, c = some q → len + ys.length ≤ q) → K (.ms d e sz 0 (len + ys.length) c) none (some (.row sz (xs ++ ys))) (some k))
    | _ => False
  | _ => False
def appendP (sz bytes e : Nat) (c : Option Nat) (d : Nat) (s x : AV) (ob : OG) (K : Kont) : Prop := srcP sz x ob (appendR sz bytes e c d s ob K)

def buildCells (tm : Tm) : List AV → List (Nat × Nat × Opd) → (List AV → Prop) → Prop
  | cs, [], K => K cs
  | cs, (o, n, x) :: r, K => (x.ev tm).cells.length = n ∧ o + n ≤ cs.length ∧ (x.ev tm).cells.all AV.solid = true ∧ buildCells tm (splice cs o (x.ev tm).cells) r K
def buildRow (tm : Tm) (sz : Nat) : List (List AV) → List (Nat × Opd) → (List (List AV) → Prop) → Prop
  | xs, [], K => K xs
  | xs, (i, x) :: r, K => (x.ev tm).cells.length = sz ∧ i < xs.length ∧ (x.ev tm).cells.all AV.solid = true ∧ buildRow tm sz (xs.set i (x.ev tm).cells) r K

/-- Two structs of plain parts: are they alike? -/
def eqCells : List Nat → List AV → List AV → Option Bool
  | [], [], [] => some true
  | 0 :: ks, .fv (.int k a) :: r, .fv (.int k' b) :: r' => if k = k' then (eqCells ks r r').map fun e => a == b && e else none
  | 1 :: ks, .fv (.bool a) :: r, .fv (.bool b) :: r' => (eqCells ks r r').map fun e => a == b && e
  | 2 :: ks, .fv (.str a) :: r, .fv (.str b) :: r' => (eqCells ks r r').map fun e => a.toList == b.toList && e
  | _, _, _ => none
def eqAggP (ks : List Nat) (x y : AV) (K : Bool → Prop) : Prop :=
  match x, y with
  | .agg cs, .agg cs' => match eqCells ks cs cs' with
    | some b => K b
    | none => False
  | _, _ => False

/-- One operation. 'd': the key of what it makes, 'e': that object's epoch, 'c': the capacity that an append is told (none: nothing is asked of it). -/
def stepOp (op : AOp) (tm : Tm) (ob : OG) (d e : Nat) (c : Option Nat) (K : Kont) : Prop :=
  match op with
  | .mv x => K (x.ev tm) none none none
  | .pick b x y =>
    match b.ev tm with
    | .fv (.bool b) => (b = true → K (x.ev tm) none none none) ∧ (b = false → K (y.ev tm) none none none)
    | _ => False
  | .alloc z => K (.ptr d e 0) none (some (.var (z.map .fv))) none
  | .box x => (x.ev tm).cells.all AV.solid = true ∧ K (.ptr d e 0) none (some (.var (x.ev tm).cells)) none
  | .build z parts => buildCells tm (z.map .fv) parts fun cs => K (.agg cs) none none none
  | .buildSl sz len z parts => buildRow tm sz (List.replicate len (z.map .fv)) parts fun xs => K (.ms d e sz 0 len (some len)) none (some (.row sz xs)) none
  | .load ag sz p => loadP ag sz (p.ev tm) ob fun v => K v none none none
  | .store sz p x => storeP sz (p.ev tm) (x.ev tm) ob fun u => K .junk (some u) none none
  | .nilCheck x =>
    match x.ev tm with
    | .ptr k e o => K (.ptr k e o) none none none
    | .eptr k e sz i f => K (.eptr k e sz i f) none none none
    | .fptr cs => K (.fptr cs) none none none
    | _ => False
  | .bin op x y => binP op (x.ev tm) (y.ev tm) fun v => K v none none none
  | .eqNil kd neg x => eqNilP kd (x.ev tm) fun b => K (.fv (.bool (if neg then !b else b))) none none none
  | .eqB neg x y =>
    match x.ev tm, y.ev tm with
    | .fv (.bool a), .fv (.bool b) => K (.fv (.bool (if neg then !(a == b) else a == b))) none none none
    | _, _ => False
  | .not x =>
    match x.ev tm with
    | .fv (.bool b) => K (.fv (.bool (!b))) none none none
    | _ => False
  | .neg x =>
    match x.ev tm with
    | .fv (.int k n) => K (.fv (.int k (k.wrap (0 - n)))) none none none
    | _ => False
  | .conv k x =>
    match x.ev tm with
    | .fv (.int _ n) => K (.fv (.int k (k.wrap n))) none none none
    | _ => False
  | .mkIface t x =>
    match x.ev tm with
    | .fv x => K (.fv (.iface t x)) none none none
    | _ => False
  | .mkFunc f first caps => K (.clo f (first.map (·.ev tm)) (caps.map (·.ev tm))) none none none
  | .mkSl sz bytes z n =>
    match n.ev tm with
    | .fv (.int .i64 n) => 0 ≤ n ∧ n ≤ 281474976710656 ∧ (bytes : Int) * n ≤ 281474976710656 ∧ K (.ms d e sz 0 n.toNat (some n.toNat)) none (some (.row sz (List.replicate n.toNat (z.map .fv)))) none
    | _ => False
  | .slice sz x lo hi mx =>
    match x.ev tm with
    | .ms k e sz' off len cap => sz' = sz ∧ sliceP tm (.ms k e sz' off len cap) lo hi mx fun v => K v none none none
    | .fv (.sl nl cap xs) => hdLen xs sz ∧ sliceP tm (.fv (.sl nl cap xs)) lo hi mx fun v => K v none none none
    | _ => False
  | .sliceStr x lo hi => sliceStrP tm (x.ev tm) lo hi fun v => K v none none none
  | .fieldAddr off x => faddP off (x.ev tm) fun v => K v none none none
  | .field ag off sz x =>
    match x.ev tm with
    | .agg cs => off + sz ≤ cs.length ∧ K (mkv ag ((cs.drop off).take sz)) none none none
    | _ => False
  | .idxA sz x i => idxAP sz (x.ev tm) (i.ev tm) fun v => K v none none none
  | .idxArr len sz x i =>
    match i.ev tm with
    | .fv (.int _ n) => 0 ≤ n ∧ n < len ∧ faddP (n.toNat * sz) (x.ev tm) fun v => K v none none none
    | _ => False
  | .idxS x i =>
    match x.ev tm, i.ev tm with
    | .fv (.str s), .fv (.int _ n) => 0 ≤ n ∧ n < s.size ∧ K (.fv (.int .u8 (s.data.getD n.toNat 0).toNat)) none none none
    | _, _ => False
  | .extract x i =>
    match x.ev tm with
    | .tup vs => i < vs.length ∧ K (vs.getD i .junk) none none none
    | _ => False
  | .len str x => lenP str (x.ev tm) fun v => K v none none none
  | .cap x => capP (x.ev tm) fun v => K v none none none
  | .append sz bytes s x => appendP sz bytes e c d (s.ev tm) (x.ev tm) ob K
  | .minmax isMax x y =>
    match x.ev tm, y.ev tm with
    | .fv (.int k a), .fv (.int k' b) => k = k' ∧ K (.fv (.int k (if isMax then max a b else min a b))) none none none
    | _, _ => False
  | .never => False
  | .mkMap => K (.mp d e) none (some (.mp [])) none
  | .eqAgg neg ks x y => eqAggP ks (x.ev tm) (y.ev tm) fun b => K (.fv (.bool (if neg then !b else b))) none none none

/-- The objects after an operation. -/
def obAfter (ob : Ob) (d e : Nat) (upd : Option (Nat × Nat × AObj)) (new : Option AObj) (del : Option Nat) : Ob :=
  let ob := match del with | some k => odel ob k | none => ob
  let ob := match upd with | some (k, e', o) => oset ob k e' o | none => ob
  match new with | some o => oset ob d e o | none => ob

end Go.Proofs.RL
