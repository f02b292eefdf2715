/- Abstract code, its weakest precondition, and what it says of the model's code. Conditions: none. -/
import Derived.Test.YthefjfcphgiggaaRlM
set_option linter.unusedVariables false
set_option linter.unusedSimpArgs false
namespace Go.Proofs.RL

/-! ### Less is told of slices -/
mutual
def FV.wk : FV → FV
  | .iface t x => .iface t x.wk
  | .sl _ _ xs => .sl none none (FV.wkss xs)
  | x => x
def FV.wks : List FV → List FV
  | [] => []
  | x :: r => x.wk :: FV.wks r
def FV.wkss : List (List FV) → List (List FV)
  | [] => []
  | x :: r => FV.wks x :: FV.wkss r
end
theorem FV.wks_eq : ∀ l, FV.wks l = l.map FV.wk
  | [] => rfl
  | x :: r => by simp [FV.wks, FV.wks_eq r]
theorem FV.wkss_eq : ∀ l, FV.wkss l = l.map (·.map FV.wk)
  | [] => rfl
  | x :: r => by simp [FV.wkss, FV.wkss_eq r, FV.wks_eq]
theorem frel_wk {F : FMap} {x : FV} {v : Value} (h : FRel F x v) : FRel F x.wk v := by
  induction h with
  | int k n => exact .int k n
  | bool b => exact .bool b
  | str s => exact .str s
  | nilp => exact .nilp
  | nilf => exact .nilf
  | nili => exact .nili
  | nilm => exact .nilm
  | func f => exact .func f
  | iface t x v _ ih => exact .iface t _ v ih
  | sl nl cap xs a c sz b off vs hle hbig hc hnl hsz had hFF _ ih =>
    simp only [FV.wk, FV.wkss_eq]
    have hl : (xs.map (·.map FV.wk)).length = xs.length := by simp
    have := FRel.sl (F := F) none none (xs.map (·.map FV.wk)) a c sz b off vs (by rw [hl]; exact hle) (by rw [hl]; exact hbig) (by simp) (by simp) (fun i hi => ?_) (by rw [hl]; exact had) (fun i j hi hj => hFF i j (by rwa [hl] at hi) hj) (fun i j hi hj => ?_)
    · rwa [hl] at this
    · rw [hl] at hi
      have := hsz i hi
      simp only [List.getD_eq_getElem?_getD, List.getElem?_map, List.getElem?_eq_getElem hi, Option.map_some, Option.getD_some, List.length_map] at this ⊢
      exact this
    · rw [hl] at hi
      have h1 := ih i j hi hj
      have h2 := hsz i hi
      simp only [List.getD_eq_getElem?_getD, List.getElem?_map, List.getElem?_eq_getElem hi, Option.map_some, Option.getD_some] at h1 h2 ⊢
      rw [List.getElem?_eq_getElem (by omega)] at h1 ⊢
      exact h1

def AV.wk0 : AV → AV
  | .fv x => .fv x.wk
  | x => x
def AV.wk1 : AV → AV
  | .agg cs => .agg (cs.map AV.wk0)
  | x => x.wk0
def AV.wk : AV → AV
  | .tup cs => .tup (cs.map AV.wk1)
  | x => x.wk1
theorem vrel_wk0 {G : Gh} {x : AV} {v : Value} (h : VRel G x v) : VRel G x.wk0 v := by
  cases h with
  | fv x v h => exact .fv _ _ (frel_wk h)
  | ms k e sz off len cap a c hd hc hle hbig hb ha => exact .ms k e sz off len cap a c hd hc hle hbig hb ha
  | ptr k e o hd => exact .ptr k e o hd
  | eptr k e sz i f hd => exact .eptr k e sz i f hd
  | fptr cells b o vs hF hR => exact .fptr cells b o vs hF hR
  | clo f first caps vf vc hf hc hF hC => exact .clo f first caps vf vc hf hc hF hC
  | mp k e hd => exact .mp k e hd
  | yld k e hd => exact .yld k e hd
  | agg cs vs hl h => exact .agg cs vs hl h
  | tup cs vs hl h => exact .tup cs vs hl h
  | junk v => exact .junk v
theorem vrel_wk1 {G : Gh} {x : AV} {v : Value} (h : VRel G x v) : VRel G x.wk1 v := by
  cases x with
  | agg cs =>
    cases h with
    | agg _ vs hl h =>
      refine .agg _ vs (by simp [hl]) fun i hi => ?_
      simp only [List.length_map] at hi
      have := vrel_wk0 (h i hi)
      simp only [List.getD_eq_getElem?_getD, List.getElem?_map, List.getElem?_eq_getElem hi, Option.map_some, Option.getD_some] at this ⊢
      exact this
  | _ => exact vrel_wk0 h
theorem vrel_wk {G : Gh} {x : AV} {v : Value} (h : VRel G x v) : VRel G x.wk v := by
  cases x with
  | tup cs =>
    cases h with
    | tup _ vs hl h =>
      refine .tup _ vs (by simp [hl]) fun i hi => ?_
      simp only [List.length_map] at hi
      have := vrel_wk1 (h i hi)
      simp only [List.getD_eq_getElem?_getD, List.getElem?_map, List.getElem?_eq_getElem hi, Option.map_some, Option.getD_some] at this ⊢
      exact this
  | _ => exact vrel_wk1 h

def AObj.wk : AObj → AObj
  | .var cells => .var (cells.map AV.wk0)
  | .row sz xs => .row sz (xs.map (·.map AV.wk0))
  | .mp es => .mp (es.map fun p => (p.1, p.2.wk0))
  | .lp r => .lp r
def owk : Ob → List Nat → Ob
  | [], _ => []
  | (k, e, o) :: r, l => if l.contains k then (k, e, o.wk) :: owk r l else (k, e, o) :: owk r l
def twk : Tm → List Nat → Tm
  | [], _ => []
  | (t, v) :: r, l => if l.contains t then (t, v.wk) :: twk r l else (t, v) :: twk r l
theorem oget_owk (ob : Ob) (l : List Nat) (k : Nat) : oget (owk ob l) k = (oget ob k).map fun p => (p.1, if l.contains k then p.2.wk else p.2) := by
  induction ob with
  | nil => rfl
  | cons x r ih =>
    obtain ⟨k', e', o'⟩ := x
    simp only [owk]
    split
    · rename_i h
      simp only [oget]
      split
      · rename_i hk; subst hk; simp only [Option.map_some, if_pos h]
      · exact ih
    · rename_i h
      simp only [oget]
      split
      · rename_i hk; subst hk; simp only [Option.map_some, if_neg h]
      · exact ih
theorem tget_twk (tm : Tm) (l : List Nat) (t : Nat) : tget (twk tm l) t = if l.contains t then (tget tm t).wk else tget tm t := by
  induction tm with
  | nil => simp [twk, tget, AV.wk, AV.wk1, AV.wk0]
  | cons x r ih =>
    obtain ⟨k', v⟩ := x
    simp only [twk]
    split
    · rename_i h
      simp only [tget]
      split
      · rename_i hk; subst hk; rw [if_pos h]
      · exact ih
    · rename_i h
      simp only [tget]
      split
      · rename_i hk; subst hk; rw [if_neg h]
      · exact ih

/-- Steps without a counterpart: what is known is told otherwise, or forgotten. -/
inductive Gst where
  | kill (ts : List Nat)
  | keep (ts : List Nat)
  | drop (ks : List Nat)
  | keepO (ks : List Nat)
  | frz (k : Nat)
  | own (t k sz : Nat)
  | bnd (t : Nat)
  | wk (ts ks : List Nat)
  deriving Inhabited

inductive AI where
  | op (d : Option Nat) (g : Option (Nat × Bool)) (tk : Bool) (o : AOp)
  | call (d : Option Nat) (g : Option (Nat × Bool)) (f : Opd) (args : List Opd)
  | gh (g : Gst)
  deriving Inhabited

/-! ### Freezing a row -/
def FV.ofAV : AV → Option FV
  | .fv x => some x
  | _ => none
def frzCells (xs : List (List AV)) : Option (List (List FV)) := xs.mapM fun l => l.mapM FV.ofAV
def frz0 (k e sz : Nat) (xs : List (List FV)) : AV → AV
  | .ms k' e' sz' off len cap => if k' = k then (if e' = e ∧ sz' = sz ∧ off + len ≤ xs.length then .fv (.sl none cap ((xs.drop off).take len)) else .junk) else .ms k' e' sz' off len cap
  | .eptr k' e' sz' i f => if k' = k then .junk else .eptr k' e' sz' i f
  | x => x
def frz1 (k e sz : Nat) (xs : List (List FV)) : AV → AV
  | .agg cs => .agg (cs.map (frz0 k e sz xs))
  | x => frz0 k e sz xs x
def frz2 (k e sz : Nat) (xs : List (List FV)) : AV → AV
  | .tup vs => .tup (vs.map (frz1 k e sz xs))
  | x => frz1 k e sz xs x
def frzO (k e sz : Nat) (xs : List (List FV)) : AObj → AObj
  | .var cells => .var (cells.map (frz0 k e sz xs))
  | .row s rs => .row s (rs.map (·.map (frz0 k e sz xs)))
  | .mp es => .mp (es.map fun p => (p.1, frz0 k e sz xs p.2))
  | .lp r => .lp r
def frzTm (k e sz : Nat) (xs : List (List FV)) (tm : Tm) : Tm := tm.map fun p => (p.1, frz2 k e sz xs p.2)
def frzOb (k e sz : Nat) (xs : List (List FV)) (ob : Ob) : Ob := ob.map fun p => (p.1, p.2.1, frzO k e sz xs p.2.2)

def okeep : Ob → List Nat → Ob
  | [], _ => []
  | (k, e, o) :: r, l => if l.contains k then (k, e, o) :: okeep r l else okeep r l
def odels : Ob → List Nat → Ob
  | ob, [] => ob
  | ob, k :: r => odels (odel ob k) r

/-- How large a slice may be. -/
def bndG (v : AV) (K : Prop) : Prop :=
  match v with
  | .fv (.sl _ cap xs) => xs.length ≤ 281474976710656 → (∀ c, cap = some c → xs.length ≤ c) → K
  | .ms _ _ _ _ len cap => len ≤ 281474976710656 → (∀ c, cap = some c → len ≤ c) → K
  | _ => K

def ghostP (g : Gst) (tm : Tm) (ob : Ob) (K : Tm → Ob → Prop) : Prop :=
  match g with
  | .kill ts => K (tdels tm ts) ob
  | .keep ts => K (tkeep tm ts) ob
  | .drop ks => K tm (odels ob ks)
  | .keepO ks => K tm (okeep ob ks)
  | .frz k =>
    match oget ob k with
    | some (e, .row sz xs) => ∃ ys, frzCells xs = some ys ∧ K (frzTm k e sz ys tm) (frzOb k e sz ys (odel ob k))
    | _ => False
  | .own t k sz =>
    match tget tm t with
    | .fv (.sl _ (some 0) []) => ∀ e, K (tput tm t (.ms k e sz 0 0 none)) (oset ob k e (.row sz []))
    | _ => False
  | .bnd t => bndG (tget tm t) (K tm ob)
  | .wk ts ks => K (twk tm ts) (owk ob ks)

abbrev YT := Nat → List AV → Ob → (AV → Ob → Prop) → Prop

/-- Each yield in Y is what its round does. -/
def YOK (P : Program) (Y : YT) (G : Gh) : Prop :=
  ∀ (l : Nat) (as : List AV) (ob0 : Ob) (K0 : AV → Ob → Prop), Y l as ob0 K0 → ∀ G0 w0 (us : Array Value), GLe G G0 → Rel G0 w0 ob0 → us.size = as.length → (∀ i, i < as.length → VRel G0 (as.getD i .junk) (us.getD i undef)) →
      ∃ fn tmps asg body, (Instr.yield (G0.ρ l).1 us).run P w0 = .ok (.round (G0.ρ l).1 fn tmps asg body) w0 ∧
        ∀ n, RoundIn Fence.wide n P (G0.ρ l).1 fn tmps asg body w0 fun e w' => match e with
          | .returned v => ∃ G' r ob', K0 r ob' ∧ VRel G' r v ∧ Rel G' w' ob' ∧ Fr G0 w0 ob0 G' w' ob'
          | _ => False
theorem YOK.mono {P : Program} {Y : YT} {G G' : Gh} (h : YOK P Y G) (hG : GLe G G') : YOK P Y G' :=
  fun l as ob0 K0 hy G0 w0 us h1 h2 h3 h4 => h l as ob0 K0 hy G0 w0 us (hG.trans h1) h2 h3 h4

/-- A function with a body that is no stand-in. -/
def Enters (P : Program) (f : FuncId) : Prop := ∃ fn, P.funcs[f]? = some fn ∧ (fn.name == "runtime.NumGoroutine") = false ∧ fn.body.isNone = false

/-- A call of function f from an abstract state: it returns, and what it returns and leaves meets K. -/
structure FnA (P : Program) (Y : YT) (f : FuncId) (args : List AV) (ob : Ob) (K : AV → Ob → Prop) : Prop where
  ent : Enters P f
  run : ∀ G w (vs : Array Value), YOK P Y G → Rel G w ob → vs.size = args.length → (∀ i, i < args.length → VRel G (args.getD i .junk) (vs.getD i undef)) →
    Calls P f vs w fun e w' => match e with
      | .returned v => ∃ G' r ob', K r ob' ∧ VRel G' r v ∧ Rel G' w' ob' ∧ Fr G w ob G' w' ob'
      | _ => False

def callTo : AV → Option (FuncId × List AV × List AV)
  | .fv (.func f) => some (f, [], [])
  | .clo f first caps => some (f, first, caps)
  | _ => none
def putD (d : Option Nat) (v : AV) (tm : Tm) : Tm := match d with | some d => tput tm d v | none => tm
def skipD (d : Option Nat) (tm : Tm) : Tm := match d with | some d => tdel tm d | none => tm
def guardP (g : Option (Nat × Bool)) (tm : Tm) (X S : Prop) : Prop :=
  match g with
  | none => X
  | some (t, b) => match tget tm t with
    | .fv (.bool b') => (b' = b → X) ∧ (b' ≠ b → S)
    | _ => False

def callP (P : Program) (Y : YT) (f : AV) (args : List AV) (ob : Ob) (K : AV → Ob → Prop) : Prop :=
  match f with
  | .yld _ e => Y e args ob K
  | f => match callTo f with
    | some (fn, first, caps) => FnA P Y fn (first ++ args ++ caps) ob K
    | none => False

def keyOf (kb : Nat) (d : Option Nat) : Nat := kb + d.getD 900

/-- A region in the order of its text. -/
def awpOps (P : Program) (Y : YT) (kb : Nat) : List AI → (Tm → Ob → Prop) → Tm → Ob → Prop
  | [], K, tm, ob => K tm ob
  | .op d g tk o :: r, K, tm, ob => guardP g tm
      (∀ e q : Nat, stepOp o tm (oget ob) (keyOf kb d) e (if tk then some q else none) fun v upd new del => awpOps P Y kb r K (putD d v tm) (obAfter ob (keyOf kb d) e upd new del))
      (awpOps P Y kb r K (skipD d tm) ob)
  | .call d g f args :: r, K, tm, ob => guardP g tm
      (callP P Y (f.ev tm) (args.map (·.ev tm)) ob fun v ob' => awpOps P Y kb r K (putD d v tm) ob')
      (awpOps P Y kb r K (skipD d tm) ob)
  | .gh g :: r, K, tm, ob => ghostP g tm ob fun tm ob => awpOps P Y kb r K tm ob

inductive AEx where
  | normal
  | exit (id : Nat)
  | ret
  deriving DecidableEq, Inhabited

end Go.Proofs.RL
