/- Regions that draw their order: what is asked of one order, and of the few that differ. Conditions: none. -/
import Derived.Test.YthefjfcphgiggaaRlP
set_option linter.unusedVariables false
set_option linter.unusedSimpArgs false
namespace Go.Proofs.RL

def AOp.still : AOp → Bool
  | .never | .mkMap | .alloc _ | .box _ | .buildSl .. | .store .. | .mkSl .. | .append .. => false
  | _ => true
def AOp.opds : AOp → List Opd
  | .mv x => [x]
  | .pick b x y => [b, x, y]
  | .alloc _ => []
  | .box x => [x]
  | .build _ ps => ps.map (·.2.2)
  | .buildSl _ _ _ ps => ps.map (·.2)
  | .load _ _ p => [p]
  | .store _ p x => [p, x]
  | .nilCheck x => [x]
  | .bin _ x y => [x, y]
  | .eqNil _ _ x => [x]
  | .eqB _ x y => [x, y]
  | .not x => [x]
  | .neg x => [x]
  | .conv _ x => [x]
  | .mkIface _ x => [x]
  | .mkFunc _ f c => f ++ c
  | .mkSl _ _ _ n => [n]
  | .slice _ x lo hi mx => x :: (lo.toList ++ (hi.toList ++ mx.toList))
  | .sliceStr x lo hi => x :: (lo.toList ++ hi.toList)
  | .fieldAddr _ x => [x]
  | .field _ _ _ x => [x]
  | .idxA _ x i => [x, i]
  | .idxArr _ _ x i => [x, i]
  | .idxS x i => [x, i]
  | .extract x _ => [x]
  | .len _ x => [x]
  | .cap x => [x]
  | .append _ _ s x => [s, x]
  | .minmax _ x y => [x, y]
  | .never => []
  | .mkMap => []
  | .eqAgg _ _ x y => [x, y]
def AOp.ptrs : AOp → List Opd
  | .load _ _ p => [p]
  | _ => []
def peq (v : AV) (og og' : OG) : Prop :=
  match v with
  | .ptr k _ _ => og' k = og k
  | .eptr k _ _ _ _ => og' k = og k
  | _ => True

theorem bnd_congr {tm tm' : Tm} {b : Option Opd} (h : ∀ x ∈ b.toList, x.ev tm' = x.ev tm) (n : Nat) (K : Nat → Prop) : bndP tm' b n K = bndP tm b n K := by
  cases b with
  | none => rfl
  | some x => simp only [bndP, h x (by simp)]
theorem buildCells_congr {tm tm' : Tm} {K : List AV → Prop} : ∀ (ps : List (Nat × Nat × Opd)) (cs : List AV), (∀ x ∈ ps.map (·.2.2), x.ev tm' = x.ev tm) → buildCells tm' cs ps K = buildCells tm cs ps K
  | [], _, _ => rfl
  | (o, n, x) :: r, cs, h => by
    simp only [buildCells, h x (by simp)]
    rw [buildCells_congr r _ (fun y hy => h y (by simp at hy ⊢; exact .inr hy))]

theorem still_congr {ao : AOp} (hs : ao.still = true) {tm tm' : Tm} {og og' : OG} {d d' e e' : Nat} {c c' : Option Nat} {K : Kont} (h : ∀ x ∈ ao.opds, x.ev tm' = x.ev tm)
    (hp : ∀ p ∈ ao.ptrs, peq (p.ev tm) og og') (hst : stepOp ao tm og d e c K) : stepOp ao tm' og' d' e' c' K := by
  cases ao <;> simp only [AOp.still, Bool.false_eq_true] at hs
  case build z ps =>
    simp only [stepOp] at hst ⊢
    rw [buildCells_congr _ _ h]
    exact hst
  case mkFunc f a b =>
    simp only [stepOp] at hst ⊢
    have h1 : a.map (·.ev tm') = a.map (·.ev tm) := List.map_congr_left (fun x hx => h x (by simp [AOp.opds, hx]))
    have h2 : b.map (·.ev tm') = b.map (·.ev tm) := List.map_congr_left (fun x hx => h x (by simp [AOp.opds, hx]))
    rw [h1, h2]
    exact hst
  case load ag sz p =>
    have h1 := h p (by simp [AOp.opds])
    have h2 := hp p (by simp [AOp.ptrs])
    simp only [stepOp, loadP, h1] at hst ⊢
    generalize p.ev tm = v at *
    cases v <;> simp only [peq] at h2 hst ⊢ <;> first | (rw [h2]; exact hst) | exact hst
  case slice sz x lo hi mx =>
    have h1 := h x (by simp [AOp.opds])
    have hlo := fun n K => bnd_congr (b := lo) (fun y hy => h y (by simp [AOp.opds] at hy ⊢; simp [hy])) n K
    have hhi := fun n K => bnd_congr (b := hi) (fun y hy => h y (by simp [AOp.opds] at hy ⊢; simp [hy])) n K
    have hmx := fun n K => bnd_congr (b := mx) (fun y hy => h y (by simp [AOp.opds] at hy ⊢; simp [hy])) n K
    cases mx <;> simp only [stepOp, sliceP, h1, hlo, hhi, hmx] at hst ⊢ <;> exact hst
  case sliceStr x lo hi =>
    have h1 := h x (by simp [AOp.opds])
    have hlo := fun n K => bnd_congr (b := lo) (fun y hy => h y (by simp [AOp.opds] at hy ⊢; simp [hy])) n K
    have hhi := fun n K => bnd_congr (b := hi) (fun y hy => h y (by simp [AOp.opds] at hy ⊢; simp [hy])) n K
    simp only [stepOp, sliceStrP, h1, hlo, hhi] at hst ⊢
    exact hst
  all_goals
    simp only [AOp.opds, List.mem_cons, List.not_mem_nil, or_false, forall_eq_or_imp, forall_eq] at h
    simp only [stepOp, h] at hst ⊢
    exact hst

def tmpsOf (l : List Opd) : List Nat := l.filterMap fun | .t n => some n | _ => none
def AI.reads : AI → List Nat
  | .op _ g _ o => (g.map (·.1)).toList ++ tmpsOf o.opds
  | .call _ g f args => (g.map (·.1)).toList ++ tmpsOf (f :: args)
  | .gh _ => []
theorem mem_tmpsOf {l : List Opd} {n : Nat} (h : Opd.t n ∈ l) : n ∈ tmpsOf l := List.mem_filterMap.2 ⟨_, h, rfl⟩
theorem ev_same {tm tm' : Tm} {l : List Opd} (h : ∀ t ∈ tmpsOf l, tget tm' t = tget tm t) : ∀ x ∈ l, x.ev tm' = x.ev tm := by
  intro x hx
  cases x with
  | t n => exact h n (mem_tmpsOf hx)
  | c x => rfl

inductive DT where
  | done
  | bad
  | stop
  | fst (it : AI) (t : DT)
  | main (ld : List Opd) (it : AI) (t r : DT)
  deriving Inhabited

abbrev DT.main1 (ld : List Opd) (it : AI) (t : DT) : DT := .main ld it t .stop

def stab (ld : List Opd) (tm : Tm) (ob ob' : Ob) : Prop := ∀ p ∈ ld, peq (p.ev tm) (oget ob) (oget ob')

def awpDT (P : Program) (Y : YT) (kb : Nat) (K : Tm → Ob → Prop) : DT → Tm → Ob → Prop
  | .done, tm, ob => K tm ob
  | .bad, _, _ => False
  | .stop, _, _ => True
  | .fst it t, tm, ob =>
    match it with
    | .op d g _ o => guardP g tm (∃ v, stepOp o tm (oget ob) 0 0 none (fun v' u n dl => v' = v ∧ u = none ∧ n = none ∧ dl = none) ∧ awpDT P Y kb K t (putD d v tm) ob) (awpDT P Y kb K t (skipD d tm) ob)
    | _ => False
  | .main ld it t r, tm, ob =>
    (match it with
    | .op d g _ o => guardP g tm (∀ e, stepOp o tm (oget ob) (keyOf kb d) e none fun v u n dl => stab ld tm ob (obAfter ob (keyOf kb d) e u n dl) ∧ awpDT P Y kb K t (putD d v tm) (obAfter ob (keyOf kb d) e u n dl))
        (awpDT P Y kb K t (skipD d tm) ob)
    | .call d g f args => guardP g tm (callP P Y (f.ev tm) (args.map (·.ev tm)) ob fun v ob' => stab ld tm ob ob' ∧ awpDT P Y kb K t (putD d v tm) ob') (awpDT P Y kb K t (skipD d tm) ob)
    | .gh _ => False) ∧ awpDT P Y kb K r tm ob

/-! ### The tree of orders, computed -/
def binds (e : Edge) : Bool := Region.binds .any e
def rdy (ops : Array Oper) (A : List Nat) : List Nat :=
  (List.range ops.size).filter fun i => !A.contains i && ((ops[i]?).map (·.after.all fun e => !binds e || A.contains e.on)).getD false

def befList : List Oper → List (List Nat) → List (List Nat)
  | [], acc => acc
  | o :: r, acc => befList r (acc ++ [((o.after.toList.filter binds).map (·.on)) ++ ((o.after.toList.filter binds).map fun e => acc.getD e.on []).flatten |>.eraseDups])
def bef (bs : List (List Nat)) (i : Nat) : List Nat := bs.getD i []

def nodst (ops : Array Oper) (d : Option Tmp) (o : Oper) (it : AI) : Bool :=
  match d with
  | none => true
  | some d => !(o.looksAt ops).contains d && (o.dst != some d) && !it.reads.contains d
def ownOK (ops : Array Oper) (d : Option Tmp) (o : Oper) (it : AI) : Bool :=
  match d with
  | none => true
  | some d => !(o.looksAt ops).contains d && !it.reads.contains d
def stillIt : AI → Bool
  | .op _ _ false o => o.still
  | _ => false
def itAt (its : List AI) (i : Nat) : AI := its.getD i default

def chkI (ops : Array Oper) (its : List AI) (bs : List (List Nat)) (i : Nat) : Bool :=
  match ops[i]? with
  | none => false
  | some oi =>
    (oi.after.all fun e => !binds e || decide (e.on < i)) &&
    ((bef bs i).all fun j => oi.after.any fun e => binds e && (e.on == j || (bef bs e.on).contains j)) &&
    ((List.range ops.size).all fun j => i == j || (bef bs i).contains j || (bef bs j).contains i ||
      (match ops[j]? with | some oj => nodst ops oi.dst oj (itAt its j) && nodst ops oj.dst oi (itAt its i) | none => true))
def fstI (ops : Array Oper) (its : List AI) (bs : List (List Nat)) (i : Nat) : Bool :=
  match ops[i]? with
  | none => false
  | some oi => stillIt (itAt its i) && ownOK ops oi.dst oi (itAt its i) &&
    ((List.range ops.size).all fun k => i == k || (bef bs k).contains i || (match ops[k]? with | some ok => nodst ops oi.dst ok (itAt its k) | none => true))
def drawOK (ops : Array Oper) (its : List AI) (bs : List (List Nat)) : Bool := (List.range ops.size).all (chkI ops its bs)
def itPtrs : AI → List Opd
  | .op _ _ _ o => o.ptrs
  | _ => []
def ldsOf (ops : Array Oper) (its : List AI) (bs : List (List Nat)) (i : Nat) (A : List Nat) : List Opd :=
  ((A.filter fun l => fstI ops its bs l && !(bef bs i).contains l).map fun l => itPtrs (itAt its l)).flatten

def mkDT (ops : Array Oper) (its : List AI) (bs : List (List Nat)) : Nat → List Nat → DT
  | 0, _ => .bad
  | f + 1, A =>
    match (rdy ops A).find? (fstI ops its bs) with
    | some i => .fst (itAt its i) (mkDT ops its bs f (i :: A))
    | none =>
      match rdy ops A with
      | [] => .done
      | r => r.foldr (fun i t => .main (ldsOf ops its bs i A) (itAt its i) (mkDT ops its bs f (i :: A)) t) .stop

theorem mem_rdy {ops : Array Oper} {A : List Nat} {i : Nat} : i ∈ rdy ops A ↔ i ∉ A ∧ ∃ o, ops[i]? = some o ∧ ∀ e ∈ o.after, binds e = true → e.on ∈ A := by
  unfold rdy
  rw [List.mem_filter, List.mem_range]
  cases ho : ops[i]? with
  | none => simp
  | some o =>
    have hlt : i < ops.size := (Array.getElem?_eq_some_iff.1 ho).1
    simp only [hlt, true_and, Option.map_some, Option.getD_some, Bool.and_eq_true, Bool.not_eq_true', Array.all_eq_true_iff_forall_mem, Bool.or_eq_true, Option.some.injEq, exists_eq_left', List.contains_eq_mem, decide_eq_false_iff_not, decide_eq_true_eq]
    constructor
    · rintro ⟨h0, h⟩
      exact ⟨h0, fun e he hb => (h e he).resolve_left (by simp [hb])⟩
    · rintro ⟨h0, h⟩
      refine ⟨h0, fun e he => ?_⟩
      cases hb : binds e
      · exact .inl rfl
      · exact .inr (h e he hb)

end Go.Proofs.RL
