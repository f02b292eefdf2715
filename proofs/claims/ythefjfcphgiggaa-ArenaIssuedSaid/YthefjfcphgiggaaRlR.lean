/- Regions that draw their order: soundness. Conditions: none. -/
import Derived.Test.YthefjfcphgiggaaRlQ
set_option linter.unusedVariables false
set_option linter.unusedSimpArgs false
namespace Go.Proofs.RL

theorem countP_drop {p q : Nat → Bool} {i : Nat} (hp : p i = true) (hq : q i = false) (h : ∀ j, j ≠ i → q j = p j) : ∀ (l : List Nat), l.Nodup → i ∈ l → l.countP q + 1 = l.countP p
  | [], _, hi => by cases hi
  | x :: r, hn, hi => by
    rw [List.nodup_cons] at hn
    simp only [List.countP_cons]
    by_cases hx : x = i
    · subst hx
      have : r.countP q = r.countP p := List.countP_congr (fun j hj => by rw [h j (fun e => hn.1 (e ▸ hj))])
      simp [hp, hq, this]
    · have := countP_drop hp hq h r hn.2 ((List.mem_cons.1 hi).resolve_left (fun e => hx e.symm))
      rw [h x hx]
      omega

theorem gd (a : Array Value) (t : Nat) : a.getD t undef = (a[t]?).getD undef := by simp [Array.getD]; split <;> simp_all

/-- The act that the abstract state speaks of, and the act as it is: they differ where an operation is still to be met. -/
structure VA (ops : Array Oper) (pend : Nat → Prop) (ast a : Act) : Prop where
  size : ast.tmps.size = a.tmps.size
  defers : ast.defers = a.defers
  tmps : ∀ t : Nat, (∀ i o, pend i → ops[i]? = some o → o.dst ≠ some t) → ast.tmps[t]? = a.tmps[t]?

theorem VA.eval {ops : Array Oper} {pend : Nat → Prop} {ast a : Act} (h : VA ops pend ast a) {o : Oper} (hs : ∀ cs b, o.op ≠ .select cs b) (hl : ∀ i oi d, pend i → ops[i]? = some oi → oi.dst = some d → d ∉ o.looksAt ops) :
    execOp a.eval o = execOp ast.eval o := by
  refine execOp_congr o hs fun x hx => ?_
  cases x with
  | tmp t =>
    have : ast.tmps[t]? = a.tmps[t]? := h.tmps t fun i oi hp ho hd => hl i oi t hp ho hd (List.mem_append_left _ (List.mem_filterMap.2 ⟨.tmp t, by simpa using hx, rfl⟩))
    simp only [Act.eval]
    rw [gd, gd, this]
  | _ => rfl
theorem VA.wanted {ops : Array Oper} {pend : Nat → Prop} {ast a : Act} (h : VA ops pend ast a) {o : Oper} (hl : ∀ i oi d, pend i → ops[i]? = some oi → oi.dst = some d → d ∉ o.looksAt ops) :
    Region.wanted o (yielded ops a.tmps) = Region.wanted o (yielded ops ast.tmps) := by
  unfold Region.wanted
  cases hg : o.guard with
  | none => rfl
  | some gw =>
    obtain ⟨g, want⟩ := gw
    have hy : yielded ops a.tmps g = yielded ops ast.tmps g := by
      unfold yielded
      cases ht : (ops[g]?).bind (·.dst) with
      | none => rfl
      | some t =>
        have : ast.tmps[t]? = a.tmps[t]? := h.tmps t fun i oi hp ho hd => hl i oi t hp ho hd (by simp [Oper.looksAt, hg, ht])
        simp [this]
    simp only [hy]

def RepO (d : Option Nat) (g : Option (Nat × Bool)) (ao : AOp) (tm : Tm) (ob : Ob) : Prop :=
  guardP g tm (∃ v, stepOp ao tm (oget ob) 0 0 none (fun v' u n dl => v' = v ∧ u = none ∧ n = none ∧ dl = none) ∧ ∀ t, d = some t → tget tm t = v) (∀ t, d = some t → tget tm t = .junk)
def Rep (it : AI) (tm : Tm) (ob : Ob) : Prop :=
  match it with
  | .op d g _ ao => RepO d g ao tm ob
  | _ => False

theorem guard_congr {g : Option (Nat × Bool)} {tm tm' : Tm} (h : ∀ t b, g = some (t, b) → tget tm' t = tget tm t) {X S X' S' : Prop} (hX : X → X') (hS : S → S') (hg : guardP g tm X S) : guardP g tm' X' S' := by
  cases g with
  | none => exact hX hg
  | some tb =>
    obtain ⟨t, b⟩ := tb
    simp only [guardP, h t b rfl] at hg ⊢
    split at hg
    · exact ⟨fun hb => hX (hg.1 hb), fun hb => hS (hg.2 hb)⟩
    · exact hg

theorem Rep.keep {it : AI} (hs : stillIt it = true) {tm tm' : Tm} {ob ob' : Ob} (h : Rep it tm ob) (ht : ∀ t ∈ it.reads, tget tm' t = tget tm t)
    (hd : ∀ d g tk o, it = .op d g tk o → ∀ t, d = some t → tget tm' t = tget tm t) (hp : ∀ p ∈ itPtrs it, peq (p.ev tm) (oget ob) (oget ob')) : Rep it tm' ob' := by
  cases it with
  | op d g tk o =>
    have hs' : o.still = true := by cases tk <;> simp_all [stillIt]
    refine guard_congr (fun t b hg => ht t (by simp [AI.reads, hg])) ?_ ?_ h
    · rintro ⟨v, h1, h2⟩
      exact ⟨v, still_congr hs' (ev_same fun t hm => ht t (by simp [AI.reads, hm])) hp h1, fun t hdt => (hd d g tk o rfl t hdt).trans (h2 t hdt)⟩
    · intro h1 t hdt
      exact (hd d g tk o rfl t hdt).trans (h1 t hdt)
  | call => exact h
  | gh => exact h

theorem nodst_spec {ops : Array Oper} {d : Option Tmp} {o : Oper} {it : AI} (h : nodst ops d o it = true) (t : Nat) (hd : d = some t) : t ∉ o.looksAt ops ∧ o.dst ≠ some t ∧ t ∉ it.reads := by
  subst hd
  simp [nodst] at h
  exact ⟨h.1.1, h.1.2, h.2⟩
theorem ownOK_spec {ops : Array Oper} {d : Option Tmp} {o : Oper} {it : AI} (h : ownOK ops d o it = true) (t : Nat) (hd : d = some t) : t ∉ o.looksAt ops ∧ t ∉ it.reads := by
  subst hd
  simp [ownOK] at h
  exact h

section
variable {P : Program} {Y : YT} {nt kb lim : Nat} {l : Option Nat} {m : Nat} {ops : Array Oper} {its : List AI} {bs : List (List Nat)} {K : Tm → Ob → Prop}

theorem trOper_op {o : Oper} {d : Option Nat} {g : Option (Nat × Bool)} {tk : Bool} {ao : AOp} (h : trOper P nt ops o = some (.op d g tk ao)) :
    (ao.still = true → trOp P o.op = some ao) ∧ tk = false ∧ trDst nt o.dst = some d ∧ trGuard ops o.guard = some g := by
  simp only [trOper, Option.bind_eq_some_iff] at h
  obtain ⟨d', hd, g', hg, h⟩ := h
  split at h
  · simp only [Option.bind_eq_some_iff, Option.map_eq_some_iff] at h
    obtain ⟨_, _, _, _, h⟩ := h
    cases h
  · cases h
  · cases h
    refine ⟨fun hs => ?_, rfl, hd, hg⟩
    cases hao : trOp P o.op with
    | some ao => rfl
    | none => rw [hao] at hs; cases hs
theorem trOper_dg {o : Oper} {it : AI} (h : trOper P nt ops o = some it) : ∃ d g, trDst nt o.dst = some d ∧ trGuard ops o.guard = some g ∧ ((∃ ao, it = .op d g false ao) ∨ ∃ f as, it = .call d g f as) := by
  simp only [trOper, Option.bind_eq_some_iff] at h
  obtain ⟨d', hd, g', hg, h⟩ := h
  refine ⟨d', g', hd, hg, ?_⟩
  split at h
  · simp only [Option.bind_eq_some_iff, Option.map_eq_some_iff] at h
    obtain ⟨_, _, _, _, h⟩ := h
    exact .inr ⟨_, _, h.symm⟩
  · cases h
  · cases h; exact .inl ⟨_, rfl⟩
theorem trOper_noselect {o : Oper} {it : AI} (h : trOper P nt ops o = some it) (cs : Array SelectCase) (b : Bool) : o.op ≠ .select cs b := by
  intro hs
  simp only [trOper, Option.bind_eq_some_iff, hs] at h
  obtain ⟨d', hd, g', hg, h⟩ := h
  cases h
theorem trDst_spec {d : Option Tmp} {d' : Option Nat} (h : trDst nt d = some d') : d = d' ∧ ∀ t, d' = some t → t < nt := by
  cases d with
  | none => cases h; exact ⟨rfl, by simp⟩
  | some t =>
    simp only [trDst] at h
    split at h
    · rename_i hlt; cases h; exact ⟨rfl, fun t' h => by cases h; exact hlt⟩
    · cases h

structure DI (P : Program) (Y : YT) (nt lim : Nat) (ops : Array Oper) (its : List AI) (bs : List (List Nat)) (fuel : Nat) (listed : Array Bool) (A : List Nat) (a ast : Act) (w : World) (tm : Tm) (ob : Ob) (G : Gh) : Prop where
  sub : ∀ i, i < ops.size → listed.getD i true = true → i ∈ A
  cloL : ∀ i o, ops[i]? = some o → listed.getD i true = true → ∀ e ∈ o.after, binds e = true → listed.getD e.on false = true
  cloA : ∀ i o, ops[i]? = some o → i ∈ A → ∀ e ∈ o.after, binds e = true → e.on ∈ A
  size : listed.size = ops.size
  cnt : (List.range ops.size).countP (fun i => !listed.getD i true) = fuel
  st : St nt lim G ast w tm ob
  va : VA ops (fun i => i ∈ A ∧ listed.getD i true = false) ast a
  rep : ∀ i o, ops[i]? = some o → i ∈ A → listed.getD i true = false → fstI ops its bs i = true ∧ Rep (itAt its i) tm ob
  Y : YOK P Y G

theorem bef_clo (hchk : drawOK ops its bs = true) {S : Nat → Prop} (hS : ∀ i o, ops[i]? = some o → S i → ∀ e ∈ o.after, binds e = true → S e.on) : ∀ (i : Nat) (o : Oper), ops[i]? = some o → (∀ e ∈ o.after, binds e = true → S e.on) → ∀ j ∈ bef bs i, S j := by
  intro i
  induction i using Nat.strongRecOn with
  | _ i ih =>
    intro o ho hall j hj
    have hlt : i < ops.size := (Array.getElem?_eq_some_iff.1 ho).1
    have h1 := List.all_eq_true.1 hchk i (List.mem_range.2 hlt)
    simp only [chkI, ho, Bool.and_eq_true] at h1
    obtain ⟨⟨h1, h2⟩, _⟩ := h1
    have h3 := List.all_eq_true.1 h2 j hj
    rw [Array.any_eq_true'] at h3
    obtain ⟨e, he, h3⟩ := h3
    simp only [Bool.and_eq_true, Bool.or_eq_true, beq_iff_eq, List.contains_eq_mem, decide_eq_true_eq] at h3
    obtain ⟨hb, h3⟩ := h3
    have hSe := hall e he hb
    rcases h3 with rfl | h3
    · exact hSe
    · have h4 := Array.all_eq_true_iff_forall_mem.1 h1 e he
      simp only [hb, Bool.not_true, Bool.false_or, decide_eq_true_eq] at h4
      cases hoe : ops[e.on]? with
      | none => have := Array.getElem?_eq_none_iff.1 hoe; omega
      | some oe => exact ih e.on h4 oe hoe (fun e' he' hb' => hS e.on oe hoe hSe e' he' hb') j h3

theorem fst_spec {i : Nat} (h : fstI ops its bs i = true) : ∃ oi, ops[i]? = some oi ∧ stillIt (itAt its i) = true ∧ (∀ t, oi.dst = some t → t ∉ oi.looksAt ops ∧ t ∉ (itAt its i).reads) ∧
    ∀ k ok, ops[k]? = some ok → k ≠ i → i ∈ bef bs k ∨ ∀ t, oi.dst = some t → t ∉ ok.looksAt ops ∧ ok.dst ≠ some t ∧ t ∉ (itAt its k).reads := by
  unfold fstI at h
  split at h
  · cases h
  · rename_i oi hoi
    simp only [Bool.and_eq_true] at h
    obtain ⟨⟨h1, h2⟩, h3⟩ := h
    refine ⟨oi, hoi, h1, fun t ht => ownOK_spec h2 t ht, fun k ok hk hne => ?_⟩
    have hlt : k < ops.size := (Array.getElem?_eq_some_iff.1 hk).1
    have h4 := List.all_eq_true.1 h3 k (List.mem_range.2 hlt)
    simp only [hk, Bool.or_eq_true, beq_iff_eq, List.contains_eq_mem, decide_eq_true_eq] at h4
    rcases h4 with (h4 | h4) | h4
    · exact absurd h4.symm hne
    · exact .inl h4
    · exact .inr fun t ht => nodst_spec h4 t ht

theorem sep_spec (hchk : drawOK ops its bs = true) {i j : Nat} {oi oj : Oper} (hi : ops[i]? = some oi) (hj : ops[j]? = some oj) (hne : i ≠ j) (h1 : j ∉ bef bs i) (h2 : i ∉ bef bs j) :
    (∀ t, oi.dst = some t → t ∉ oj.looksAt ops ∧ oj.dst ≠ some t ∧ t ∉ (itAt its j).reads) ∧ (∀ t, oj.dst = some t → t ∉ oi.looksAt ops ∧ oi.dst ≠ some t ∧ t ∉ (itAt its i).reads) := by
  have hlt : i < ops.size := (Array.getElem?_eq_some_iff.1 hi).1
  have hlt' : j < ops.size := (Array.getElem?_eq_some_iff.1 hj).1
  have h3 := List.all_eq_true.1 hchk i (List.mem_range.2 hlt)
  simp only [chkI, hi, Bool.and_eq_true] at h3
  have h4 := List.all_eq_true.1 h3.2 j (List.mem_range.2 hlt')
  simp only [hj, Bool.or_eq_true, beq_iff_eq, List.contains_eq_mem, decide_eq_true_eq, Bool.and_eq_true] at h4
  rcases h4 with ((h4 | h4) | h4) | h4
  · exact absurd h4 hne
  · exact absurd h4 h1
  · exact absurd h4 h2
  · exact ⟨fun t ht => nodst_spec h4.1 t ht, fun t ht => nodst_spec h4.2 t ht⟩

end
end Go.Proofs.RL
