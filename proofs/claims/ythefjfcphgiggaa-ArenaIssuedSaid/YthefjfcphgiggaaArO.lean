/- The plain law of the arena: what a script keeps. Conditions: none. -/
import Derived.Test.YthefjfcphgiggaaArN
set_option linter.unusedVariables false
set_option linter.unusedSimpArgs false
namespace Go.Proofs.RL
theorem findR_spec2 (a : Ar) (h : Int) : findR a h = -1 ∨ ∃ i : Nat, findR a h = i ∧ i < a.sl.length ∧ (a.sl[i]?.getD default).st ≠ 0 := by
  unfold findR
  by_cases h1 : validH h = false
  · left; rw [if_pos h1]
  · by_cases h2 : (a.sl.length : Int) ≤ h % 64
    · left; rw [if_neg h1, if_pos h2]
    · by_cases h3 : (a.sl[(h % 64).toNat]?.getD default).g ≠ h / 64
      · left; rw [if_neg h1, if_neg h2, if_pos h3]
      · by_cases h4 : (a.sl[(h % 64).toNat]?.getD default).st = 0
        · left; rw [if_neg h1, if_neg h2, if_neg h3, if_pos h4]
        · right
          refine ⟨(h % 64).toNat, ?_, by omega, h4⟩
          rw [if_neg h1, if_neg h2, if_neg h3, if_neg h4]
          omega
theorem live_set (l : List Sl) (i : Nat) (s : Sl) (h : i < l.length) : live (l.set i s) + (if (l[i]?.getD default).st ≠ 0 then 1 else 0) = live l + (if s.st ≠ 0 then 1 else 0) := by
  unfold live
  induction l generalizing i with
  | nil => simp at h
  | cons x r ih =>
    cases i with
    | zero => simp only [List.set_cons_zero, List.countP_cons, List.getElem?_cons_zero, Option.getD_some, decide_eq_true_eq]; omega
    | succ i =>
      simp only [List.length_cons] at h
      have := ih i (by omega)
      simp only [List.set_cons_succ, List.countP_cons, List.getElem?_cons_succ]
      omega
structure Inv (n : Nat) (a : Ar) (iss : List Int) : Prop where
  l1 : 1 ≤ a.sl.length
  l2 : a.sl.length ≤ 64
  nd : a.idle.Nodup
  rng : ∀ x ∈ a.idle, 0 ≤ x ∧ x < a.sl.length ∧ (a.sl[x.toNat]?.getD default).st = 0
  cnt : a.idle.length + live a.sl = a.sl.length
  g : ∀ i, i < a.sl.length → 0 ≤ (a.sl[i]?.getD default).g ∧ (a.sl[i]?.getD default).g ≤ n
  x : 0 ≤ a.next ∧ a.next ≤ n
  il : iss.length ≤ n
theorem get_set (l : List Sl) (i j : Nat) (s : Sl) (h : i < l.length) : ((l.set i s)[j]?.getD default) = if i = j then s else (l[j]?.getD default) := by
  rw [List.getElem?_set]
  split
  · rename_i e; subst e; simp [h]
  · rfl
theorem Inv.ok {n : Nat} {a : Ar} {iss : List Int} (h : Inv n a iss) (hn : n ≤ 1000) : ArOK a where
  hs := h.l2
  hi := by have := h.cnt; have := h.l2; omega
  hin j hj := by
    have := h.rng (a.idle[j]) (List.getElem_mem hj)
    rw [List.getElem?_eq_getElem hj, Option.getD_some]
    exact ⟨this.1, this.2.1⟩
  hg i hi := by have := h.g i hi; omega
  hx := by have := h.x; omega
theorem last_mem {a : Ar} {n : Nat} {iss : List Int} (h : Inv n a iss) (he : a.idle.length ≠ 0) : (lastI a : Int) ∈ a.idle ∧ lastI a < a.sl.length ∧ (a.sl[lastI a]?.getD default).st = 0 ∧ a.idle = a.idle.take (a.idle.length - 1) ++ [(lastI a : Int)] := by
  have hlt : a.idle.length - 1 < a.idle.length := by omega
  have hm : a.idle[a.idle.length - 1] ∈ a.idle := List.getElem_mem hlt
  have hr := h.rng _ hm
  have e : (lastI a : Int) = a.idle[a.idle.length - 1] := by
    unfold lastI
    rw [List.getElem?_eq_getElem hlt, Option.getD_some]
    omega
  have e2 : lastI a = (a.idle[a.idle.length - 1]).toNat := by omega
  refine ⟨by rw [e]; exact hm, by omega, by rw [e2]; exact hr.2.2, ?_⟩
  rw [e]
  have := List.take_append_getElem hlt
  rw [this, List.take_of_length_le (by omega)]
theorem inv_alloc {n : Nat} {a : Ar} {iss : List Int} (h : Inv n a iss) (t : Int) : (allocR a t).2.2 = 0 ∧ Inv (n + 1) (allocR a t).1 (iss ++ [(allocR a t).2.1]) ∧ live (allocR a t).1.sl = live a.sl + 1 ∨ (allocR a t).2.2 ≠ 0 ∧ (allocR a t).1 = a := by
  unfold allocR
  by_cases h1 : t < 0 ∨ t > 1152921504606846976
  · right; rw [if_pos h1]; simp
  · rw [if_neg h1]
    by_cases h2 : a.idle.length = 0 ∨ a.next ≥ 1099511627776
    · right; rw [if_pos h2]; simp
    · rw [if_neg h2]
      left
      obtain ⟨m1, m2, m3, m4⟩ := last_mem h (by omega)
      have hl := live_set a.sl (lastI a) ⟨(a.sl[lastI a]?.getD default).g, 1, t, a.next⟩ m2
      simp only [m3, ne_eq, not_true_eq_false, if_false, Nat.add_zero] at hl
      have hl' : live (a.sl.set (lastI a) ⟨(a.sl[lastI a]?.getD default).g, 1, t, a.next⟩) = live a.sl + 1 := by simpa using hl
      refine ⟨rfl, ?_, hl'⟩
      have hnd := h.nd
      rw [m4] at hnd
      have hnot : (lastI a : Int) ∉ a.idle.take (a.idle.length - 1) := fun hm => by
        have := (List.nodup_append.1 hnd).2.2 _ hm _ (List.mem_singleton.2 rfl)
        exact this rfl
      constructor
      · simpa using h.l1
      · simpa using h.l2
      · exact (List.nodup_append.1 hnd).1
      · intro x hx
        have hr := h.rng x (List.mem_of_mem_take hx)
        simp only [List.length_set]
        refine ⟨hr.1, hr.2.1, ?_⟩
        rw [get_set _ _ _ _ m2, if_neg (fun e => hnot (by rw [e]; rw [show ((x.toNat : Nat) : Int) = x by omega]; exact hx))]
        exact hr.2.2
      · simp only [List.length_set, List.length_take, hl']
        have := h.cnt
        omega
      · intro i hi
        simp only [List.length_set] at hi
        rw [get_set _ _ _ _ m2]
        have h3 := h.g i hi
        have h4 := h.g _ m2
        split
        · simp only; omega
        · omega
      · have := h.x; simp only; omega
      · have := h.il; simp; omega
theorem inv_trans {n : Nat} {a : Ar} {iss : List Int} (h : Inv n a iss) (hd f t : Int) : Inv (n + 1) (transR a hd f t).1 iss ∧ live (transR a hd f t).1.sl = live a.sl := by
  have hw : Inv (n + 1) a iss := ⟨h.l1, h.l2, h.nd, h.rng, h.cnt, fun i hi => by have := h.g i hi; omega, by have := h.x; omega, by have := h.il; omega⟩
  unfold transR
  rcases findR_spec2 a hd with he | ⟨i, he, hi, hst⟩
  · rw [if_pos (by omega)]; exact ⟨hw, rfl⟩
  · rw [if_neg (by omega)]
    split
    · exact ⟨hw, rfl⟩
    · rename_i hn
      rw [he] at hn ⊢
      simp only [Int.toNat_natCast] at hn ⊢
      have hl := live_set a.sl i { (a.sl[i]?.getD default) with st := t } hi
      rw [if_pos hst, if_pos (show t ≠ 0 by omega)] at hl
      have hl' : live (a.sl.set i { (a.sl[i]?.getD default) with st := t }) = live a.sl := by omega
      refine ⟨?_, hl'⟩
      constructor
      · simpa using h.l1
      · simpa using h.l2
      · exact h.nd
      · intro x hx
        have hr := h.rng x hx
        simp only [List.length_set]
        refine ⟨hr.1, hr.2.1, ?_⟩
        rw [get_set _ _ _ _ hi, if_neg (fun e => hst (by rw [e]; exact hr.2.2))]
        exact hr.2.2
      · simp only [List.length_set, hl']
        exact h.cnt
      · intro j hj
        simp only [List.length_set] at hj
        rw [get_set _ _ _ _ hi]
        have h3 := hw.g j hj
        have h4 := hw.g i hi
        split
        · simp only; omega
        · omega
      · exact hw.x
      · exact hw.il
theorem inv_rel {n : Nat} {a : Ar} {iss : List Int} (h : Inv n a iss) (hd : Int) : (relR a hd).2 = true ∧ Inv (n + 1) (relR a hd).1 iss ∧ live (relR a hd).1.sl + 1 = live a.sl ∨ (relR a hd).2 = false ∧ (relR a hd).1 = a := by
  unfold relR
  rcases findR_spec2 a hd with he | ⟨i, he, hi, hst⟩
  · right; rw [if_pos (by omega)]; exact ⟨rfl, rfl⟩
  · rw [if_neg (by omega)]
    split
    · right; exact ⟨rfl, rfl⟩
    · left
      rw [he]
      simp only [Int.toNat_natCast]
      have hl := live_set a.sl i ⟨(a.sl[i]?.getD default).g + 1, 0, 0, 0⟩ hi
      rw [if_pos hst] at hl
      have hl' : live (a.sl.set i ⟨(a.sl[i]?.getD default).g + 1, 0, 0, 0⟩) + 1 = live a.sl := by simpa using hl
      refine ⟨by trivial, ?_, hl'⟩
      have hni : (i : Int) ∉ a.idle := fun hm => hst (by have := (h.rng _ hm).2.2; simpa using this)
      constructor
      · simpa using h.l1
      · simpa using h.l2
      · rw [List.nodup_append]
        exact ⟨h.nd, by simp, fun x hx y hy e => by simp at hy; subst hy; exact hni (e ▸ hx)⟩
      · intro x hx
        simp only [List.length_set]
        rcases List.mem_append.1 hx with hx | hx
        · have hr := h.rng x hx
          refine ⟨hr.1, hr.2.1, ?_⟩
          rw [get_set _ _ _ _ hi]
          split
          · rfl
          · exact hr.2.2
        · simp at hx; subst hx
          refine ⟨by omega, by omega, ?_⟩
          rw [get_set _ _ _ _ hi, if_pos (by simp)]
      · simp only [List.length_set, List.length_append, List.length_singleton]
        have := h.cnt
        omega
      · intro j hj
        simp only [List.length_set] at hj
        rw [get_set _ _ _ _ hi]
        have h3 := h.g j hj
        have h4 := h.g i hi
        split
        · simp only; omega
        · omega
      · have := h.x; simp only; omega
      · have := h.il; omega
theorem inv_up {n : Nat} {a : Ar} {iss : List Int} (h : Inv n a iss) : Inv (n + 1) a iss := ⟨h.l1, h.l2, h.nd, h.rng, h.cnt, fun i hi => by have := h.g i hi; omega, by have := h.x; omega, by have := h.il; omega⟩
theorem inv_step {n : Nat} {a : Ar} {iss : List Int} (h : Inv n a iss) (o : LOp) : Inv (n + 1) (stepR a iss o).1 (stepR a iss o).2.1 := by
  unfold stepR
  split
  · rcases inv_alloc h o.n with ⟨h1, h2, _⟩ | ⟨h1, h2⟩
    · rw [if_neg (by simpa using h1)]; exact h2
    · rw [if_pos h1]; simp only; rw [h2]; exact inv_up h
  · split
    · exact (inv_trans h _ _ _).1
    · rcases inv_rel h (pick iss o.n) with ⟨_, h2, _⟩ | ⟨_, h2⟩
      · exact h2
      · simp only; rw [h2]; exact inv_up h
theorem inv_new (n : Int) (h : 1 ≤ n ∧ n ≤ 64) : Inv 0 (newR n).1 [] := by
  unfold newR
  rw [if_neg (by omega)]
  have hz : ∀ i : Nat, ((zeroS n.toNat)[i]?.getD (default : Sl)).st = 0 ∧ ((zeroS n.toNat)[i]?.getD (default : Sl)).g = 0 := fun i => by
    unfold zeroS
    rw [List.getElem?_replicate]
    split <;> exact ⟨rfl, rfl⟩
  constructor
  · simp; omega
  · simp; omega
  · unfold downI
    refine List.Pairwise.map _ (fun a b hab => ?_) (List.nodup_range (n := n.toNat))
    omega
  · intro x hx
    simp only [downI, List.mem_map, List.mem_range] at hx
    obtain ⟨i, hi, rfl⟩ := hx
    refine ⟨by omega, by simp; omega, (hz _).1⟩
  · simp [live, zeroS, List.countP_replicate]
  · intro i hi
    rw [(hz i).2]; omega
  · simp
  · simp
theorem inv_made (cap : Int) (hc : 0 ≤ cap ∧ cap ≤ 255) (l : List LOp) : ∀ n, Inv n (madeN cap l n).1 (madeN cap l n).2
  | 0 => inv_new _ (by have := Int.tmod_nonneg 64 hc.1; have := Int.tmod_lt_of_pos cap (show (0 : Int) < 64 by omega); omega)
  | n + 1 => inv_step (inv_made cap hc l n) _
theorem madeAll (cap : Int) (hc : 0 ≤ cap ∧ cap ≤ 255) (l : List LOp) : MadeAll cap l := fun n hn =>
  ⟨(inv_made cap hc l n).ok (by omega), by have := (inv_made cap hc l n).il; omega⟩
end Go.Proofs.RL
