/- The plain law of issued handles. Conditions: none. -/
import Derived.Test.YthefjfcphgiggaaArP
set_option linter.unusedVariables false
set_option linter.unusedSimpArgs false
namespace Go.Proofs.RL
structure Iss (a : Ar) (iss : List Int) : Prop where
  hx : ∀ x ∈ iss, ∀ i : Nat, i < a.sl.length → x % 64 = i → x / 64 ≤ (a.sl[i]?.getD default).g ∧ ((a.sl[i]?.getD default).st = 0 → x / 64 < (a.sl[i]?.getD default).g)
  hq : ∀ i : Nat, i < a.sl.length → (a.sl[i]?.getD default).st ≠ 0 → (a.sl[i]?.getD default).q < a.next
theorem iss_alloc {n : Nat} {a : Ar} {iss : List Int} (h : Inv n a iss) (h2 : Iss a iss) (t : Int) (h0 : (allocR a t).2.2 = 0) : Iss (allocR a t).1 (iss ++ [(allocR a t).2.1]) := by
  unfold allocR at h0 ⊢
  by_cases h1 : t < 0 ∨ t > 1152921504606846976
  · rw [if_pos h1] at h0; cases h0
  · rw [if_neg h1] at h0 ⊢
    by_cases hh : a.idle.length = 0 ∨ a.next ≥ 1099511627776
    · rw [if_pos hh] at h0; cases h0
    · rw [if_neg hh] at h0 ⊢
      obtain ⟨m1, m2, m3, m4⟩ := last_mem h (by omega)
      have hl2 := h.l2
      have hg := h.g _ m2
      constructor
      · intro x hx i hi hxi
        simp only [List.length_set] at hi
        rw [get_set _ _ _ _ m2]
        rcases List.mem_append.1 hx with hx | hx
        · have := h2.hx x hx i hi hxi
          split
          · rename_i e; subst e
            have := this.2 m3
            simp only
            exact ⟨by omega, fun hc => absurd hc (by decide)⟩
          · exact this
        · simp only [List.mem_singleton] at hx
          have : lastI a = i := by omega
          rw [if_pos this]
          simp only
          exact ⟨by omega, fun hc => absurd hc (by decide)⟩
      · intro i hi hst
        simp only [List.length_set] at hi
        rw [get_set _ _ _ _ m2] at hst ⊢
        split
        · simp only; omega
        · rename_i hne
          rw [if_neg hne] at hst
          have := h2.hq i hi hst
          simp only; omega
theorem iss_trans {a : Ar} {iss : List Int} (h2 : Iss a iss) (hd f t : Int) : Iss (transR a hd f t).1 iss := by
  unfold transR
  rcases findR_spec2 a hd with he | ⟨i, he, hi, hst⟩
  · rw [if_pos (by omega)]; exact h2
  · rw [if_neg (by omega)]
    split
    · exact h2
    · rename_i hn
      rw [he] at hn ⊢
      simp only [Int.toNat_natCast] at hn ⊢
      constructor
      · intro x hx j hj hxj
        simp only [List.length_set] at hj
        rw [get_set _ _ _ _ hi]
        have := h2.hx x hx j hj hxj
        split
        · rename_i e; subst e; simp only; exact ⟨this.1, fun hc => by omega⟩
        · exact this
      · intro j hj hs
        simp only [List.length_set] at hj
        rw [get_set _ _ _ _ hi] at hs ⊢
        split
        · simp only; exact h2.hq i hi hst
        · rename_i hne
          rw [if_neg hne] at hs
          exact h2.hq j hj hs
theorem iss_rel {a : Ar} {iss : List Int} (h2 : Iss a iss) (hd : Int) : Iss (relR a hd).1 iss := by
  unfold relR
  rcases findR_spec2 a hd with he | ⟨i, he, hi, hst⟩
  · rw [if_pos (by omega)]; exact h2
  · rw [if_neg (by omega)]
    split
    · exact h2
    · rw [he]
      simp only [Int.toNat_natCast]
      constructor
      · intro x hx j hj hxj
        simp only [List.length_set] at hj
        rw [get_set _ _ _ _ hi]
        have := h2.hx x hx j hj hxj
        split
        · rename_i e; subst e; simp only; exact ⟨by omega, fun _ => by omega⟩
        · exact this
      · intro j hj hs
        simp only [List.length_set] at hj
        rw [get_set _ _ _ _ hi] at hs ⊢
        split
        · rename_i e; rw [if_pos e] at hs; exact absurd rfl hs
        · rename_i hne
          rw [if_neg hne] at hs
          exact h2.hq j hj hs
theorem iss_step {n : Nat} {a : Ar} {iss : List Int} (h : Inv n a iss) (h2 : Iss a iss) (o : LOp) : Iss (stepR a iss o).1 (stepR a iss o).2.1 := by
  unfold stepR
  split
  · by_cases h1 : (allocR a o.n).2.2 = 0
    · rw [if_neg (by simpa using h1)]; exact iss_alloc h h2 o.n h1
    · rw [if_pos h1]; simp only
      rcases inv_alloc h o.n with ⟨h3, _⟩ | ⟨_, h3⟩
      · exact absurd h3 h1
      · rw [h3]; exact h2
  · split
    · exact iss_trans h2 _ _ _
    · exact iss_rel h2 _
theorem iss_new (n : Int) (h : 1 ≤ n ∧ n ≤ 64) : Iss (newR n).1 [] := by
  unfold newR
  rw [if_neg (by omega)]
  constructor
  · intro x hx; cases hx
  · intro i hi hst
    exfalso
    apply hst
    simp only [zeroS]
    rw [List.getElem?_replicate]
    split <;> rfl
theorem iss_made (cap : Int) (hc : 0 ≤ cap ∧ cap ≤ 255) (l : List LOp) : ∀ n, Iss (madeN cap l n).1 (madeN cap l n).2
  | 0 => iss_new _ (by have := Int.tmod_nonneg 64 hc.1; have := Int.tmod_lt_of_pos cap (show (0 : Int) < 64 by omega); omega)
  | n + 1 => iss_step (inv_made cap hc l n) (iss_made cap hc l n) _

theorem findR_of (a : Ar) (x : Int) (i : Nat) (hv : validH x = true) (hi : i < a.sl.length) (hm : x % 64 = i) (hg : (a.sl[i]?.getD default).g = x / 64) (hs : (a.sl[i]?.getD default).st ≠ 0) : findR a x = i := by
  unfold findR
  have e : (x % 64).toNat = i := by omega
  rw [if_neg (by simp [hv]), if_neg (by omega), e, if_neg (by simpa using hg), if_neg hs]
  exact hm
theorem alloc_look {n : Nat} {a : Ar} {iss : List Int} (h : Inv n a iss) (hn : n ≤ 1000) (h2 : Iss a iss) (t : Int) (h0 : (allocR a t).2.2 = 0) :
    (∃ g, lookR (allocR a t).1 (allocR a t).2.1 = (⟨g, 1, t, a.next⟩, true)) ∧ (allocR a t).1.next = a.next + 1 ∧ (allocR a t).1.sl ≠ [] ∧ (allocR a t).1.sl.length ≤ 64 ∧
      ∀ x ∈ iss, lookR (allocR a t).1 x = lookR a x ∧ ((lookR a x).2 = true → (lookR a x).1.q < a.next) := by
  unfold allocR at h0 ⊢
  by_cases h1 : t < 0 ∨ t > 1152921504606846976
  · rw [if_pos h1] at h0; cases h0
  · rw [if_neg h1] at h0 ⊢
    by_cases hh : a.idle.length = 0 ∨ a.next ≥ 1099511627776
    · rw [if_pos hh] at h0; cases h0
    · rw [if_neg hh] at h0 ⊢
      obtain ⟨m1, m2, m3, m4⟩ := last_mem h (by omega)
      have hl2 := h.l2
      have hl1 := h.l1
      have hg := h.g _ m2
      simp only
      refine ⟨⟨(a.sl[lastI a]?.getD default).g, ?_⟩, trivial, fun e => by have := congrArg List.length e; rw [List.length_set] at this; simp only [List.length_nil] at this; omega, by simpa using hl2, fun x hx => ?_⟩
      · have hf := findR_of { sl := a.sl.set (lastI a) ⟨(a.sl[lastI a]?.getD default).g, 1, t, a.next⟩, idle := a.idle.take (a.idle.length - 1), next := a.next + 1 } ((a.sl[lastI a]?.getD default).g * 64 + lastI a) (lastI a) (by unfold validH; simp; omega) (by simpa using m2) (by omega)
          (by simp only; rw [get_set _ _ _ _ m2, if_pos rfl]; simp only; omega) (by simp only; rw [get_set _ _ _ _ m2, if_pos rfl]; exact Int.one_ne_zero)
        unfold lookR
        rw [hf, if_neg (by omega)]
        simp only [Int.toNat_natCast]
        rw [get_set _ _ _ _ m2, if_pos rfl]
      · have hlk : lookR { sl := a.sl.set (lastI a) ⟨(a.sl[lastI a]?.getD default).g, 1, t, a.next⟩, idle := a.idle.take (a.idle.length - 1), next := a.next + 1 } x = lookR a x := by
          have hf : findR { sl := a.sl.set (lastI a) ⟨(a.sl[lastI a]?.getD default).g, 1, t, a.next⟩, idle := a.idle.take (a.idle.length - 1), next := a.next + 1 } x = findR a x := by
            unfold findR
            simp only [List.length_set]
            by_cases hv : validH x = false
            · rw [if_pos hv, if_pos hv]
            · rw [if_neg hv, if_neg hv]
              by_cases hlen : (a.sl.length : Int) ≤ x % 64
              · rw [if_pos hlen, if_pos hlen]
              · rw [if_neg hlen, if_neg hlen]
                rw [get_set _ _ _ _ m2]
                by_cases hi : lastI a = (x % 64).toNat
                · rw [if_pos hi]
                  have := (h2.hx x hx (lastI a) m2 (by omega)).2 m3
                  simp only
                  rw [if_pos (by omega), ← hi, if_pos (by omega)]
                · rw [if_neg hi]
          unfold lookR
          rw [hf]
          rcases findR_spec2 a x with he | ⟨i, he, hi, hst⟩
          · rw [he]; rfl
          · rw [he, if_neg (by omega), if_neg (by omega)]
            simp only [Int.toNat_natCast]
            rw [get_set _ _ _ _ m2, if_neg (fun e => hst (by rw [← e]; exact m3))]
        refine ⟨hlk, fun hw => ?_⟩
        unfold lookR at hw ⊢
        rcases findR_spec2 a x with he | ⟨i, he, hi, hst⟩
        · rw [he] at hw; cases hw
        · rw [he, if_neg (by omega)]
          exact h2.hq i hi hst
end Go.Proofs.RL
