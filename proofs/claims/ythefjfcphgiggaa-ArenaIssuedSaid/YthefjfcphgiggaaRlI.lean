/- Each operation of the model does what its abstract twin says: cuts of slices and appends. Conditions: none. -/
import Derived.Test.YthefjfcphgiggaaRlH
set_option linter.unusedVariables false
set_option linter.unusedSimpArgs false
namespace Go.Proofs.RL

theorem hdLen_getD {α : Type} {xs : List (List α)} {sz : Nat} (h : hdLen xs sz) (h0 : 0 < xs.length) : (xs.getD 0 []).length = sz := by
  cases xs with
  | nil => simp at h0
  | cons x r => exact h x rfl
theorem hdLen_sz {xs : List (List FV)} {sz sz' : Nat} (h : hdLen xs sz') (hsz : ∀ i, i < xs.length → (xs.getD i []).length = sz) (h0 : 0 < xs.length) : sz = sz' := by
  rw [← hsz 0 h0]; exact hdLen_getD h h0

section
variable {P : Program} {o : Oper} {a : Act} {w : World} {G : Gh} {ob : Ob} {tm : Tm} {d e : Nat} {c : Option Nat} {K : Kont}

theorem slice_tail (ad : Option Addr) (m l sz : Nat) : (if m = l then ad else ad.map (·.add (l * sz))).isNone = ad.isNone := by
  split
  · rfl
  · cases ad <;> rfl

theorem op_slice {t el : TypeId} {i : TypeInfo} {x : Operand} {lo hi mx : Option Operand} {x' : Opd} {lo' hi' mx' : Option Opd} (ho : o.op = .slice t x lo hi mx) (ht : P.underlying t = some (.slice el)) (hi0 : P.info? el = some i)
    (hx : trOpd x = some x') (hlo : trO lo = some lo') (hhi : trO hi = some hi') (hmx : trO mx = some mx') (hmh : mx ≠ none → hi ≠ none) (hT : TRel G tm a) (hR : Rel G w ob)
    (h : stepOp (.slice i.size x' lo' hi' mx') tm (oget ob) d e c K) : Out P o a w G ob d e K := by
  have r1 := trOpd_rel hT hx
  have run : ∀ (ad : Option Addr) (len cc l hh m : Nat), a.eval x = .slice ad len cc → ((lo.map a.eval = none ∧ l = 0) ∨ ∃ k, lo.map a.eval = some (.int k (l : Int))) →
      ((hi.map a.eval = none ∧ hh = len) ∨ ∃ k, hi.map a.eval = some (.int k (hh : Int))) → ((mx.map a.eval = none ∧ m = cc) ∨ (hi.map a.eval ≠ none ∧ ∃ k, mx.map a.eval = some (.int k (m : Int)))) → l ≤ hh → hh ≤ m → m ≤ cc →
      (execOp a.eval o).run P w = .ok (.value (.slice (if m = l then ad else ad.map (·.add (l * i.size))) (hh - l) (m - l))) w := by
    intro ad len cc l hh m hv h1 h2 h3 h4 h5 h6
    simp only [execOp, ho, Instr.sliceAt, Sem.run_bind, run_underlying ht, Result.andThen_ok, Instr.slice, hv, run_bounds h1 h2 h3 h4 h5 h6, run_size hi0, Sem.run_pure]
  have maxO : mx' = none → mx.map a.eval = none := fun hn => by
    cases mx with
    | none => rfl
    | some q => simp only [trO, Option.map_eq_some_iff] at hmx; obtain ⟨y, _, rfl⟩ := hmx; cases hn
  have hine : mx' ≠ none → hi.map a.eval ≠ none := fun hn => by
    have : mx ≠ none := fun hm => hn (by subst hm; cases hmx; rfl)
    have := hmh this
    cases hi with
    | none => exact absurd rfl this
    | some _ => simp
  simp only [stepOp] at h
  split at h
  · rename_i k1 e1 sz' off len cap hb
    rw [hb] at r1
    obtain ⟨rfl, h⟩ := h
    obtain ⟨ad, cc, hv, hd, hc, hle, hbig, hbd, had⟩ := vr_ms r1
    have clos : ∀ (l hh m : Nat) (cap' : Option Nat), ((lo.map a.eval = none ∧ l = 0) ∨ ∃ k, lo.map a.eval = some (.int k (l : Int))) →
        ((hi.map a.eval = none ∧ hh = len) ∨ ∃ k, hi.map a.eval = some (.int k (hh : Int))) → ((mx.map a.eval = none ∧ m = cc) ∨ (hi.map a.eval ≠ none ∧ ∃ k, mx.map a.eval = some (.int k (m : Int)))) → l ≤ hh → hh ≤ m → m ≤ cc → hh ≤ 281474976710656 →
        (∀ q, cap' = some q → m - l = q) → K (.ms k1 e1 i.size (off + l) (hh - l) cap') none none none → Out P o a w G ob d e K := by
      intro l hh m cap' h1 h2 h3 h4 h5 h6 hbg hq hk
      refine out_quiet hR (run ad len cc l hh m hv h1 h2 h3 h4 h5 h6) (.ms k1 e1 _ _ _ _ _ _ hd hq (by omega) (by omega) (by omega) fun hp => ?_) hk
      rw [if_neg (by omega), had (by omega), Option.map_some, addr_add, Nat.add_mul]
    have capl : ∀ q, capLe cap len q → q ≤ cc := fun q hq => by
      rcases hq with hq | ⟨r, hr, hq⟩
      · omega
      · have := hc r hr; omega
    simp only [sliceP] at h
    split at h
    · obtain ⟨hh, h, h2⟩ := bnd_spec hT hhi h
      obtain ⟨l, h, h1⟩ := bnd_spec hT hlo h
      obtain ⟨h4, h5, h6, h⟩ := h
      exact clos l hh cc _ h1 h2 (.inl ⟨maxO rfl, rfl⟩) h4 (capl _ h5) (Nat.le_refl _) h6 (fun q hq => by
        simp only [Option.map_eq_some_iff] at hq; obtain ⟨r, hr, rfl⟩ := hq; rw [hc r hr]) h
    · rename_i m1
      obtain ⟨m, h, h3⟩ := bnd_spec hT hmx h
      obtain ⟨hh, h, h2⟩ := bnd_spec hT hhi h
      obtain ⟨l, h, h1⟩ := bnd_spec hT hlo h
      obtain ⟨h4, h5, h6, h7, h⟩ := h
      have h3' : ∃ k, mx.map a.eval = some (.int k (m : Int)) := by
        rcases h3 with ⟨h3, _⟩ | h3
        · cases mx with
          | none => cases hmx
          | some _ => simp at h3
        · exact h3
      exact clos l hh m _ h1 h2 (.inr ⟨hine (by simp), h3'⟩) h4 h5 (capl _ h6) h7 (fun q hq => by cases hq; rfl) h
  · rename_i nl cap xs hb
    rw [hb] at r1
    obtain ⟨hhd, h⟩ := h
    obtain ⟨ad, cc, sz, b, off, vs, hv, hle, hbig, hc, hnl, hsz, had, hF, hRr⟩ := vr_sl r1
    have clos : ∀ (l hh m : Nat) (cap' : Option Nat), ((lo.map a.eval = none ∧ l = 0) ∨ ∃ k, lo.map a.eval = some (.int k (l : Int))) →
        ((hi.map a.eval = none ∧ hh = xs.length) ∨ ∃ k, hi.map a.eval = some (.int k (hh : Int))) → ((mx.map a.eval = none ∧ m = cc) ∨ (hi.map a.eval ≠ none ∧ ∃ k, mx.map a.eval = some (.int k (m : Int)))) → l ≤ hh → hh ≤ m → m ≤ cc → hh ≤ xs.length →
        (∀ q, cap' = some q → m - l = q) → K (.fv (.sl nl cap' ((xs.take hh).drop l))) none none none → Out P o a w G ob d e K := by
      intro l hh m cap' h1 h2 h3 h4 h5 h6 hbg hq hk
      refine out_quiet hR (run ad xs.length cc l hh m hv h1 h2 h3 h4 h5 h6) (.fv _ _ ?_) hk
      have hlen : ((xs.take hh).drop l).length = hh - l := by simp only [List.length_drop, List.length_take]; omega
      have hget : ∀ j, j < hh - l → ((xs.take hh).drop l).getD j [] = xs.getD (l + j) [] := fun j hj => by
        simp only [List.getD_eq_getElem?_getD, List.getElem?_drop, List.getElem?_take]
        rw [if_pos (by omega)]
      have hf := FRel.sl (F := G.F) nl cap' ((xs.take hh).drop l) (if m = l then ad else ad.map (·.add (l * i.size))) (m - l) sz b (off + l * sz) (fun p q => vs (l + p) q)
        (by rw [hlen]; omega) (by rw [hlen]; omega) (fun q h => hq q h) (fun q h => by rw [slice_tail]; exact hnl q h)
        (fun j hj => by rw [hlen] at hj; rw [hget j hj]; exact hsz _ (by omega))
        (fun hp => by
          rw [hlen] at hp
          rw [if_neg (by omega), had (by omega), Option.map_some, addr_add, hdLen_sz hhd hsz (by omega)])
        (fun p q hp hq => by
          rw [hlen] at hp
          have := hF (l + p) q (by omega) hq
          rw [Nat.add_mul] at this
          rw [show off + l * sz + (p * sz + q) = off + (l * sz + p * sz + q) by omega]; exact this)
        (fun p q hp hq => by rw [hlen] at hp; rw [hget p hp]; exact hRr _ _ (by omega) hq)
      rw [hlen] at hf
      exact hf
    simp only [sliceP] at h
    split at h
    · obtain ⟨hh, h, h2⟩ := bnd_spec hT hhi h
      obtain ⟨l, h, h1⟩ := bnd_spec hT hlo h
      obtain ⟨h4, h5, h⟩ := h
      exact clos l hh cc _ h1 h2 (.inl ⟨maxO rfl, rfl⟩) h4 (by omega) (Nat.le_refl _) h5 (fun q hq => by
        simp only [Option.map_eq_some_iff] at hq; obtain ⟨r, hr, rfl⟩ := hq; rw [hc r hr]) h
    · rename_i m1
      obtain ⟨m, h, h3⟩ := bnd_spec hT hmx h
      obtain ⟨hh, h, h2⟩ := bnd_spec hT hhi h
      obtain ⟨l, h, h1⟩ := bnd_spec hT hlo h
      obtain ⟨h4, h5, h5', h6, h⟩ := h
      have h3' : ∃ k, mx.map a.eval = some (.int k (m : Int)) := by
        rcases h3 with ⟨h3, _⟩ | h3
        · cases mx with
          | none => cases hmx
          | some _ => simp at h3
        · exact h3
      have hmc : m ≤ cc := by
        rcases h6 with hq | ⟨r, hr, hq⟩
        · omega
        · have := hc r hr; omega
      exact clos l hh m _ h1 h2 (.inr ⟨hine (by simp), h3'⟩) h4 h5 hmc h5' (fun q hq => by cases hq; rfl) h
  · exact h.elim

theorem op_sliceStr {t : TypeId} {x : Operand} {lo hi : Option Operand} {x' : Opd} {lo' hi' : Option Opd} (ho : o.op = .slice t x lo hi none) (ht : P.underlying t = some .string)
    (hx : trOpd x = some x') (hlo : trO lo = some lo') (hhi : trO hi = some hi') (hT : TRel G tm a) (hR : Rel G w ob)
    (h : stepOp (.sliceStr x' lo' hi') tm (oget ob) d e c K) : Out P o a w G ob d e K := by
  have r1 := trOpd_rel hT hx
  simp only [stepOp, sliceStrP] at h
  split at h
  · rename_i s hb
    rw [hb] at r1
    have hv := vr_str r1
    obtain ⟨hh, h, h2⟩ := bnd_spec hT hhi h
    obtain ⟨l, h, h1⟩ := bnd_spec hT hlo h
    obtain ⟨h4, h5, h⟩ := h
    refine out_quiet hR ?_ (mk_str G (s.extract l hh)) h
    simp only [execOp, ho, Instr.sliceAt, Sem.run_bind, run_underlying ht, Result.andThen_ok, Instr.slice, hv, Option.map_none, Option.isSome_none, Bool.false_eq_true, if_false,
      run_bounds h1 h2 (.inl ⟨rfl, rfl⟩) h4 h5 (Nat.le_refl _), Sem.run_pure]
  · exact h.elim
end
end Go.Proofs.RL
