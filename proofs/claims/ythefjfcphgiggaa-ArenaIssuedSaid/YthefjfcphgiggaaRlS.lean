/- Regions that draw their order: whatever order, from one. Conditions: none. -/
import Derived.Test.YthefjfcphgiggaaRlR
set_option linter.unusedVariables false
set_option linter.unusedSimpArgs false
namespace Go.Proofs.RL

theorem peq_refl (v : AV) (og : OG) : peq v og og := by cases v <;> simp [peq]
theorem getD_tf {listed : Array Bool} {i : Nat} (h : listed.getD i false = true) : listed.getD i true = true ∧ i < listed.size := by
  have : i < listed.size := by
    rcases Nat.lt_or_ge i listed.size with h' | h'
    · exact h'
    · simp [Array.getElem?_eq_none h'] at h
  refine ⟨?_, this⟩
  simp [this] at h ⊢
  exact h
theorem getD_ft {listed : Array Bool} {i : Nat} (h : listed.getD i true = true) (hi : i < listed.size) : listed.getD i false = true := by
  simp [hi] at h ⊢
  exact h
theorem put_get (a : Act) (d : Option Tmp) (u : Value) (t : Nat) : (a.put d u).tmps[t]? = if d = some t then (if t < a.tmps.size then some u else none) else a.tmps[t]? := by
  cases d with
  | none => simp [Act.put]
  | some s =>
    simp only [Act.put, Array.getElem?_setIfInBounds, Option.some.injEq]
    by_cases h : s = t <;> simp [h]
theorem put_size (a : Act) (d : Option Tmp) (u : Value) : (a.put d u).tmps.size = a.tmps.size := by cases d <;> simp [Act.put]
theorem put_defers (a : Act) (d : Option Tmp) (u : Value) : (a.put d u).defers = a.defers := by cases d <;> simp [Act.put]
theorem tget_putD {d : Option Nat} {v : AV} {tm : Tm} {t : Nat} (h : d ≠ some t) : tget (putD d v tm) t = tget tm t := by
  cases d with
  | none => rfl
  | some s => simp only [putD, tget_tput]; rw [if_neg (fun e => h (by rw [e]))]
theorem tget_skipD {d : Option Nat} {tm : Tm} {t : Nat} (h : d ≠ some t) : tget (skipD d tm) t = tget tm t := by
  cases d with
  | none => rfl
  | some s => simp only [skipD, tget_tdel]; rw [if_neg (fun e => h (by rw [e]))]
theorem st_over {nt lim : Nat} {G : Gh} {a : Act} {w : World} {tm : Tm} {ob : Ob} (h : St nt lim G a w tm ob) {d : Option Nat} {u : Value} (hu : ∀ t, d = some t → VRel G (tget tm t) u) : St nt lim G (a.put d u) w tm ob := by
  refine ⟨by rw [put_size]; exact h.size, fun t => ?_, h.rel, by rw [put_defers]; exact h.dok⟩
  have h1 := h.tm t
  rw [gd] at h1 ⊢
  rw [put_get]
  split
  · rename_i hd
    split
    · exact hu t hd
    · rename_i hlt
      rw [Array.getElem?_eq_none (by omega)] at h1
      exact h1
  · exact h1

def gsame (g : Option (Nat × Bool)) (tm tm' : Tm) : Prop := ∀ t b, g = some (t, b) → tget tm' t = tget tm t
theorem guard_aug {g : Option (Nat × Bool)} {tm : Tm} {X S : Prop} (h : guardP g tm X S) :
    guardP g tm (X ∧ ∀ tm' (X' S' : Prop), gsame g tm tm' → X' → guardP g tm' X' S') (S ∧ ∀ tm' (X' S' : Prop), gsame g tm tm' → S' → guardP g tm' X' S') := by
  cases g with
  | none => exact ⟨h, fun _ _ _ _ h => h⟩
  | some tb =>
    obtain ⟨t, b⟩ := tb
    simp only [guardP] at h ⊢
    split at h
    · rename_i b' hb
      refine ⟨fun hbb => ⟨h.1 hbb, fun tm' X' S' hs hx => ?_⟩, fun hbb => ⟨h.2 hbb, fun tm' X' S' hs hx => ?_⟩⟩ <;>
      · rw [hs t b rfl, hb]
        simp [hbb, hx]
    · exact h

section
variable {P : Program} {Y : YT} {nt kb lim : Nat} {l : Option Nat} {m : Nat} {ops : Array Oper} {its : List AI} {bs : List (List Nat)} {K : Tm → Ob → Prop}

theorem DI.unl {fuel : Nat} {listed : Array Bool} {A : List Nat} {a ast : Act} {w : World} {tm : Tm} {ob : Ob} {G : Gh} (h : DI P Y nt lim ops its bs fuel listed A a ast w tm ob G) {i : Nat} (hlt : i < ops.size) (hi : i ∉ A) : listed.getD i true = false := by
  cases hl : listed.getD i true with
  | false => rfl
  | true => exact absurd (h.sub i hlt hl) hi

/-- An operation is met ahead. -/
theorem DI.add {fuel : Nat} {listed : Array Bool} {A : List Nat} {a ast : Act} {w : World} {tm : Tm} {ob : Ob} {G : Gh} (htr : ∀ i o, ops[i]? = some o → trOper P nt ops o = some (itAt its i)) (hchk : drawOK ops its bs = true)
    (h : DI P Y nt lim ops its bs fuel listed A a ast w tm ob G) {i : Nat} {oi : Oper} (hoi : ops[i]? = some oi) (hi : i ∉ A) (hdir : ∀ e ∈ oi.after, binds e = true → e.on ∈ A) (hf : fstI ops its bs i = true)
    {u : Value} {tm' : Tm} (hst : St nt lim G (ast.put oi.dst u) w tm' ob) (htm : ∀ t, oi.dst ≠ some t → tget tm' t = tget tm t) (hrep : Rep (itAt its i) tm' ob) :
    DI P Y nt lim ops its bs fuel listed (i :: A) a (ast.put oi.dst u) w tm' ob G := by
  have hlt : i < ops.size := (Array.getElem?_eq_some_iff.1 hoi).1
  have hun := h.unl hlt hi
  refine ⟨fun j hj hl => List.mem_cons_of_mem _ (h.sub j hj hl), h.cloL, fun j oj hj hm e he hb => ?_, h.size, h.cnt, hst, ⟨by rw [put_size]; exact h.va.size, by rw [put_defers]; exact h.va.defers, fun t ht => ?_⟩, fun j oj hj hm hl => ?_, h.Y⟩
  · rcases List.mem_cons.1 hm with rfl | hm
    · rw [hoi] at hj; cases hj; exact List.mem_cons_of_mem _ (hdir e he hb)
    · exact List.mem_cons_of_mem _ (h.cloA j oj hj hm e he hb)
  · rw [put_get, if_neg (ht i oi ⟨by simp, hun⟩ hoi)]
    exact h.va.tmps t fun j oj hp ho => ht j oj ⟨List.mem_cons_of_mem _ hp.1, hp.2⟩ ho
  · rcases List.mem_cons.1 hm with rfl | hm
    · exact ⟨hf, hrep⟩
    · obtain ⟨h1, h2⟩ := h.rep j oj hj hm hl
      have hne : j ≠ i := fun e => hi (e ▸ hm)
      obtain ⟨oi', hoi', _, _, h3⟩ := fst_spec hf
      rw [hoi] at hoi'; cases hoi'
      have h4 := (h3 j oj hj hne).resolve_left fun hb => hi (bef_clo hchk (S := (· ∈ A)) h.cloA j oj hj (h.cloA j oj hj hm) i hb)
      obtain ⟨oj', hoj', hs, _⟩ := fst_spec h1
      refine ⟨h1, h2.keep hs (fun t ht => htm t fun hd => (h4 t hd).2.2 ht) (fun d g tk o hit t hd => htm t fun hd' => ?_) (fun p _ => peq_refl _ _)⟩
      have h5 := htr j oj hj
      rw [hit] at h5
      have := (trDst_spec (trOper_op h5).2.2.1).1
      exact (h4 t hd').2.1 (by rw [this, hd])

theorem close (htr : ∀ i o, ops[i]? = some o → trOper P nt ops o = some (itAt its i)) (hchk : drawOK ops its bs = true) (hnt : ∀ o ∈ ops.toList, ∀ t b, trGuard ops o.guard = some (some (t, b)) → t < nt)
    {fuel : Nat} {listed : Array Bool} {a : Act} {w : World} {ob : Ob} {G : Gh} : ∀ (f : Nat) (A : List Nat) (ast : Act) (tm : Tm), DI P Y nt lim ops its bs fuel listed A a ast w tm ob G → awpDT P Y kb K (mkDT ops its bs f A) tm ob →
    ∃ f' A' ast' tm', DI P Y nt lim ops its bs fuel listed A' a ast' w tm' ob G ∧ (rdy ops A').find? (fstI ops its bs) = none ∧ awpDT P Y kb K (mkDT ops its bs (f' + 1) A') tm' ob
  | 0, A, ast, tm, h, hw => by simp [mkDT, awpDT] at hw
  | f + 1, A, ast, tm, h, hw => by
    cases hfi : (rdy ops A).find? (fstI ops its bs) with
    | none => exact ⟨f, A, ast, tm, h, hfi, hw⟩
    | some i =>
      have hir := List.mem_of_find?_eq_some hfi
      have hf : fstI ops its bs i = true := List.find?_some hfi
      obtain ⟨hiA, oi, hoi, hdir⟩ := mem_rdy.1 hir
      obtain ⟨oi', hoi', hs, hown, _⟩ := fst_spec hf
      rw [hoi] at hoi'; cases hoi'
      have hit := htr i oi hoi
      simp only [mkDT, hfi] at hw
      generalize hI : itAt its i = it at *
      cases it with
      | call => simp [stillIt] at hs
      | gh => simp [stillIt] at hs
      | op d g tk ao =>
        obtain ⟨hao, rfl, htd, htg⟩ := trOper_op hit
        simp only [stillIt] at hs
        replace hao := hao hs
        simp only [awpDT] at hw
        obtain ⟨hdd, hdlt⟩ := trDst_spec htd
        have hmem : oi ∈ ops.toList := by
          obtain ⟨hlt, he⟩ := Array.getElem?_eq_some_iff.1 hoi
          rw [← he]; simp
        have hrd : ∀ t ∈ (AI.op d g false ao).reads, ∀ d', d = some d' → t ≠ d' := fun t ht d' hd he => (hown d' (by rw [hdd]; exact hd)).2 (he ▸ ht)
        rcases guard_spec h.st.tm htg (fun t b hgb => by rw [h.st.size]; exact hnt oi hmem t b (by rw [htg, hgb])) (guard_aug hw) with ⟨hwant, ⟨v, hv, hw'⟩, hgd⟩ | ⟨hwant, hw', hgd⟩
        · obtain ⟨N, hN⟩ := fresh h.st.rel
          obtain ⟨x, upd, new, del, nx, u, w', G', hrun, hnx, ⟨rfl, rfl, rfl, rfl⟩, hvr, hR', hF', _, hq⟩ := step_sound (tk := false) (d := 0) hao hN h.st.tm h.st.rel (fun q => still_congr (d' := 0) (e' := N) hs (fun _ _ => rfl) (fun _ _ => peq_refl _ _) hv)
          obtain ⟨rfl, rfl⟩ := hq rfl rfl rfl
          refine close htr hchk hnt f (i :: A) (ast.put oi.dst u) (putD d x tm) (h.add htr hchk hoi hiA hdir hf ?_ ?_ ?_) hw'
          · rw [hdd]; exact st_put h.st (.refl ..) h.st.rel hdlt hvr
          · intro t ht; exact tget_putD (by rw [← hdd]; exact ht)
          · rw [hI]
            have hr : ∀ t ∈ (AI.op d g false ao).reads, tget (putD d x tm) t = tget tm t := fun t ht => tget_putD fun hd => hrd t ht t hd rfl
            exact hgd _ _ _ (fun t b hg => hr t (by simp [AI.reads, hg])) ⟨x, still_congr hs (ev_same fun t ht => hr t (by simp [AI.reads, ht])) (fun _ _ => peq_refl _ _) hv, fun t hd => by subst hd; simp [putD, tget_tput]⟩
        · refine close htr hchk hnt f (i :: A) (ast.put oi.dst undef) (skipD d tm) (h.add htr hchk hoi hiA hdir hf ?_ ?_ ?_) hw'
          · rw [hdd]; exact st_skip h.st hdlt
          · intro t ht; exact tget_skipD (by rw [← hdd]; exact ht)
          · rw [hI]
            have hr : ∀ t ∈ (AI.op d g false ao).reads, tget (skipD d tm) t = tget tm t := fun t ht => tget_skipD fun hd => hrd t ht t hd rfl
            exact hgd _ _ _ (fun t b hg => hr t (by simp [AI.reads, hg])) (fun t hd => by subst hd; simp [skipD, tget_tdel])

/-- An operation is met. -/
theorem DI.step {fuel : Nat} {listed : Array Bool} {A A' : List Nat} {a ast : Act} {w w' : World} {tm tm' : Tm} {ob ob' : Ob} {G G' : Gh} (h : DI P Y nt lim ops its bs (fuel + 1) listed A a ast w tm ob G) {i : Nat} {oi : Oper} (hoi : ops[i]? = some oi)
    (hl : listed.getD i true = false) (hdir : ∀ e ∈ oi.after, binds e = true → listed.getD e.on false = true) (hA : ∀ j, j ∈ A' ↔ j = i ∨ j ∈ A) {u : Value} (hst : St nt lim G' (ast.put oi.dst u) w' tm' ob') (hY : YOK P Y G')
    (hrep : ∀ j oj, ops[j]? = some oj → j ∈ A → j ≠ i → listed.getD j true = false → Rep (itAt its j) tm' ob') :
    DI P Y nt lim ops its bs fuel (listed.setIfInBounds i true) A' (a.put oi.dst u) (ast.put oi.dst u) w' tm' ob' G' := by
  have hlt : i < ops.size := (Array.getElem?_eq_some_iff.1 hoi).1
  have hii : (listed.setIfInBounds i true).getD i true = true := by simp
  have hset : ∀ j, j ≠ i → (listed.setIfInBounds i true).getD j true = listed.getD j true := fun j hj => getD_set_ne true (Ne.symm hj)
  refine ⟨fun j hj hl' => ?_, fun j oj hj hl' e he hb => ?_, fun j oj hj hm e he hb => ?_, by simp [h.size], ?_, hst, ⟨by rw [put_size, put_size]; exact h.va.size, by rw [put_defers, put_defers]; exact h.va.defers, fun t ht => ?_⟩, fun j oj hj hm hl' => ?_, hY⟩
  · by_cases hji : j = i
    · exact (hA j).2 (.inl hji)
    · rw [hset j hji] at hl'; exact (hA j).2 (.inr (h.sub j hj hl'))
  · by_cases hji : j = i
    · subst hji; rw [hoi] at hj; cases hj; exact getD_set_true (hdir e he hb)
    · rw [hset j hji] at hl'; exact getD_set_true (h.cloL j oj hj hl' e he hb)
  · rcases (hA j).1 hm with rfl | hm
    · rw [hoi] at hj; cases hj
      obtain ⟨h1, h2⟩ := getD_tf (hdir e he hb)
      exact (hA _).2 (.inr (h.sub _ (by rw [← h.size]; exact h2) h1))
    · exact (hA _).2 (.inr (h.cloA j oj hj hm e he hb))
  · have := countP_drop (p := fun i => !listed.getD i true) (q := fun j => !(listed.setIfInBounds i true).getD j true) (i := i) (by simp only [hl, Bool.not_false]) (by simp only [hii, Bool.not_true]) (fun j hj => by simp only [hset j hj]) (List.range ops.size) List.nodup_range (List.mem_range.2 hlt)
    have h2 := h.cnt
    omega
  · rw [put_get, put_get, h.va.size]
    split
    · rfl
    · rename_i hd
      refine h.va.tmps t fun j oj hp ho => ?_
      by_cases hji : j = i
      · subst hji; rw [hoi] at ho; cases ho; exact hd
      · exact ht j oj ⟨(hA j).2 (.inr hp.1), by rw [hset j hji]; exact hp.2⟩ ho
  · by_cases hji : j = i
    · subst hji; rw [hii] at hl'; cases hl'
    · rw [hset j hji] at hl'
      have hm' := ((hA j).1 hm).resolve_left hji
      exact ⟨(h.rep j oj hj hm' hl').1, hrep j oj hj hm' hji hl'⟩

theorem awp_alts {tm : Tm} {ob : Ob} {A : List Nat} {f : Nat} : ∀ (r : List Nat), awpDT P Y kb K (r.foldr (fun i t => .main (ldsOf ops its bs i A) (itAt its i) (mkDT ops its bs f (i :: A)) t) .stop) tm ob → ∀ i ∈ r,
    awpDT P Y kb K (.main (ldsOf ops its bs i A) (itAt its i) (mkDT ops its bs f (i :: A)) .stop) tm ob
  | [], _, i, hi => by cases hi
  | j :: r, h, i, hi => by
    simp only [List.foldr_cons, awpDT] at h ⊢
    rcases List.mem_cons.1 hi with rfl | hi
    · exact ⟨h.1, trivial⟩
    · simpa [awpDT] using awp_alts r h.2 i hi

end
end Go.Proofs.RL
