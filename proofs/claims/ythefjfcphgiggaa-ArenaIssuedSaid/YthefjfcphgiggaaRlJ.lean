/- Each operation of the model does what its abstract twin says: append. Conditions: none. -/
import Derived.Test.YthefjfcphgiggaaRlI
set_option linter.unusedVariables false
set_option linter.unusedSimpArgs false
namespace Go.Proofs.RL

theorem flat_index {i j sz n : Nat} (hi : i < n) (hj : j < sz) : i * sz + j < n * sz := by
  calc i * sz + j < i * sz + sz := by omega
    _ = (i + 1) * sz := by rw [Nat.add_mul]; omega
    _ ≤ n * sz := Nat.mul_le_mul_right _ hi

theorem getD_mem {α : Type} (l : List α) (j : Nat) (u : α) (h : j < l.length) : l.getD j u ∈ l := by
  rw [List.getD_eq_getElem?_getD, List.getElem?_eq_getElem h]; exact List.getElem_mem h

section
variable {P : Program} {o : Oper} {a : Act} {w : World} {G : Gh} {ob : Ob} {tm : Tm} {d e : Nat} {c : Option Nat} {K : Kont}

/-- The cells of a part of a row of the call's own. -/
theorem row_cells {k e' sz' off len cc : Nat} {cap : Option Nat} {ad : Option Addr} {xs : List (List AV)} (hsz0 : 0 < sz') (hok : ObjOK G w e' (.row sz' xs)) (hfit : off + len ≤ xs.length)
    (hle : len ≤ cc) (hbd : off + cc ≤ (G.ρ e').2) (had : 0 < cc → ad = some ⟨(G.ρ e').1, off * sz', none⟩) :
    ∃ (news : List Value), news.length = ((xs.drop off).take len).length * sz' ∧ ((xs.drop off).take len).length = len ∧ (∀ j u, news[j]? = some u → ∀ ad', ad = some ad' → w.cell? (ad'.add j) = some u) ∧ (ad = none → (xs.drop off).take len = []) ∧
      ((∀ i, i < len → ((xs.getD (off + i) []).all AV.solid) = true) → ∀ u ∈ news, u.oneCell' = true) ∧
      (∀ i, i < ((xs.drop off).take len).length → (((xs.drop off).take len).getD i []).length = sz') ∧
      (∀ i j, i < ((xs.drop off).take len).length → j < sz' → VRel G ((((xs.drop off).take len).getD i []).getD j .junk) (news.getD (i * sz' + j) undef)) := by
  have hylen : ((xs.drop off).take len).length = len := by simp only [List.length_take, List.length_drop]; omega
  have hyget : ∀ i, i < len → ((xs.drop off).take len).getD i [] = xs.getD (off + i) [] := fun i hi => take_drop_getD _ _ _ _ _ hi
  rcases Nat.eq_zero_or_pos len with h0 | h0
  · subst h0
    refine ⟨[], by rw [hylen]; simp, hylen, by simp, fun _ => by simp, by simp, fun i hi => by rw [hylen] at hi; omega, fun i j hi => by rw [hylen] at hi; omega⟩
  · have hcc : 0 < cc := by omega
    obtain ⟨hcap, hrow, hrest⟩ := hok
    obtain ⟨vs, u, h1, h2, h3, h4⟩ := hrest (by omega)
    let news := (List.range (len * sz')).map fun q => vs.getD (off * sz' + q) undef
    have hin : ∀ q, q < len * sz' → off * sz' + q < vs.size := fun q hq => by
      rw [h2]
      calc off * sz' + q < off * sz' + len * sz' := by omega
        _ = (off + len) * sz' := by rw [Nat.add_mul]
        _ ≤ (G.ρ e').2 * sz' := Nat.mul_le_mul_right _ (by omega)
    have hrel : ∀ i j, i < len → j < sz' → VRel G ((xs.getD (off + i) []).getD j .junk) (vs.getD (off * sz' + (i * sz' + j)) undef) := fun i j hi hj => by
      have := h3 (off + i) j (by omega) hj
      rwa [Nat.add_mul, Nat.add_assoc] at this
    refine ⟨news, by rw [hylen]; simp [news], hylen, ?_, ?_, ?_, ?_, ?_⟩
    · intro j u' hu ad' had'
      have hj : j < len * sz' := by
        have := (List.getElem?_eq_some_iff.1 hu).1; simpa [news] using this
      rw [had hcc] at had'
      cases had'
      rw [addr_add, cell_of_row w _ _ vs u _ h1, getD_arr vs _ (hin j hj)]
      simp only [news, List.getElem?_map, List.getElem?_range hj, Option.map_some] at hu
      exact hu
    · intro hn; rw [had hcc] at hn; cases hn
    · intro hsol u' hu
      simp only [news, List.mem_map, List.mem_range] at hu
      obtain ⟨q, hq, rfl⟩ := hu
      have hdiv : q / sz' < len := Nat.div_lt_of_lt_mul (by rw [Nat.mul_comm]; exact hq)
      have hmod : q % sz' < sz' := Nat.mod_lt _ hsz0
      have h5 := hrel (q / sz') (q % sz') hdiv hmod
      rw [Nat.mul_comm (q / sz'), Nat.div_add_mod] at h5
      refine solid_one h5 ?_
      have h6 := hsol (q / sz') hdiv
      have h7 := hrow (off + q / sz') (by omega)
      simp only [List.all_eq_true] at h6
      refine h6 _ ?_
      exact getD_mem _ _ _ (by omega)
    · intro i hi
      rw [hylen] at hi
      rw [hyget i hi]; exact hrow _ (by omega)
    · intro i j hi hj
      rw [hylen] at hi
      rw [hyget i hi]
      have : news.getD (i * sz' + j) undef = vs.getD (off * sz' + (i * sz' + j)) undef := by
        have hlt := flat_index hi hj
        simp only [news, List.getD_eq_getElem?_getD, List.getElem?_map, List.getElem?_range hlt, Option.map_some, Option.getD_some]
      rw [this]; exact hrel i j hi hj

/-- What a source of cells comes to. -/
theorem src_spec {sz : Nat} (hsz0 : 0 < sz) {x : AV} {v : Value} (hv : VRel G x v) (hR : Rel G w ob) {K : List (List AV) → Prop} (h : srcP sz x (oget ob) K) :
    ∃ (ys : List (List AV)) (ax : Option Addr) (cx : Nat) (news : List Value), K ys ∧ v = .slice ax ys.length cx ∧ ys.length ≤ 281474976710656 ∧ news.length = ys.length * sz ∧
      (∀ j u, news[j]? = some u → ∀ ad, ax = some ad → w.cell? (ad.add j) = some u) ∧ (ax = none → ys = []) ∧ (∀ u ∈ news, u.oneCell' = true) ∧
      (∀ i, i < ys.length → (ys.getD i []).length = sz) ∧ (∀ i j, i < ys.length → j < sz → VRel G ((ys.getD i []).getD j .junk) (news.getD (i * sz + j) undef)) := by
  unfold srcP at h
  split at h
  · rename_i nl cap ys
    obtain ⟨hhd, h⟩ := h
    obtain ⟨ad, cc, sz1, b, off, vs, rfl, hle, hbig, hc, hnl, hsz, had, hF, hRr⟩ := vr_sl hv
    let news := (List.range (ys.length * sz)).map fun q => vs (q / sz) (q % sz)
    have hszz : 0 < ys.length → sz1 = sz := fun h0 => hdLen_sz hhd hsz h0
    have hget : ∀ i j, i < ys.length → j < sz → news.getD (i * sz + j) undef = vs i j := by
      intro i j hi hj
      have hlt := flat_index hi hj
      have hdiv : (i * sz + j) / sz = i := by rw [Nat.add_comm, Nat.add_mul_div_right _ _ hsz0, Nat.div_eq_of_lt hj]; omega
      have hmod : (i * sz + j) % sz = j := by rw [Nat.add_comm, Nat.add_mul_mod_self_right, Nat.mod_eq_of_lt hj]
      simp [news, List.getD_eq_getElem?_getD, hlt, hdiv, hmod]
    refine ⟨ys.map (·.map .fv), ad, cc, news, h, by simp, by simpa using hbig, by simp [news], ?_, ?_, ?_, ?_, ?_⟩
    · intro j u hu ad' had'
      have hj : j < ys.length * sz := by
        have := (List.getElem?_eq_some_iff.1 hu).1; simpa [news] using this
      have h0 : 0 < ys.length := by
        rcases Nat.eq_zero_or_pos ys.length with h0 | h0
        · rw [h0] at hj; simp at hj
        · exact h0
      have hdiv : j / sz < ys.length := Nat.div_lt_of_lt_mul (by rw [Nat.mul_comm]; exact hj)
      have hmod : j % sz < sz := Nat.mod_lt _ hsz0
      rw [had h0] at had'
      cases had'
      have hFj := hF (j / sz) (j % sz) hdiv (by rw [hszz h0]; exact hmod)
      rw [hszz h0, Nat.mul_comm, Nat.div_add_mod] at hFj
      rw [addr_add, hR.fok _ _ _ hFj]
      simp [news, hj] at hu
      rw [hu]
    · intro hn
      rcases Nat.eq_zero_or_pos ys.length with h0 | h0
      · have := List.eq_nil_of_length_eq_zero h0; simp [this]
      · rw [had h0] at hn; cases hn
    · intro u hu
      simp only [news, List.mem_map, List.mem_range] at hu
      obtain ⟨q, hq, rfl⟩ := hu
      have h0 : 0 < ys.length := by
        rcases Nat.eq_zero_or_pos ys.length with h0 | h0
        · rw [h0] at hq; simp at hq
        · exact h0
      exact frel_one (hRr _ _ (Nat.div_lt_of_lt_mul (by rw [Nat.mul_comm]; exact hq)) (by rw [hszz h0]; exact Nat.mod_lt _ hsz0))
    · intro i hi
      have hi' : i < ys.length := by simpa using hi
      have := hsz i hi'
      rw [hszz (by omega)] at this
      simp only [List.getD_eq_getElem?_getD, List.getElem?_map, List.getElem?_eq_getElem hi', Option.map_some, Option.getD_some, List.length_map] at this ⊢
      exact this
    · intro i j hi hj
      have hi' : i < ys.length := by simpa using hi
      rw [hget i j hi' hj]
      have h1 := hRr i j hi' (by rw [hszz (by omega)]; exact hj)
      have h2 := hsz i hi'
      rw [hszz (by omega)] at h2
      simp only [List.getD_eq_getElem?_getD, List.getElem?_map, List.getElem?_eq_getElem hi', Option.map_some, Option.getD_some] at h1 h2 ⊢
      have hj' : j < ys[i].length := by omega
      simp only [List.getElem?_eq_getElem hj', Option.map_some, Option.getD_some] at h1 ⊢
      exact .fv _ _ h1
  · rename_i k e1 sz' off len cap
    split at h
    · rename_i e' sz2 xs hk
      obtain ⟨rfl, rfl, rfl, hfit, hsol, h⟩ := h
      obtain ⟨hd, hok⟩ := hR.obj k _ _ hk
      obtain ⟨ad, cc, rfl, _, hc, hle, hbig, hbd, had⟩ := vr_ms hv
      obtain ⟨news, n1, n2, n3, n4, n5, n6, n7⟩ := row_cells (k := k) (cap := cap) hsz0 hok hfit hle hbd had
      exact ⟨_, ad, cc, news, h, by rw [n2], by rw [n2]; exact hbig, n1, n3, n4, n5 hsol, n6, n7⟩
    · exact h.elim
  · exact h.elim

/-- An object moves to a new key and epoch, its block written. -/
theorem rel_move {w' : World} {k e0 : Nat} {x y : AObj} (hR : Rel G w ob) (hk : oget ob k = some (e0, x)) (ho : owns G e0 x) (he : ¬ G.dom e) (cap : Nat)
    (hheap : ∀ b, b ≠ (G.ρ e0).1 → w'.heap[b]? = w.heap[b]?) (hsz : w'.heap.size = w.heap.size) (hos : w'.os = w.os) (htape : w'.tape = w.tape) (hout : w'.output = w.output)
    (hy : ObjOK (G.add e (G.ρ e0).1 cap) w' e y) (hfz : ∀ a, w'.frozen? a = w.frozen? a) :
    Rel (G.add e (G.ρ e0).1 cap) w' (oset (odel ob k) d e y) ∧ Fr G w ob (G.add e (G.ρ e0).1 cap) w' (oset (odel ob k) d e y) ∧ (∀ e', (G.add e (G.ρ e0).1 cap).dom e' → G.dom e' ∨ e' = e) := by
  have hG := G.le_add he (G.ρ e0).1 cap
  obtain ⟨hd0, hok⟩ := hR.obj k e0 x hk
  have hlt := objOK_lt hok ho
  have hFn : ∀ j, G.F (G.ρ e0).1 j = none := objOK_F hok ho
  have hsub : ∀ k' e1 o1, oget (odel ob k) k' = some (e1, o1) → k' ≠ k ∧ oget ob k' = some (e1, o1) := fun k' e1 o1 h => by
    rw [oget_odel] at h
    split at h
    · cases h
    · rename_i hne; exact ⟨fun h => hne h.symm, h⟩
  refine ⟨?_, ?_, fun e' h' => h'⟩
  · refine rel_step hR hG rfl (by omega) (fun b => b = (G.ρ e0).1) (fun b q v hF hb => by subst hb; rw [hFn] at hF; cases hF) (fun b _ hb => hheap b hb) (fun k' e1 o1 hk' => ?_) ?_
    · rw [oget_oset] at hk'
      split at hk'
      · rename_i hkd
        cases hk'
        refine .inr ⟨Gh.add_dom .., hy, fun _ k2 e2 o2 hk2 hne ho2 => ?_⟩
        rw [oget_oset, if_neg (by rw [hkd]; exact fun h => hne h.symm)] at hk2
        obtain ⟨hne2, hk2⟩ := hsub _ _ _ hk2
        obtain ⟨hd2, _⟩ := hR.obj k2 e2 o2 hk2
        rw [Gh.add_ρ, hG.ρ e2 hd2]
        exact hR.inj k2 k e2 o2 e0 x hk2 hk hne2 ((owns_le hG hd2).1 ho2) ho
      · obtain ⟨hne2, hk2⟩ := hsub _ _ _ hk'
        exact .inl ⟨hk2, fun ho' => hR.inj k' k e1 o1 e0 x hk2 hk hne2 ho' ho⟩
    · obtain ⟨N, hN⟩ := hR.fin
      refine ⟨max N (e + 1), fun e' h' => ?_⟩
      rcases h' with h' | h'
      · have := hN e' h'; omega
      · omega
  · refine ⟨hG, hos, htape, hout, by omega, fun b _ hb => hheap b (fun hbe => hb ⟨k, e0, x, hk, ho, hbe.symm⟩), fun b hb _ => ?_, fun _ _ _ _ => rfl, hfz⟩
    obtain ⟨k', e1, o1, hk', ho', rfl⟩ := hb
    rw [oget_oset] at hk'
    split at hk'
    · cases hk'; rw [Gh.add_ρ]; exact ⟨k, e0, x, hk, ho, rfl⟩
    · obtain ⟨_, hk2⟩ := hsub _ _ _ hk'
      obtain ⟨hd2, _⟩ := hR.obj k' e1 o1 hk2
      exact ⟨k', e1, o1, hk2, (owns_le hG hd2).1 ho', by rw [hG.ρ e1 hd2]⟩
end
end Go.Proofs.RL
