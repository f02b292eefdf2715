/- What is told otherwise stays true. Conditions: none. -/
import Derived.Test.YthefjfcphgiggaaRlN
set_option linter.unusedVariables false
set_option linter.unusedSimpArgs false
namespace Go.Proofs.RL

theorem TRel.mono {G G' : Gh} {tm : Tm} {a : Act} (h : TRel G tm a) (hG : GLe G G') : TRel G' tm a := fun t => (h t).mono hG
theorem TRel.del {G : Gh} {tm : Tm} {a : Act} (h : TRel G tm a) (t : Nat) : TRel G (tdel tm t) a := fun j => by
  rw [tget_tdel]; split
  · exact .junk _
  · exact h j
theorem TRel.dels {G : Gh} {a : Act} : ∀ (ts : List Nat) {tm : Tm}, TRel G tm a → TRel G (tdels tm ts) a
  | [], _, h => h
  | t :: r, _, h => TRel.dels r (h.del t)
theorem TRel.keep {G : Gh} {tm : Tm} {a : Act} (h : TRel G tm a) (l : List Nat) : TRel G (tkeep tm l) a := fun j => by
  rw [tget_tkeep]; split
  · exact h j
  · exact .junk _
theorem TRel.put {G : Gh} {tm : Tm} {a : Act} (h : TRel G tm a) {t : Nat} {x : AV} {v : Value} (ht : t < a.tmps.size) (hx : VRel G x v) : TRel G (tput tm t x) (a.put (some t) v) := fun j => by
  rw [tget_tput]
  simp only [Act.put]
  by_cases hj : t = j
  · subst hj; simp only [if_true]
    have : (a.tmps.setIfInBounds t v).getD t undef = v := by simp [Array.getD, ht]
    rw [this]; exact hx
  · simp only [hj, if_false]
    have : (a.tmps.setIfInBounds t v).getD j undef = a.tmps.getD j undef := by
      simp only [Array.getD_eq_getD_getElem?, Array.getElem?_setIfInBounds_ne hj]
    rw [this]; exact h j

theorem oget_okeep (ob : Ob) (l : List Nat) (j : Nat) : oget (okeep ob l) j = if l.contains j then oget ob j else none := by
  induction ob with
  | nil => simp [okeep, oget]
  | cons x r ih =>
    obtain ⟨k, e, o⟩ := x
    simp only [okeep]
    split
    · rename_i h
      simp only [oget, ih]
      split
      · rename_i h2; subst h2; rw [if_pos h]
      · rfl
    · rename_i h
      rw [ih]
      simp only [oget]
      split
      · rename_i h1; rw [if_neg (fun h3 => h (by rw [h3]; exact h1))]
      · rfl
theorem rel_sub {G : Gh} {w : World} {ob ob' : Ob} (h : Rel G w ob) (hsub : ∀ k e o, oget ob' k = some (e, o) → oget ob k = some (e, o)) : Rel G w ob' ∧ Fr G w ob G w ob' :=
  ⟨⟨h.fok, fun k' e o hk => h.obj k' e o (hsub _ _ _ hk), fun k1 k2 e o e' o' h1 h2 => h.inj k1 k2 e o e' o' (hsub _ _ _ h1) (hsub _ _ _ h2), h.fin⟩,
    ⟨.refl G, rfl, rfl, rfl, Nat.le_refl _, fun _ _ _ => rfl, fun b ⟨k', e, o, hk, ho, hb⟩ _ => ⟨k', e, o, hsub _ _ _ hk, ho, hb⟩, fun _ _ _ _ => rfl, fun _ => rfl⟩⟩
theorem odels_sub : ∀ (ks : List Nat) (ob : Ob) k e o, oget (odels ob ks) k = some (e, o) → oget ob k = some (e, o)
  | [], ob, k, e, o, h => h
  | j :: r, ob, k, e, o, h => by
    have := odels_sub r _ k e o h
    rw [oget_odel] at this
    split at this
    · cases this
    · exact this
theorem oget_map (f : Nat → AObj → AObj) (ob : Ob) (k : Nat) : oget (ob.map fun p => (p.1, p.2.1, f p.2.1 p.2.2)) k = (oget ob k).map fun p => (p.1, f p.1 p.2) := by
  induction ob with
  | nil => rfl
  | cons x r ih =>
    obtain ⟨k', e, o⟩ := x
    simp only [List.map_cons, oget]
    split
    · rfl
    · exact ih
theorem tget_map (f : AV → AV) (hf : f .junk = .junk) (tm : Tm) (t : Nat) : tget (tm.map fun p => (p.1, f p.2)) t = f (tget tm t) := by
  induction tm with
  | nil => exact hf.symm
  | cons x r ih =>
    obtain ⟨j, u⟩ := x
    simp only [List.map_cons, tget]
    split
    · rfl
    · exact ih

theorem frzCells_spec {xs : List (List AV)} {ys : List (List FV)} (h : frzCells xs = some ys) :
    ys.length = xs.length ∧ ∀ i, i < xs.length → (ys.getD i []).length = (xs.getD i []).length ∧ ∀ j, j < (xs.getD i []).length → (xs.getD i []).getD j .junk = .fv ((ys.getD i []).getD j .nilp) := by
  have one : ∀ (l : List AV) (m : List FV), l.mapM FV.ofAV = some m → m.length = l.length ∧ ∀ j, j < l.length → l.getD j .junk = .fv (m.getD j .nilp) := by
    intro l
    induction l with
    | nil => intro m h; simp at h; subst h; simp
    | cons x l ih =>
      intro m h
      simp only [List.mapM_cons, Option.bind_eq_bind, Option.pure_def, Option.bind_eq_some_iff] at h
      obtain ⟨y, hy, r, hr, h⟩ := h
      cases h
      obtain ⟨h1, h2⟩ := ih r hr
      have hx : x = .fv y := by cases x <;> simp [FV.ofAV] at hy; rw [hy]
      refine ⟨by simp [h1], fun j hj => ?_⟩
      cases j with
      | zero => simpa using hx
      | succ j => simpa using h2 j (by simpa using hj)
  unfold frzCells at h
  induction xs generalizing ys with
  | nil => simp at h; subst h; simp
  | cons x xs ih =>
    simp only [List.mapM_cons, Option.bind_eq_bind, Option.pure_def, Option.bind_eq_some_iff] at h
    obtain ⟨y, hy, r, hr, h⟩ := h
    cases h
    obtain ⟨h1, h2⟩ := ih hr
    refine ⟨by simp [h1], fun i hi => ?_⟩
    cases i with
    | zero => simpa using one x y hy
    | succ i => simpa using h2 i (by simpa using hi)

/-- The ghost in which a row has been frozen. -/
theorem frz_sound {G : Gh} {w : World} {ob : Ob} {k e sz : Nat} {xs : List (List AV)} {ys : List (List FV)} (hR : Rel G w ob) (hk : oget ob k = some (e, .row sz xs)) (hf : frzCells xs = some ys) :
    ∃ G', GLe G G' ∧ (∀ x v, VRel G x v → VRel G' (frz2 k e sz ys x) v) ∧ (∀ x v, VRel G x v → VRel G' (frz0 k e sz ys x) v) ∧ Rel G' w (frzOb k e sz ys (odel ob k)) ∧ Fr G w ob G' w (frzOb k e sz ys (odel ob k)) := by
  obtain ⟨hd, hok⟩ := hR.obj k _ _ hk
  obtain ⟨hyl, hyc⟩ := frzCells_spec hf
  obtain ⟨hcap, hrow, hrest⟩ := hok
  let b := (G.ρ e).1
  let F' : FMap := fun b' o => if b' = b ∧ o < xs.length * sz then w.cell? ⟨b', o, none⟩ else G.F b' o
  let G' : Gh := { F := F', ρ := G.ρ, dom := G.dom }
  have hnone : 0 < xs.length → ∀ o, G.F b o = none := fun h0 => by obtain ⟨_, _, _, _, _, h4⟩ := hrest (by omega); exact h4
  have hF : FLe G.F F' := fun b' o v h => by
    simp only [F']
    split
    · rename_i hc
      have h0 : 0 < xs.length := by
        rcases Nat.eq_zero_or_pos xs.length with h0 | h0
        · rw [h0] at hc; omega
        · exact h0
      rw [hc.1, hnone h0] at h; cases h
    · exact h
  have hG : GLe G G' := ⟨hF, fun _ h => h, fun _ _ => rfl⟩
  have v0 : ∀ x v, VRel G x v → VRel G' (frz0 k e sz ys x) v := by
    intro x v hx
    cases hx with
    | ms k' e' sz' off len cap a c hd' hc hle hbig hb ha =>
      simp only [frz0]
      split
      · split
        · rename_i hcond
          obtain ⟨hee, rfl, hfit⟩ := hcond
          subst hee
          rw [hyl] at hfit
          have hlen : ((ys.drop off).take len).length = len := by simp only [List.length_take, List.length_drop]; omega
          have hget : ∀ i, i < len → ((ys.drop off).take len).getD i [] = ys.getD (off + i) [] := fun i hi => take_drop_getD _ _ _ _ _ hi
          have hfr := FRel.sl (F := F') none cap ((ys.drop off).take len) a c sz' b (off * sz') (fun i j => (w.cell? ⟨b, (off + i) * sz' + j, none⟩).getD undef) (by rw [hlen]; exact hle) (by rw [hlen]; exact hbig) hc (by simp)
            (fun i hi => by rw [hlen] at hi; rw [hget i hi, (hyc _ (by omega)).1]; exact hrow _ (by omega)) (fun hp => by rw [hlen] at hp; exact ha (by omega))
            (fun i j hi hj => by
              rw [hlen] at hi
              obtain ⟨v, h1, _⟩ := row_cell (G := G) (w := w) (e := e') ⟨hcap, hrow, hrest⟩ (off + i) j (by omega) hj
              have hlt : (off + i) * sz' + j < xs.length * sz' := flat_index (by omega) hj
              have e1 : off * sz' + (i * sz' + j) = (off + i) * sz' + j := by rw [Nat.add_mul]; omega
              simp only [F']
              rw [e1, if_pos ⟨trivial, hlt⟩, h1]; rfl)
            (fun i j hi hj => by
              rw [hlen] at hi
              obtain ⟨v, h1, h2⟩ := row_cell (G := G) (w := w) (e := e') ⟨hcap, hrow, hrest⟩ (off + i) j (by omega) hj
              have h3 := (hyc (off + i) (by omega)).2 j (by rw [hrow _ (by omega)]; exact hj)
              rw [h3] at h2
              rw [hget i hi, h1]
              exact (vr_fv h2).mono hF)
          rw [hlen] at hfr
          exact .fv _ _ hfr
        · exact .junk _
      · exact .ms k' e' sz' off len cap a c hd' hc hle hbig hb ha
    | eptr k' e' sz' i f hd' =>
      simp only [frz0]
      split
      · exact .junk _
      · exact (VRel.eptr k' e' sz' i f hd').mono hG
    | fv x v h => exact (VRel.fv x v h).mono hG
    | ptr k' e' o hd' => exact (VRel.ptr k' e' o hd').mono hG
    | fptr cells b1 o vs hF1 hR1 => exact (VRel.fptr cells b1 o vs hF1 hR1).mono hG
    | clo f first caps vf vc h1 h2 h3 h4 => exact (VRel.clo f first caps vf vc h1 h2 h3 h4).mono hG
    | mp k' e' hd' => exact (VRel.mp k' e' hd').mono hG
    | yld k' e' hd' => exact (VRel.yld k' e' hd').mono hG
    | agg cs vs hl h => exact (VRel.agg cs vs hl h).mono hG
    | tup cs vs hl h => exact (VRel.tup cs vs hl h).mono hG
    | junk v => exact .junk v
  have lift : ∀ (f : AV → AV) (cs : List AV) (vs : Array Value), (∀ x v, VRel G x v → VRel G' (f x) v) → (∀ i, i < cs.length → VRel G (cs.getD i .junk) (vs.getD i undef)) → ∀ i, i < (cs.map f).length → VRel G' ((cs.map f).getD i .junk) (vs.getD i undef) := by
    intro f cs vs hf h i hi
    have hi' : i < cs.length := by simpa using hi
    have h1 := hf _ _ (h i hi')
    simp only [List.getD_eq_getElem?_getD, List.getElem?_map, List.getElem?_eq_getElem hi', Option.map_some, Option.getD_some] at h1 ⊢
    exact h1
  have v1 : ∀ x v, VRel G x v → VRel G' (frz1 k e sz ys x) v := by
    intro x v hx
    cases x with
    | agg cs => obtain ⟨vs, rfl, hl, h⟩ := vr_agg hx; exact .agg _ _ (by simpa using hl) (lift _ cs vs v0 h)
    | _ => exact v0 _ _ hx
  have v2 : ∀ x v, VRel G x v → VRel G' (frz2 k e sz ys x) v := by
    intro x v hx
    cases x with
    | tup cs => obtain ⟨vs, rfl, hl, h⟩ := vr_tup hx; exact .tup _ _ (by simpa using hl) (lift _ cs vs v1 h)
    | agg cs => exact v1 _ _ hx
    | _ => exact v0 _ _ hx
  have hget : ∀ k' e' o', oget (frzOb k e sz ys (odel ob k)) k' = some (e', o') → k' ≠ k ∧ ∃ o, oget ob k' = some (e', o) ∧ o' = frzO k e sz ys o := by
    intro k' e' o' h
    have := oget_map (fun _ o => frzO k e sz ys o) (odel ob k) k'
    rw [show frzOb k e sz ys (odel ob k) = (odel ob k).map fun p => (p.1, p.2.1, frzO k e sz ys p.2.2) from rfl, this, oget_odel] at h
    split at h
    · cases h
    · rename_i hne
      simp only [Option.map_eq_some_iff] at h
      obtain ⟨⟨e1, o1⟩, h1, h2⟩ := h
      cases h2
      exact ⟨fun h => hne h.symm, o1, h1, rfl⟩
  have howns : ∀ e' o, owns G' e' (frzO k e sz ys o) ↔ owns G e' o := fun e' o => by cases o <;> exact Iff.rfl
  have hFother : ∀ k' e' o, k' ≠ k → oget ob k' = some (e', o) → owns G e' o → ∀ j, F' (G.ρ e').1 j = G.F (G.ρ e').1 j := by
    intro k' e' o hne hk' ho j
    simp only [F']
    split
    · rename_i hc
      have h0 : 0 < xs.length := by
        rcases Nat.eq_zero_or_pos xs.length with h0 | h0
        · rw [h0] at hc; omega
        · exact h0
      exact absurd hc.1 (hR.inj k' k e' o e _ hk' hk hne ho (by simp only [owns]; omega))
    · rfl
  refine ⟨G', hG, v2, v0, ⟨?_, ?_, ?_, hR.fin⟩, ?_⟩
  · intro b' o v h
    simp only [G', F'] at h
    split at h
    · exact h
    · exact hR.fok b' o v h
  · intro k' e' o' h
    obtain ⟨hne, o, h1, rfl⟩ := hget k' e' o' h
    obtain ⟨hd', hok'⟩ := hR.obj k' e' o h1
    refine ⟨hd', ?_⟩
    have hFo := hFother k' e' o hne h1
    cases o with
    | var cells =>
      obtain ⟨vs, t, g1, g2, g3, g4⟩ := hok'
      exact ⟨vs, t, g1, by simpa using g2, lift _ cells vs v0 g3, fun j => (hFo trivial j).trans (g4 j)⟩
    | row sz2 rs =>
      obtain ⟨g1, g2, g3⟩ := hok'
      have hgr : ∀ i, i < rs.length → (rs.map (·.map (frz0 k e sz ys))).getD i [] = (rs.getD i []).map (frz0 k e sz ys) := fun i hi => by
        simp only [List.getD_eq_getElem?_getD, List.getElem?_map, List.getElem?_eq_getElem hi, Option.map_some, Option.getD_some]
      refine ⟨by simpa using g1, fun i hi => ?_, fun hp => ?_⟩
      · have hi' : i < rs.length := by simpa using hi
        rw [hgr i hi', List.length_map]; exact g2 i hi'
      · obtain ⟨vs, t, g4, g5, g6, g7⟩ := g3 hp
        refine ⟨vs, t, g4, g5, fun i j hi hj => ?_, fun j => (hFo hp j).trans (g7 j)⟩
        have hi' : i < rs.length := by simpa using hi
        rw [hgr i hi']
        have hj' : j < (rs.getD i []).length := by rw [g2 i hi']; exact hj
        have h1 := v0 _ _ (g6 i j hi' hj)
        generalize rs.getD i [] = r at h1 hj' ⊢
        simp only [List.getD_eq_getElem?_getD, List.getElem?_map, List.getElem?_eq_getElem hj', Option.map_some, Option.getD_some] at h1 ⊢
        exact h1
    | mp es =>
      obtain ⟨ents, cl, g1, g2, g3, g4⟩ := hok'
      refine ⟨ents, cl, g1, by simpa using g2, fun i hi => ?_, fun j => (hFo trivial j).trans (g4 j)⟩
      have hi' : i < es.length := by simpa using hi
      obtain ⟨h1, h2⟩ := g3 i hi'
      have h3 := v0 _ _ h2
      simp only [List.getD_eq_getElem?_getD, List.getElem?_map, List.getElem?_eq_getElem hi', Option.map_some, Option.getD_some] at h1 h3 ⊢
      exact ⟨h1, h3⟩
    | lp r => exact ⟨hok'.1, fun j => (hFo trivial j).trans (hok'.2 j)⟩
  · intro k1 k2 e1 o1 e2 o2 h1 h2 hne w1 w2
    obtain ⟨_, p1, q1, rfl⟩ := hget k1 e1 o1 h1
    obtain ⟨_, p2, q2, rfl⟩ := hget k2 e2 o2 h2
    exact hR.inj k1 k2 e1 p1 e2 p2 q1 q2 hne ((howns _ _).1 w1) ((howns _ _).1 w2)
  · refine ⟨hG, rfl, rfl, rfl, Nat.le_refl _, fun _ _ _ => rfl, fun b' hb _ => ?_, fun b' o _ hn => ?_, fun _ => rfl⟩
    · obtain ⟨k', e', o', h1, h2, rfl⟩ := hb
      obtain ⟨_, o, h3, rfl⟩ := hget k' e' o' h1
      exact ⟨k', e', o, h3, (howns _ _).1 h2, rfl⟩
    · simp only [G', F']
      split
      · rename_i hc
        have h0 : 0 < xs.length := by
          rcases Nat.eq_zero_or_pos xs.length with h0 | h0
          · rw [h0] at hc; omega
          · exact h0
        exact absurd ⟨k, e, _, hk, (by simp only [owns]; omega : owns G e (.row sz xs)), hc.1.symm⟩ hn
      · rfl

theorem gd_map {α β : Type} (f : α → β) (l : List α) (j : Nat) (d : α) (d' : β) (h : j < l.length) : (l.map f).getD j d' = f (l.getD j d) := by
  simp [List.getD_eq_getElem?_getD, List.getElem?_eq_getElem h]
theorem objOK_wk {G : Gh} {w : World} {e : Nat} {o : AObj} (h : ObjOK G w e o) : ObjOK G w e o.wk := by
  cases o with
  | var cells =>
    obtain ⟨vs, t, h1, h2, h3, h4⟩ := h
    refine ⟨vs, t, h1, by simpa using h2, fun j hj => ?_, h4⟩
    simp only [List.length_map] at hj
    rw [gd_map AV.wk0 cells j .junk .junk hj]
    exact vrel_wk0 (h3 j hj)
  | row sz xs =>
    obtain ⟨h1, h2, h3⟩ := h
    have hg : ∀ i, i < xs.length → (xs.map (·.map AV.wk0)).getD i [] = (xs.getD i []).map AV.wk0 := fun i hi => gd_map _ xs i [] [] hi
    refine ⟨by simpa using h1, fun i hi => ?_, fun hp => ?_⟩
    · simp only [List.length_map] at hi
      rw [hg i hi, List.length_map]
      exact h2 i hi
    · obtain ⟨vs, t, k1, k2, k3, k4⟩ := h3 hp
      refine ⟨vs, t, k1, k2, fun i j hi hj => ?_, k4⟩
      simp only [List.length_map] at hi
      rw [hg i hi, gd_map AV.wk0 (xs.getD i []) j .junk .junk (by rw [h2 i hi]; exact hj)]
      exact vrel_wk0 (k3 i j hi hj)
  | mp es =>
    obtain ⟨ents, clock, h1, h2, h3, h4⟩ := h
    refine ⟨ents, clock, h1, by simpa using h2, fun i hi => ?_, h4⟩
    simp only [List.length_map] at hi
    rw [gd_map (fun p : Int × AV => (p.1, p.2.wk0)) es i (0, .junk) (0, .junk) hi]
    obtain ⟨k1, k2⟩ := h3 i hi
    exact ⟨k1, vrel_wk0 k2⟩
  | lp r => exact h
theorem owns_wk {G : Gh} {e : Nat} {o : AObj} : owns G e o.wk ↔ owns G e o := by cases o <;> exact Iff.rfl
theorem rel_wk {G : Gh} {w : World} {ob : Ob} (hR : Rel G w ob) (l : List Nat) : Rel G w (owk ob l) ∧ Fr G w ob G w (owk ob l) := by
  have hget : ∀ k e o, oget (owk ob l) k = some (e, o) → ∃ o', oget ob k = some (e, o') ∧ (o = o' ∨ o = o'.wk) := fun k e o hk => by
    rw [oget_owk] at hk
    cases ho : oget ob k with
    | none => rw [ho] at hk; cases hk
    | some p =>
      rw [ho] at hk
      simp only [Option.map_some, Option.some.injEq, Prod.mk.injEq] at hk
      obtain ⟨rfl, hk⟩ := hk
      refine ⟨p.2, rfl, ?_⟩
      split at hk
      · exact .inr hk.symm
      · exact .inl hk.symm
  have how : ∀ e o o', (o = o' ∨ o = o'.wk) → (owns G e o ↔ owns G e o') := fun e o o' h => by
    rcases h with rfl | rfl
    · exact Iff.rfl
    · exact owns_wk
  refine ⟨⟨hR.fok, fun k e o hk => ?_, fun k k' e o e' o' hk hk' hne ho ho' => ?_, hR.fin⟩, ⟨.refl G, rfl, rfl, rfl, Nat.le_refl _, fun _ _ _ => rfl, fun b hb _ => ?_, fun _ _ _ _ => rfl, fun _ => rfl⟩⟩
  · obtain ⟨o', h1, h2⟩ := hget k e o hk
    obtain ⟨h3, h4⟩ := hR.obj k e o' h1
    refine ⟨h3, ?_⟩
    rcases h2 with rfl | rfl
    · exact h4
    · exact objOK_wk h4
  · obtain ⟨o1, h1, h2⟩ := hget k e o hk
    obtain ⟨o1', h1', h2'⟩ := hget k' e' o' hk'
    exact hR.inj k k' e o1 e' o1' h1 h1' hne ((how e o o1 h2).1 ho) ((how e' o' o1' h2').1 ho')
  · obtain ⟨k, e, o, hk, ho, rfl⟩ := hb
    obtain ⟨o1, h1, h2⟩ := hget k e o hk
    exact ⟨k, e, o1, h1, (how e o o1 h2).1 ho, rfl⟩

theorem ghost_sound {G : Gh} {w : World} {tm : Tm} {ob : Ob} {a : Act} {g : Gst} {K : Tm → Ob → Prop} (hT : TRel G tm a) (hR : Rel G w ob) (h : ghostP g tm ob K) :
    ∃ G' tm' ob', K tm' ob' ∧ TRel G' tm' a ∧ Rel G' w ob' ∧ Fr G w ob G' w ob' := by
  cases g with
  | kill ts => exact ⟨G, _, ob, h, hT.dels ts, hR, .refl ..⟩
  | keep ts => exact ⟨G, _, ob, h, hT.keep ts, hR, .refl ..⟩
  | drop ks => obtain ⟨h1, h2⟩ := rel_sub hR (odels_sub ks ob); exact ⟨G, tm, _, h, hT, h1, h2⟩
  | keepO ks =>
    obtain ⟨h1, h2⟩ := rel_sub (ob' := okeep ob ks) hR (fun k e o hk => by
      rw [oget_okeep] at hk
      split at hk
      · exact hk
      · cases hk)
    exact ⟨G, tm, _, h, hT, h1, h2⟩
  | frz k =>
    simp only [ghostP] at h
    split at h
    · rename_i e sz xs hk
      obtain ⟨ys, hf, h⟩ := h
      obtain ⟨G', hG, v2, _, h1, h2⟩ := frz_sound hR hk hf
      refine ⟨G', _, _, h, fun t => ?_, h1, h2⟩
      rw [show frzTm k e sz ys tm = tm.map fun p => (p.1, frz2 k e sz ys p.2) from rfl, tget_map _ rfl]
      exact v2 _ _ (hT t)
    · exact h.elim
  | own t k sz =>
    simp only [ghostP] at h
    split at h
    · rename_i nl ht
      obtain ⟨N, hN⟩ := hR.fin
      have he : ¬ G.dom N := fun h => Nat.lt_irrefl _ (hN N h)
      obtain ⟨h1, h2, _⟩ := rel_dummy (d := k) hR he sz
      refine ⟨_, _, _, h N, fun j => ?_, h1, h2⟩
      rw [tget_tput]
      split
      · rename_i hj
        subst hj
        have h3 := hT t
        rw [ht] at h3
        obtain ⟨ad, cc, _, _, _, _, hv, hle, _, hc, _⟩ := vr_sl h3
        have := hc 0 rfl
        subst this
        rw [hv]
        exact .ms k N sz 0 0 none ad 0 (Gh.add_dom ..) (by simp) (Nat.le_refl _) (by omega) (by rw [Gh.add_ρ]; simp) (fun hp => absurd hp (by omega))
      · exact (hT j).mono h2.le
    · exact h.elim
  | bnd t =>
    simp only [ghostP, bndG] at h
    have h1 := hT t
    refine ⟨G, tm, ob, ?_, hT, hR, .refl ..⟩
    split at h
    · rename_i nl cap xs hb
      rw [hb] at h1
      obtain ⟨ad, cc, sz, b1, off, vs, hv, hle, hbig, hc, _⟩ := vr_sl h1
      exact h hbig (fun c hcc => by rw [← hc c hcc]; exact hle)
    · rename_i k1 e1 sz off len cap hb
      rw [hb] at h1
      obtain ⟨ad, cc, hv, _, hc, hle, hbig, _⟩ := vr_ms h1
      exact h hbig (fun c hcc => by rw [← hc c hcc]; exact hle)
    · exact h
  | wk ts ks =>
    obtain ⟨h1, h2⟩ := rel_wk hR ks
    refine ⟨G, _, _, h, fun t => ?_, h1, h2⟩
    rw [tget_twk]
    split
    · exact vrel_wk (hT t)
    · exact hT t

end Go.Proofs.RL
