/- Each operation of the model does what its abstract twin says: append, literals. Conditions: none. -/
import Derived.Test.YthefjfcphgiggaaRlJ
set_option linter.unusedVariables false
set_option linter.unusedSimpArgs false
namespace Go.Proofs.RL

section
variable {P : Program} {o : Oper} {a : Act} {w : World} {G : Gh} {ob : Ob} {tm : Tm} {d e : Nat} {c : Option Nat} {K : Kont}

theorem F_new {ob : Ob} (hR : Rel G w ob) (j : Nat) : G.F w.heap.size j = none := by
  cases hF : G.F w.heap.size j with
  | none => rfl
  | some v => have := hR.F_lt hF; omega

/-- The new block of an append that grows. -/
theorem grown_row {ob : Ob} (hR : Rel G w ob) (he : ¬ G.dom e) {sz need cp : Nat} (hsz0 : 0 < sz) {zs : List (List AV)} (hzl : zs.length = need) (hzs : ∀ i, i < zs.length → (zs.getD i []).length = sz) {cells : List Value} {rest : Array Value} {t : TypeId}
    (hcl : cells.length = need * sz) (hrest : rest.size = (cp - need) * sz) (hcp : need ≤ cp) (hrel : ∀ i j, i < zs.length → j < sz → VRel G ((zs.getD i []).getD j .junk) (cells.getD (i * sz + j) undef)) :
    Rel (G.add e w.heap.size cp) (w.drew.alloc (.cells (cells.toArray ++ rest) t)) (oset ob d e (.row sz zs)) ∧ Fr G w ob (G.add e w.heap.size cp) (w.drew.alloc (.cells (cells.toArray ++ rest) t)) (oset ob d e (.row sz zs)) ∧
      (∀ e', (G.add e w.heap.size cp).dom e' → G.dom e' ∨ e' = e) := by
  refine rel_new hR he d cp (.row sz zs) (cells.toArray ++ rest) t rfl rfl rfl rfl ⟨by rw [Gh.add_ρ, hzl]; exact hcp, hzs, fun hp => ?_⟩
  rw [Gh.add_ρ] at hp ⊢
  refine ⟨_, t, heap_alloc_new w.drew _, ?_, fun i j hi hj => ?_, fun j => (show G.F w.heap.size j = none from F_new hR j)⟩
  · simp only [Array.size_append, List.size_toArray, hcl, hrest, ← Nat.add_mul]
    congr 1; omega
  · have hlt : i * sz + j < cells.length := by rw [hcl, ← hzl]; exact flat_index hi hj
    have : (cells.toArray ++ rest).getD (i * sz + j) undef = cells.getD (i * sz + j) undef := by
      have h2 : i * sz + j < (cells.toArray ++ rest).size := by simp; omega
      simp only [Array.getD, h2, dite_true, List.getD_eq_getElem?_getD, List.getElem?_eq_getElem hlt, Option.getD_some]
      exact Array.getElem_append_left (by simpa using hlt)
    rw [this]
    exact (hrel i j hi hj).mono (G.le_add he ..)

theorem getD_append_left {α : Type} (l l' : List α) (j : Nat) (u : α) (h : j < l.length) : (l ++ l').getD j u = l.getD j u := by
  simp only [List.getD_eq_getElem?_getD, List.getElem?_append_left h]
theorem getD_append_right {α : Type} (l l' : List α) (j : Nat) (u : α) (h : l.length ≤ j) : (l ++ l').getD j u = l'.getD (j - l.length) u := by
  simp only [List.getD_eq_getElem?_getD, List.getElem?_append_right h]

/-- Two runs of cells behind each other. -/
theorem join_rel {sz : Nat} {xs ys : List (List AV)} {cx cy : List Value} (hx : ∀ i, i < xs.length → (xs.getD i []).length = sz) (hy : ∀ i, i < ys.length → (ys.getD i []).length = sz) (hcx : cx.length = xs.length * sz)
    (rx : ∀ i j, i < xs.length → j < sz → VRel G ((xs.getD i []).getD j .junk) (cx.getD (i * sz + j) undef)) (ry : ∀ i j, i < ys.length → j < sz → VRel G ((ys.getD i []).getD j .junk) (cy.getD (i * sz + j) undef)) :
    (∀ i, i < (xs ++ ys).length → ((xs ++ ys).getD i []).length = sz) ∧ ∀ i j, i < (xs ++ ys).length → j < sz → VRel G (((xs ++ ys).getD i []).getD j .junk) ((cx ++ cy).getD (i * sz + j) undef) := by
  refine ⟨fun i hi => ?_, fun i j hi hj => ?_⟩
  · rw [List.length_append] at hi
    by_cases h : i < xs.length
    · rw [getD_append_left _ _ _ _ h]; exact hx i h
    · rw [getD_append_right _ _ _ _ (by omega)]; exact hy _ (by omega)
  · rw [List.length_append] at hi
    by_cases h : i < xs.length
    · rw [getD_append_left _ _ _ _ h, getD_append_left _ _ _ _ (by rw [hcx]; exact flat_index h hj)]; exact rx i j h hj
    · have e1 : cx.length ≤ i * sz + j := by
        rw [hcx]
        have := Nat.mul_le_mul_right sz (show xs.length ≤ i by omega)
        omega
      rw [getD_append_right _ _ _ _ (by omega), getD_append_right _ _ _ _ e1]
      have e2 : i * sz + j - cx.length = (i - xs.length) * sz + j := by
        rw [hcx, Nat.sub_mul]
        have := Nat.mul_le_mul_right sz (show xs.length ≤ i by omega)
        omega
      rw [e2]; exact ry _ j (by omega) hj

theorem srcP_all {sz : Nat} {x : AV} {og : OG} {K : Nat → List (List AV) → Prop} (h : ∀ q, srcP sz x og (K q)) : srcP sz x og (fun ys => ∀ q, K q ys) := by
  have h0 := h 0
  cases x with
  | fv y =>
    cases y with
    | sl nl cap ys => exact ⟨h0.1, fun q => (h q).2⟩
    | _ => exact h0
  | ms k e sz' off len cap =>
    simp only [srcP] at h h0 ⊢
    cases hk : og k with
    | none => rw [hk] at h0; exact h0
    | some p =>
      obtain ⟨e', ob1⟩ := p
      rw [hk] at h0
      simp only [hk] at h
      cases ob1 with
      | row sz2 xs => exact ⟨h0.1, h0.2.1, h0.2.2.1, h0.2.2.2.1, h0.2.2.2.2.1, fun q => (h q).2.2.2.2.2⟩
      | var _ => exact h0
      | mp _ => exact h0
      | lp _ => exact h0
  | _ => exact h0

/-- An object that owns nothing. -/
theorem rel_dummy {ob : Ob} (hR : Rel G w ob) (he : ¬ G.dom e) (sz : Nat) :
    Rel (G.add e 0 0) w (oset ob d e (.row sz [])) ∧ Fr G w ob (G.add e 0 0) w (oset ob d e (.row sz [])) ∧ (∀ e', (G.add e 0 0).dom e' → G.dom e' ∨ e' = e) := by
  have hG := G.le_add he 0 0
  have hno : ¬ owns (G.add e 0 0) e (.row sz []) := by simp [owns, Gh.add_ρ]
  refine ⟨?_, ?_, fun e' h' => h'⟩
  · refine rel_step hR hG rfl (Nat.le_refl _) (fun _ => False) (fun _ _ _ _ h => h) (fun _ _ _ => rfl) (fun k e1 o1 hk => ?_) ?_
    · rw [oget_oset] at hk
      split at hk
      · cases hk
        exact .inr ⟨Gh.add_dom .., ⟨by simp, by simp, fun hp => absurd hp (by simp [Gh.add_ρ])⟩, fun ho => absurd ho hno⟩
      · exact .inl ⟨hk, fun _ h => h⟩
    · obtain ⟨N, hN⟩ := hR.fin
      refine ⟨max N (e + 1), fun e' h' => ?_⟩
      rcases h' with h' | h'
      · have := hN e' h'; omega
      · omega
  · refine ⟨hG, rfl, rfl, rfl, Nat.le_refl _, fun _ _ _ => rfl, fun b hb _ => ?_, fun _ _ _ _ => rfl, fun _ => rfl⟩
    obtain ⟨k, e1, o1, hk, ho, rfl⟩ := hb
    rw [oget_oset] at hk
    split at hk
    · cases hk; exact absurd ho hno
    · obtain ⟨hd, _⟩ := hR.obj k e1 o1 hk
      exact ⟨k, e1, o1, hk, (owns_le hG hd).1 ho, by rw [hG.ρ e1 hd]⟩

theorem run_first {size : Nat} {ys : Nat} {ax : Option Addr} {cx : Nat} {news : List Value} (hl : news.length = ys * size) (h : ∀ j u, news[j]? = some u → ∀ ad, ax = some ad → w.cell? (ad.add j) = some u) (hn : ax = none → news = []) :
    (Builtin.firstCells size ys (.slice ax ys cx)).run P w = .ok news.toArray w := by
  cases ax with
  | none => rw [hn rfl]; exact run_firstCells_none w size ys ys cx
  | some ad => exact run_firstCells_some w size ys ad ys cx news hl (fun j v hj => h j v hj ad rfl)

theorem run_grow {t t' ty el el' : TypeId} {i : TypeInfo} {zv : Value} (ht : P.underlying t = some (.slice el)) (ht' : P.underlying t' = some (.slice el')) (hi : P.info? el = some i) (hz : i.zero = some zv)
    {base : Option Addr} {sLen sCap m : Nat} {ax : Option Addr} {cx : Nat} {olds news : List Value} (hfo : (Builtin.firstCells i.size sLen (.slice base sLen sCap)).run P w.drew = .ok olds.toArray w.drew)
    (hf : (Builtin.firstCells i.size m (.slice ax m cx)).run P w.drew = .ok news.toArray w.drew) (hg : sCap < sLen + m) (hbig : sLen + m ≤ 9223372036854775807) (hb : (sLen + m) * i.bytes ≤ 140737488355328) :
    (Builtin.append_ #[t, t'] ty #[.slice base sLen sCap, .slice ax m cx]).run P w =
      .ok (.slice (some ⟨w.heap.size, 0, none⟩) (sLen + m) (grownCap w (sLen + m) sCap el))
        (w.drew.alloc (.cells (olds.toArray ++ news.toArray ++ Builtin.zeroCells zv.cells (grownCap w (sLen + m) sCap el - (sLen + m))) el)) := by
  have hn : ¬ (sLen + m ≤ sCap) := by omega
  have h63' : ¬ (9223372036854775807 < ((sLen : Int) + (m : Int))) := by omega
  have h48 := growslice_fits hg hb
  have h48' : ¬ (281474976710656 < Builtin.nextslicecap (sLen + m) sCap * i.bytes) := by omega
  simp [Builtin.append_, run_underlying ht, run_underlying ht', sizeOf, typeInfo, zeroValue, hi, hz, Builtin.lenOf, hn, h63', h48', Question.forced, hf, hfo, newRow, grownCap]
  congr 2
  apply Array.ext'
  simp [List.append_assoc]

theorem run_room {t t' ty el el' : TypeId} {i : TypeInfo} (ht : P.underlying t = some (.slice el)) (ht' : P.underlying t' = some (.slice el')) (hi : P.info? el = some i)
    {base : Option Addr} {sLen sCap m : Nat} {ax : Option Addr} {cx : Nat} {news : List Value} {w' : World}
    (hf : (Builtin.firstCells i.size m (.slice ax m cx)).run P w = .ok news.toArray w) (hg : sLen + m ≤ sCap)
    (hst : match base with | some ad => (storeCells (ad.add (sLen * i.size)) news).run P w = .ok () w' | none => w' = w) :
    (Builtin.append_ #[t, t'] ty #[.slice base sLen sCap, .slice ax m cx]).run P w = .ok (.slice base (sLen + m) sCap) w' := by
  cases base with
  | none =>
    simp only [] at hst
    subst hst
    simp [Builtin.append_, run_underlying ht, run_underlying ht', sizeOf, typeInfo, hi, Builtin.lenOf, hg, hf]
  | some ad =>
    simp only [] at hst
    simp [Builtin.append_, run_underlying ht, run_underlying ht', sizeOf, typeInfo, hi, Builtin.lenOf, hg, hf, hst]

theorem op_append {t t' el el' : TypeId} {i : TypeInfo} {z : List FV} {tk : Bool} {s x : Operand} {s' x' : Opd} (ho : o.op = .call { callee := .builtin .append, args := #[s, x], argTypes := #[t, t'] })
    (ht : P.underlying t = some (.slice el)) (ht' : P.underlying t' = some (.slice el')) (hi : P.info? el = some i) (hz : zAt P el = some z) (hzs : z.length = i.size) (hpos : 0 < i.size) (hby : 0 < i.bytes)
    (hs : trOpd s = some s') (hx : trOpd x = some x') (he : ¬ G.dom e) (hT : TRel G tm a) (hR : Rel G w ob)
    (h : ∀ q, stepOp (.append i.size i.bytes s' x') tm (oget ob) d e (if tk then some q else none) K) : Out P o a w G ob d e K := by
  have r1 := trOpd_rel hT hs
  have r2 := trOpd_rel hT hx
  obtain ⟨i', zv, hi', hzv, hzl, hzr⟩ := zAt_spec hz
  rw [hi] at hi'
  cases hi'
  have hexec : (execOp a.eval o).run P w = ((Builtin.append_ #[t, t'] o.type #[a.eval s, a.eval x]).run P w).andThen fun v w' => .ok (.value v) w' := by
    simp [execOp, ho, resolve, invoke, builtin]
  have h1 : srcP i.size (x'.ev tm) (oget ob) (fun ys => ∀ q, appendR i.size i.bytes e (if tk then some q else none) d (s'.ev tm) (oget ob) K ys) := srcP_all h
  obtain ⟨ys, ax, cx, news, hK, hxv, hybig, hnl, hnews, hnone, hone, hyl, hyr⟩ := src_spec hpos r2 hR h1
  have hnn : ax = none → news = [] := fun hn => by
    have := hnone hn
    subst this
    exact List.eq_nil_of_length_eq_zero (by simpa using hnl)
  have hf : (Builtin.firstCells i.size ys.length (.slice ax ys.length cx)).run P w = .ok news.toArray w := run_first hnl hnews hnn
  have hfd : (Builtin.firstCells i.size ys.length (.slice ax ys.length cx)).run P w.drew = .ok news.toArray w.drew := run_first hnl (fun j u hj ad had => by rw [World.cell?_drew]; exact hnews j u hj ad had) hnn
  have bytesBig : ∀ n : Nat, n * i.bytes ≤ 140737488355328 → n ≤ 140737488355328 := fun n hn => Nat.le_trans (Nat.le_mul_of_pos_right n hby) hn
  -- a new block
  have grow : ∀ (zs0 : List (List AV)) (base : Option Addr) (sCap : Nat) (olds : List Value) (ob0 : Ob) (del : Option Nat), a.eval s = .slice base zs0.length sCap → sCap < zs0.length + ys.length → (zs0.length + ys.length) * i.bytes ≤ 140737488355328 →
      (∀ j, j < zs0.length → (zs0.getD j []).length = i.size) → olds.length = zs0.length * i.size → (∀ p q, p < zs0.length → q < i.size → VRel G ((zs0.getD p []).getD q .junk) (olds.getD (p * i.size + q) undef)) →
      (Builtin.firstCells i.size zs0.length (.slice base zs0.length sCap)).run P w.drew = .ok olds.toArray w.drew → (Rel G w ob0 ∧ Fr G w ob G w ob0) → (obAfter ob d e none (some (.row i.size (zs0 ++ ys))) del = oset ob0 d e (.row i.size (zs0 ++ ys))) →
      (∀ q, ((∀ q', (if tk then some q else none) = some q' → zs0.length + ys.length ≤ q') → K (.ms d e i.size 0 (zs0.length + ys.length) (if tk then some q else none)) none (some (.row i.size (zs0 ++ ys))) del)) → Out P o a w G ob d e K := by
    intro zs0 base sCap olds ob0 del hsv hlt hbytes hzl0 hol hor hfo hob0 hoba hk
    have hlen := bytesBig _ hbytes
    have hrun := run_grow (w := w) (ty := o.type) ht ht' hi hzv hfo hfd hlt (by omega) hbytes
    have hge := grownCap_ge w (zs0.length + ys.length) sCap el
    generalize grownCap w (zs0.length + ys.length) sCap el = cp at hrun hge
    obtain ⟨j1, j2⟩ := join_rel hzl0 hyl hol hor hyr
    obtain ⟨g1, g2, g3⟩ := grown_row (d := d) (t := el) (cp := cp) (rest := Builtin.zeroCells zv.cells (cp - (zs0.length + ys.length))) hob0.1 he hpos (by simp) j1 (by rw [List.length_append, hol, hnl, Nat.add_mul])
      (by rw [size_zeroCells, hzl, hzs]) hge j2
    have hwe : (olds.toArray ++ news.toArray) = (olds ++ news).toArray := by simp
    rw [hwe] at hrun
    refine ⟨_, none, some _, del, _, .slice (some ⟨w.heap.size, 0, none⟩) (zs0.length + ys.length) cp, _, G.add e w.heap.size cp, by rw [hexec, hsv, hxv, hrun]; rfl, .inl rfl, hk cp (fun q' hq => by split at hq <;> cases hq; exact hge), ?_, by rw [hoba]; exact g1, by rw [hoba]; exact hob0.2.trans g2, g3, fun _ h => by cases h⟩
    exact .ms d e _ 0 _ _ _ cp (Gh.add_dom ..) (fun q hq => by split at hq <;> cases hq; rfl) hge (by omega) (by rw [Gh.add_ρ]; simp) (fun _ => by rw [Gh.add_ρ]; simp)
  -- nothing at all
  have nothing : ∀ (base : Option Addr) (ob0 : Ob) (del : Option Nat), a.eval s = .slice base 0 0 → ys = [] → (Rel G w ob0 ∧ Fr G w ob G w ob0) → (obAfter ob d e none (some (.row i.size [])) del = oset ob0 d e (.row i.size [])) →
      (∀ q, ((∀ q', (if tk then some q else none) = some q' → 0 ≤ q') → K (.ms d e i.size 0 0 (if tk then some q else none)) none (some (.row i.size [])) del)) → Out P o a w G ob d e K := by
    intro base ob0 del hsv hy hob0 hoba hk
    subst hy
    have hnw : news = [] := List.eq_nil_of_length_eq_zero (by simpa using hnl)
    have hrun := run_room (w' := w) (sLen := 0) (sCap := 0) (base := base) (ty := o.type) ht ht' hi hf (by simp) (by cases base <;> simp [hnw, storeCells])
    obtain ⟨g1, g2, g3⟩ := rel_dummy (d := d) (e := e) hob0.1 he i.size
    refine ⟨_, none, some _, del, _, .slice base 0 0, w, G.add e 0 0, by rw [hexec, hsv, hxv, hrun]; rfl, .inl rfl, hk 0 (fun _ _ => Nat.zero_le _), ?_, by rw [hoba]; exact g1, by rw [hoba]; exact hob0.2.trans g2, g3, fun _ h => by cases h⟩
    exact .ms d e _ 0 _ _ _ 0 (Gh.add_dom ..) (fun q hq => by split at hq <;> cases hq; rfl) (Nat.le_refl _) (by omega) (by rw [Gh.add_ρ]; simp) (fun hp => absurd hp (by omega))
  have hK0 := hK 0
  unfold appendR at hK0
  split at hK0
  · rename_i nl cap xs hsx
    simp only [appendR, hsx] at hK
    obtain ⟨hcap, hhd, hemp, hbytes, _⟩ := hK0
    have hK2 := fun q => (hK q).2.2.2.2
    rw [hsx] at r1
    obtain ⟨ad, cc, sz, b, off, vs, hsv, hle, hbig, hc, hnl2, hsz, had, hF, hRr⟩ := vr_sl r1
    have hcc := hc _ hcap
    subst hcc
    by_cases hy : ys = []
    · have hxs := hemp hy
      subst hxs
      subst hy
      exact nothing ad ob none hsv rfl ⟨hR, Fr.refl ..⟩ rfl (by simpa using hK2)
    · have hypos : 0 < ys.length := by
        rcases Nat.eq_zero_or_pos ys.length with h0 | h0
        · exact absurd (List.eq_nil_of_length_eq_zero h0) hy
        · exact h0
      -- the old cells
      obtain ⟨xs1, ax1, cx1, olds, hxs1, hsv1, _, hol, holds, hnone1, _, hxl, hxr⟩ := src_spec (K := fun zs => zs = xs.map (·.map .fv)) hpos r1 hR (by simp only [srcP]; exact ⟨hhd, trivial⟩)
      subst hxs1
      have hnn1 : ad = none → olds = [] := fun hn => by
        rcases Nat.eq_zero_or_pos xs.length with h0 | h0
        · exact List.eq_nil_of_length_eq_zero (by simp [hol, h0])
        · rw [had h0] at hn; cases hn
      have haa : ax1 = ad := by have := hsv1.symm.trans hsv; injection this
      subst haa
      have hlm : (xs.map (fun l => l.map AV.fv)).length = xs.length := by simp
      refine grow (xs.map (·.map .fv)) ax1 xs.length olds ob none (by rw [hlm]; exact hsv) (by rw [hlm]; omega) (by rw [hlm]; exact hbytes) hxl hol hxr ?_ ⟨hR, Fr.refl ..⟩ rfl (by rw [hlm]; exact hK2)
      exact run_first hol (fun j u hj ad had => by rw [World.cell?_drew]; exact holds j u hj ad had) hnn1
  · rename_i k e0 sz' off len cap hsx
    split at hK0
    · rename_i e' sz2 xs hk
      simp only [appendR, hsx, hk] at hK
      obtain ⟨rfl, rfl, rfl, rfl, rfl, hbytes, _⟩ := hK0
      have hK2 := fun q => (hK q).2.2.2.2.2.2
      rw [hsx] at r1
      obtain ⟨ad, cc, hsv, hd, hc, hle, hbig, hbd, had⟩ := vr_ms r1
      obtain ⟨_, hok⟩ := hR.obj k _ _ hk
      have hdel := rel_del hR k
      by_cases hroom : xs.length + ys.length ≤ cc
      · rcases Nat.eq_zero_or_pos cc with h0 | h0
        · subst h0
          have hx0 : xs = [] := List.eq_nil_of_length_eq_zero (by omega)
          have hy0 : ys = [] := List.eq_nil_of_length_eq_zero (by omega)
          subst hx0
          subst hy0
          exact nothing ad (odel ob k) (some k) hsv rfl hdel rfl (by simpa using hK2)
        · rw [had h0] at hsv
          obtain ⟨hcap, hrow, hrest⟩ := hok
          obtain ⟨vs, u, h1, h2, h3, h4⟩ := hrest (by omega)
          have hfit : 0 + xs.length * i.size + news.length ≤ vs.size := by
            rw [h2, hnl, Nat.zero_add, ← Nat.add_mul]; exact Nat.mul_le_mul_right _ (by omega)
          have hst := run_storeCells_at P (G.ρ e').1 (0 + xs.length * i.size) u news 0 vs w h1 (by simpa using hfit) hone
          have hrun := run_room (ty := o.type) (sLen := xs.length) (sCap := cc) (base := some ⟨(G.ρ e').1, 0 * i.size, none⟩) ht ht' hi hf hroom (by simp only []; rw [addr_add, Nat.zero_mul]; exact hst)
          have hcol : (∀ p, p < xs.length → (xs.getD p []).length = i.size) := hrow
          have hobj : ObjOK (G.add e (G.ρ e').1 (G.ρ e').2) (w.setRow (G.ρ e').1 (splice vs.toList (xs.length * i.size) news).toArray) e (.row i.size (xs ++ ys)) := by
            have hsl : xs.length * i.size + news.length ≤ vs.toList.length := by simpa using hfit
            have jl : ∀ p, p < (xs ++ ys).length → ((xs ++ ys).getD p []).length = i.size := fun p hp => by
              rw [List.length_append] at hp
              by_cases hpx : p < xs.length
              · rw [getD_append_left _ _ _ _ hpx]; exact hrow p hpx
              · rw [getD_append_right _ _ _ _ (by omega)]; exact hyl _ (by omega)
            refine ⟨by rw [Gh.add_ρ, List.length_append]; simp only []; omega, jl, fun hp => ?_⟩
            rw [Gh.add_ρ]
            refine ⟨_, u, setRow_heap w _ vs _ u _ h1, by rw [List.size_toArray, splice_length _ _ _ hsl, Array.length_toList]; exact h2, fun p q hp hq => ?_, h4⟩
            rw [List.length_append] at hp
            rw [arr_getD, splice_getD _ _ _ hsl, list_getD vs]
            by_cases hpx : p < xs.length
            · have c1 : p * i.size + q < xs.length * i.size := flat_index hpx hq
              rw [if_pos c1, getD_append_left _ _ _ _ hpx]; exact (h3 p q hpx hq).mono (G.le_add he ..)
            · have hm := Nat.mul_le_mul_right i.size (show xs.length ≤ p by omega)
              have c1 : ¬ p * i.size + q < xs.length * i.size := by omega
              have c2 : p * i.size + q < xs.length * i.size + news.length := by
                rw [hnl, ← Nat.add_mul]; exact flat_index hp hq
              have c3 : p * i.size + q - xs.length * i.size = (p - xs.length) * i.size + q := by rw [Nat.sub_mul]; omega
              rw [if_neg c1, if_pos c2, c3, getD_append_right _ _ _ _ (by omega)]
              exact (hyr _ q (by omega) hq).mono (G.le_add he ..)
          obtain ⟨g1, g2, g3⟩ := rel_move (d := d) hR hk (show owns G e' (.row i.size xs) from by simp only [owns]; omega) he (G.ρ e').2 (fun b hb => setRow_other w _ b _ hb) (size_setRow ..) rfl rfl rfl hobj (frz_setRow w _ _)
          have hwe : (vs.toList.take (0 + xs.length * i.size + 0) ++ news ++ vs.toList.drop (0 + xs.length * i.size + 0 + news.length)).toArray = (splice vs.toList (xs.length * i.size) news).toArray := by
            simp [splice]
          rw [hwe] at hrun
          refine ⟨_, none, some _, some k, _, .slice (some ⟨(G.ρ e').1, 0 * i.size, none⟩) (xs.length + ys.length) cc, _, _, by rw [hexec, hsv, hxv, hrun]; rfl, .inl rfl, hK2 cc (fun q' hq => by split at hq <;> cases hq; exact hroom), ?_, g1, g2, g3, fun _ h => by cases h⟩
          exact .ms d e _ 0 _ _ _ cc (Gh.add_dom ..) (fun q hq => by split at hq <;> cases hq; rfl) hroom (by have := bytesBig _ hbytes; omega) (by rw [Gh.add_ρ]; simp only []; omega) (fun _ => by rw [Gh.add_ρ])
      · obtain ⟨olds, n1, n2, n3, n4, _, n6, n7⟩ := row_cells (k := k) (cap := cap) (off := 0) (len := xs.length) hpos hok (by omega) hle hbd had
        have hxe : (xs.drop 0).take xs.length = xs := by simp
        rw [hxe] at n1 n4 n6 n7
        have hnn1 : ad = none → olds = [] := fun hn => by
          have := n4 hn
          subst this
          exact List.eq_nil_of_length_eq_zero (by simpa using n1)
        refine grow xs ad cc olds (odel ob k) (some k) hsv (by omega) hbytes n6 n1 n7 ?_ hdel rfl hK2
        exact run_first n1 (fun j u hj ad had => by rw [World.cell?_drew]; exact n3 j u hj ad had) hnn1
    · exact hK0.elim
  · exact hK0.elim
end
end Go.Proofs.RL
