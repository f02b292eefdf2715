/- Functions: a contract from a body; a contract beside what it does not touch. Conditions: none. -/
import Derived.Test.YthefjfcphgiggaaRlU
import Derived.RangeFuncLeaves
set_option linter.unusedVariables false
set_option linter.unusedSimpArgs false
namespace Go.Proofs.RL

inductive ARes where
  | tmp (t : Nat)
  | cell (t : Nat) (ag : Bool) (sz : Nat)
  deriving Inhabited
def trRes (P : Program) : ResultVar → Option ARes
  | .tmp t => some (.tmp t)
  | .cell t ty => (tyAt P ty).map fun p => .cell t p.1 p.2
def resP : List ARes → Tm → Ob → (List AV → Prop) → Prop
  | [], _, _, K => K []
  | .tmp t :: r, tm, ob, K => resP r tm ob fun vs => K (tget tm t :: vs)
  | .cell t ag sz :: r, tm, ob, K => loadP ag sz (tget tm t) (oget ob) fun v => resP r tm ob fun vs => K (v :: vs)
def one (vs : List AV) : AV := match vs with | [v] => v | vs => .tup vs
def mkTm : Nat → List AV → Tm
  | _, [] => []
  | i, v :: r => (i, v) :: mkTm (i + 1) r
theorem tget_mkTm : ∀ (vs : List AV) (i j : Nat), tget (mkTm i vs) j = if i ≤ j then vs.getD (j - i) .junk else .junk
  | [], i, j => by simp [mkTm, tget]
  | v :: r, i, j => by
    simp only [mkTm, tget, tget_mkTm r (i + 1) j]
    by_cases h : i = j
    · subst h; simp
    · rw [if_neg h]
      by_cases h2 : i + 1 ≤ j
      · rw [if_pos h2, if_pos (by omega)]
        obtain ⟨k, hk⟩ : ∃ k, j - i = k + 1 := ⟨j - i - 1, by omega⟩
        rw [hk, show j - (i + 1) = k by omega, List.getD_cons_succ]
      · rw [if_neg h2, if_neg (by omega)]

/-- What is asked at a function's end: its results, of the objects that ks keeps. -/
def endK (rs : List ARes) (ks : Option (List Nat)) (K : AV → Ob → Prop) : AEx → Tm → Ob → Prop
  | .exit _ => fun _ _ => False
  | _ => fun tm ob => resP rs tm ob fun vs => K (one vs) (match ks with | none => ob | some ks => okeep ob ks)

section
variable {P : Program} {Y : YT} {nt kb lim : Nat} {l : Option Nat} {m : Nat}

theorem load_var {t : TypeId} {ag : Bool} {sz : Nat} (ht : tyAt P t = some (ag, sz)) {G : Gh} {w : World} {ob : Ob} (hR : Rel G w ob) {p : AV} {v : Value} (r1 : VRel G p v) {K : AV → Prop} (h : loadP ag sz p (oget ob) K) :
    ∃ x u, K x ∧ VRel G x u ∧ (asAddr v >>= fun a => loadVar t a).run P w = .ok u w := by
  obtain ⟨_, _, _, _, _, _, hone⟩ := tyAt_spec ht
  simp only [loadP] at h
  split at h
  · rename_i k e1 o1
    obtain ⟨hd, rfl⟩ := vr_ptr r1
    split at h
    · rename_i e' cells hk
      obtain ⟨rfl, hle, h⟩ := h
      obtain ⟨_, hok⟩ := hR.obj k _ _ hk
      have hex : ∀ j, ∃ v, j < sz → w.cell? ⟨(G.ρ e').1, o1 + j, none⟩ = some v ∧ VRel G (cells.getD (o1 + j) .junk) v := fun j => by
        by_cases hj : j < sz
        · obtain ⟨v, h1, h2⟩ := var_cell hok (o1 + j) (by omega)
          exact ⟨v, fun _ => ⟨h1, h2⟩⟩
        · exact ⟨undef, fun h => absurd h hj⟩
      obtain ⟨f, hf⟩ := Classical.axiomOfChoice hex
      refine ⟨_, if ag then .agg ((List.range sz).map f).toArray else f 0, h, vrel_mkv (by simp; omega) hone fun j hj => ?_, ?_⟩
      · rw [take_drop_getD _ _ _ _ _ hj]; exact (hf j hj).2
      · simp [asAddr, run_loadVar_at ht (fun j hj => (hf j hj).1)]
    · exact h.elim
  · rename_i k e1 sz' i f1
    obtain ⟨hd, rfl⟩ := vr_eptr r1
    split at h
    · rename_i e' sz2 xs hk
      obtain ⟨rfl, rfl, hi, hle, h⟩ := h
      obtain ⟨_, hok⟩ := hR.obj k _ _ hk
      have hlen := hok.2.1 i hi
      have hex : ∀ j, ∃ v, j < sz → w.cell? ⟨(G.ρ e').1, i * sz2 + f1 + j, none⟩ = some v ∧ VRel G ((xs.getD i []).getD (f1 + j) .junk) v := fun j => by
        by_cases hj : j < sz
        · obtain ⟨v, h1, h2⟩ := row_cell hok i (f1 + j) hi (by omega)
          exact ⟨v, fun _ => ⟨by rw [Nat.add_assoc]; exact h1, h2⟩⟩
        · exact ⟨undef, fun h => absurd h hj⟩
      obtain ⟨f, hf⟩ := Classical.axiomOfChoice hex
      refine ⟨_, if ag then .agg ((List.range sz).map f).toArray else f 0, h, vrel_mkv (by simp only [List.length_take, List.length_drop, hlen]; omega) hone fun j hj => ?_, ?_⟩
      · rw [take_drop_getD _ _ _ _ _ hj]; exact (hf j hj).2
      · simp [asAddr, run_loadVar_at ht (fun j hj => (hf j hj).1)]
    · exact h.elim
  · rename_i cells
    obtain ⟨hle, h⟩ := h
    obtain ⟨b, off, vs, rfl, hF, hRr⟩ := vr_fptr r1
    refine ⟨_, if ag then .agg ((List.range sz).map vs).toArray else vs 0, h, vrel_mkv (by simp; omega) hone fun j hj => ?_, ?_⟩
    · have hj' : j < cells.length := by omega
      have := VRel.fv _ _ (hRr j hj')
      simpa [List.getD_eq_getElem?_getD, List.getElem?_map, List.getElem?_take, hj, List.getElem?_eq_getElem hj'] using this
    · simp [asAddr, run_loadVar_at ht (f := vs) (fun j hj => hR.fok _ _ _ (hF j (by omega)))]
  · exact h.elim

def gRes (tmps : Array Value) : ResultVar → Sem Value
  | .tmp t => pure (tmps.getD t undef)
  | .cell a t => asAddr (tmps.getD a undef) >>= fun a => loadVar t a
theorem results_eq (fn : Func) (tmps : Array Value) : results fn tmps = (fn.results.mapM (gRes tmps) >>= fun vs => pure (if h : vs.size = 1 then vs[0] else .tuple vs)) := by
  unfold results
  congr 1

theorem results_sound {G : Gh} {w : World} {ob : Ob} (hR : Rel G w ob) {tm : Tm} {tmps : Array Value} (hT : ∀ t, VRel G (tget tm t) (tmps.getD t undef)) : ∀ (rl : List ResultVar) (rs : List ARes) (K : List AV → Prop), rl.mapM (trRes P) = some rs → resP rs tm ob K →
    ∃ xs vs, K xs ∧ (rl.mapM (gRes tmps)).run P w = .ok vs w ∧ vs.length = xs.length ∧ ∀ i, i < xs.length → VRel G (xs.getD i .junk) (vs.getD i undef)
  | [], rs, K, htr, h => by
    simp at htr; subst htr
    exact ⟨[], [], h, by simp, rfl, by simp⟩
  | .tmp t :: rl, rs, K, htr, h => by
    simp only [List.mapM_cons, trRes, Option.bind_eq_bind, Option.pure_def, Option.bind_some, Option.bind_eq_some_iff] at htr
    obtain ⟨r, hr, htr⟩ := htr
    cases htr
    obtain ⟨xs, vs, hk, hrun, hl, hv⟩ := results_sound hR hT rl r _ hr h
    refine ⟨tget tm t :: xs, tmps.getD t undef :: vs, hk, ?_, by simp [hl], fun i hi => ?_⟩
    · rw [List.mapM_cons]
      rw [show gRes tmps (.tmp t) = pure (tmps.getD t undef) from rfl]
      simp only [Sem.run_bind, Sem.run_pure, Result.andThen_ok]
      rw [hrun]
      simp
    · cases i with
      | zero => exact hT t
      | succ i => simpa using hv i (by simpa using hi)
  | .cell t ty :: rl, rs, K, htr, h => by
    simp only [List.mapM_cons, trRes, Option.bind_eq_bind, Option.pure_def, Option.bind_eq_some_iff, Option.map_eq_some_iff] at htr
    obtain ⟨_, ⟨⟨ag, sz⟩, hty, rfl⟩, r, hr, htr⟩ := htr
    cases htr
    obtain ⟨x, u, hk, hxu, hload⟩ := load_var hty hR (hT t) h
    obtain ⟨xs, vs, hk, hrun, hl, hv⟩ := results_sound hR hT rl r _ hr hk
    refine ⟨x :: xs, u :: vs, hk, ?_, by simp [hl], fun i hi => ?_⟩
    · rw [List.mapM_cons]
      rw [Sem.run_bind]
      rw [show gRes tmps (.cell t ty) = (asAddr (tmps.getD t undef) >>= fun a => loadVar ty a) from rfl, hload]
      simp only [Result.andThen_ok, Sem.run_bind]
      rw [hrun]
      simp
    · cases i with
      | zero => exact hxu
      | succ i => simpa using hv i (by simpa using hi)

theorem okeep_sub (ks : List Nat) (ob : Ob) : ∀ k e o, oget (okeep ob ks) k = some (e, o) → oget ob k = some (e, o) := fun k e o hk => by
  rw [oget_okeep] at hk
  split at hk
  · exact hk
  · cases hk

theorem run_take {P : Program} {w : World} {D : Nat} (h : w.heap[D]? = some (.deferred (some []))) : (Instr.takeDeferred D).run P w = .ok [] { w with heap := w.heap.setIfInBounds D (.deferred none) } := by
  simp [Instr.takeDeferred, getObj, setObj, Sem.run, h]

theorem frz_other {w : World} {D : Nat} {x y : Option (List Deferred)} (h : w.heap[D]? = some (.deferred x)) (a : Addr) : ({ w with heap := w.heap.setIfInBounds D (.deferred y) } : World).frozen? a = w.frozen? a := by
  unfold World.frozen?
  simp only [Array.getElem?_setIfInBounds]
  by_cases hb : D = a.block
  · subst hb
    have hlt := (Array.getElem?_eq_some_iff.1 h).1
    rw [h, if_pos rfl, if_pos hlt]
  · rw [if_neg hb]
theorem rel_other {G : Gh} {w : World} {ob : Ob} (hR : Rel G w ob) {D : Nat} {x : Obj} (hD : ∀ c t f, w.heap[D]? ≠ some (.cells c t f)) (hn : ¬ Own G ob D) : Rel G { w with heap := w.heap.setIfInBounds D x } ob := by
  refine rel_step hR (.refl G) rfl (by simp) (fun b => b = D) (fun b o v hF hb => ?_) (fun b _ hb => by simp [Array.getElem?_setIfInBounds_ne (Ne.symm hb)]) (fun k e o hk => .inl ⟨hk, fun ho hb => hn ⟨k, e, o, hk, ho, hb⟩⟩) hR.fin
  subst hb
  have h1 := hR.fok b o v hF
  unfold World.cell? at h1
  split at h1
  · rename_i c t f hc; exact hD c t f hc
  · cases h1

theorem leaves_sound {fn : Func} {rs : List ARes} (hrs : fn.results.toList.mapM (trRes P) = some rs) {G : Gh} {w : World} {ob : Ob} {K : AV → Ob → Prop} {ks : Option (List Nat)} {tm' : Tm} {tmps : Array Value} {G' : Gh} {ob' : Ob} : ∀ (Ds : List Nat) (w' : World), Ds.Nodup →
    (∀ D ∈ Ds, w.heap.size ≤ D ∧ w'.heap[D]? = some (.deferred (some [])) ∧ ¬ Own G' ob' D) → Rel G' w' ob' → (∀ t, VRel G' (tget tm' t) (tmps.getD t undef)) → Fr G w ob G' w' ob' → (resP rs tm' ob' fun vs => K (one vs) (match ks with | none => ob' | some ks => okeep ob' ks)) →
      LeavesInM Fence.wide 0 P fn tmps (fun e w' => match e with
        | .returned v => ∃ G' r ob', K r ob' ∧ VRel G' r v ∧ Rel G' w' ob' ∧ Fr G w ob G' w' ob'
        | _ => False) (Ds.map fun D => { target := .collected D, args := #[] }) .returning w'
  | [], w', _, _, hR', hT', hF', hk => by
    obtain ⟨xs, us, hk, hrun, hul, huv⟩ := results_sound hR' hT' fn.results.toList rs _ hrs hk
    have hsub : ∀ k e o, oget (match ks with | none => ob' | some ks => okeep ob' ks) k = some (e, o) → oget ob' k = some (e, o) := by
      intro k e o hh
      cases ks with
      | none => exact hh
      | some ks => exact okeep_sub ks ob' k e o hh
    obtain ⟨hR2, hF2⟩ := rel_sub hR' hsub
    refine ⟨if h : us.toArray.size = 1 then us.toArray[0] else .tuple us.toArray, ?_, G', one xs, _, hk, ?_, hR2, hF'.trans hF2⟩
    · rw [results_eq]
      have harr : fn.results = fn.results.toList.toArray := by simp
      rw [harr, List.mapM_toArray]
      simp only [Sem.run_bind, map_eq_pure_bind]
      rw [hrun]
      simp
    · match xs, us, hul with
      | [x], [u], _ =>
        have := huv 0 (by simp)
        simpa [one] using this
      | [], [], _ => exact .tup _ _ rfl (by simp)
      | x :: y :: xs, u :: v :: us, hul =>
        simp only [one]
        rw [dif_neg (by simp)]
        refine .tup _ _ (by simpa using hul) fun i hi => ?_
        have := huv i hi
        rw [← list_getD]
        exact this
  | D :: Ds, w', hnd, hD, hR', hT', hF', hk => by
    obtain ⟨h1, h2, h3⟩ := hD D (by simp)
    rw [List.nodup_cons] at hnd
    refine ⟨by simp, .inl ⟨D, _, rfl, run_take h2, leaves_sound hrs Ds _ hnd.2 (fun D' hD' => ?_) (rel_other hR' (by rw [h2]; simp) h3) hT' ?_ hk⟩⟩
    · obtain ⟨k1, k2, k3⟩ := hD D' (List.mem_cons_of_mem _ hD')
      refine ⟨k1, ?_, k3⟩
      rw [show (({ w' with heap := w'.heap.setIfInBounds D (.deferred none) } : World).heap) = w'.heap.setIfInBounds D (.deferred none) from rfl, Array.getElem?_setIfInBounds_ne (fun e => hnd.1 (by subst e; exact hD'))]
      exact k2
    · refine ⟨hF'.le, hF'.os, hF'.tape, hF'.output, by simpa using hF'.size, fun b hb hn => ?_, hF'.own, hF'.F, fun a => (frz_other h2 a).trans (hF'.frz a)⟩
      rw [show (({ w' with heap := w'.heap.setIfInBounds D (.deferred none) } : World).heap) = w'.heap.setIfInBounds D (.deferred none) from rfl, Array.getElem?_setIfInBounds_ne (by omega)]
      exact hF'.heap b hb hn

theorem FnA_of_awp (hm : P.follows .mixedOrders = true) {f : FuncId} {fn : Func} {c : Code} {ac : AC} {rs : List ARes} {args : List AV} {ob : Ob} {K : AV → Ob → Prop} (hf : P.funcs[f]? = some fn) (hn : (fn.name == "runtime.NumGoroutine") = false) (hb : fn.body = some c)
    (htr : trCode P fn.ntmps c = some ac.erase) (hrs : fn.results.toList.mapM (trRes P) = some rs) (ks : Option (List Nat)) (hlen : args.length ≤ fn.ntmps) (h : awp P Y kb ac (endK rs ks K) (mkTm 0 args) ob) : FnA P Y f args ob K := by
  refine ⟨⟨fn, hf, hn, by rw [hb]; rfl⟩, fun G w vs hY hR hl hv => ?_⟩
  refine (callsIn_wide (n := 0)).1 (callsIn_of_wp_marks hf hb trivial ?_)
  have hst : St fn.ntmps w.heap.size G { tmps := vs ++ Array.replicate (fn.ntmps - vs.size) undef, defers := [] } w (mkTm 0 args) ob := by
    refine ⟨by simp; omega, fun t => ?_, hR, Nat.le_refl _, [], rfl, by simp, fun _ h => by cases h⟩
    rw [tget_mkTm]
    simp only [Nat.zero_le, if_true, Nat.sub_zero]
    by_cases ht : t < args.length
    · have := hv t ht
      rw [gd, Array.getElem?_append_left (by omega), ← gd]
      exact this
    · have : args.getD t .junk = .junk := by simp [List.getD_eq_getElem?_getD, List.getElem?_eq_none (Nat.le_of_not_lt ht)]
      rw [this]; exact .junk _
  have key : ∀ G' (a' : Act) w' tm' ob', (resP rs tm' ob' fun vs => K (one vs) (match ks with | none => ob' | some ks => okeep ob' ks)) → St fn.ntmps w.heap.size G' a' w' tm' ob' → Fr G w ob G' w' ob' → YOK P Y G' →
      LeavesInM Fence.wide 0 P fn a'.tmps (fun e w' => match e with
        | .returned v => ∃ G' r ob', K r ob' ∧ VRel G' r v ∧ Rel G' w' ob' ∧ Fr G w ob G' w' ob'
        | _ => False) a'.defers .returning w' := by
    intro G' a' w' tm' ob' hk hst' hF' hY'
    obtain ⟨_, Ds, hds, hnd, hD⟩ := hst'.dok
    rw [hds]
    exact leaves_sound hrs Ds w' hnd hD hst'.rel hst'.tm hF' hk
  refine awp_sound hm ac none 0 true (fun _ => rfl) w.heap.size c (endK rs ks K) _ G _ w (mkTm 0 args) ob htr h hst hY fun e G' a' w' tm' ob' hk hst' hF' hY' => ?_
  cases e with
  | normal => exact key G' a' w' tm' ob' hk hst' hF' hY'
  | ret => exact key G' a' w' tm' ob' hk hst' hF' hY'
  | exit id => exact hk.elim
end
end Go.Proofs.RL
