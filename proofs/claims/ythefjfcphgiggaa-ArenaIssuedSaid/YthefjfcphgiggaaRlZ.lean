/- The end of a law: true comes back, what was read reads as it did. Conditions: none. -/
import Derived.Test.YthefjfcphgiggaaRlY
import Derived.ProofKit
import Derived.OpenShut
import Derived.ReadAgain
import Derived.ChangeBears
set_option linter.unusedVariables false
set_option linter.unusedSimpArgs false
namespace Go.Proofs.RL
open Go.ChangeShapes Go.WideShapes Go.ChangeAt Go.RowKit

section
variable {H : Type} {enc : TypeId × Value → H} {P : Program} {W W' : World}

theorem trodAll_up {sp : Nat → Bool} (hh : ∀ b, b < W.heap.size → W'.heap[b]? = W.heap[b]?) : ∀ {ts : List TypeId} {vs : List Value} {ds : List (DataW H)} {ps : List MemPlace}, DataW.TrodAll enc P W 0 sp true ts vs ds ps → (∀ p ∈ ps, p.block < W.heap.size) → DataW.TrodAll enc P W' 0 sp true ts vs ds ps
  | [], [], [], _, h, _ => h
  | t :: ts, v :: vs, d :: ds, ps, ⟨p, q, ⟨n, hn⟩, hs, e⟩, hlt => by
    refine ⟨p, q, ⟨n, DataW.trod_carry n _ _ _ hn fun x hx => ?_⟩, trodAll_up hh hs (fun x hx => hlt x (by rw [e]; exact List.mem_append_right _ hx)), e⟩
    have hb := hh x.block (hlt x (by rw [e]; exact List.mem_append_left _ hx))
    cases x with
    | cell b o => exact cell_heap hb
    | map b => exact hb
  | [], _ :: _, _, _, h, _ => h.elim
  | [], [], _ :: _, _, h, _ => h.elim
  | _ :: _, [], _, _, h, _ => h.elim
  | _ :: _, _ :: _, [], _, h, _ => h.elim

theorem law_close {fn : Func} {s : ChangeSpec} {f : FuncId} {tb : TypeId} {args : Array Value} {ds gs : List (DataW H)} {before : List MemPlace} {G : Gh} (hkids : Kids P (· < P.types.size)) (hfull : ∀ t e, t < P.types.size → P.underlying t = some (.slice e) → 0 < P.cellsOf e)
    (hb : P.underlying tb = some .bool) (hrt : fn.resultTypes = #[tb]) (hps : ∀ t ∈ fn.params.toList, t < P.types.size) (hsv : s.vars = []) (hW : DataW.Whole enc P fn.params.toList s.vars false W args.toList ds gs before)
    (hs : (s.fn H (ds ++ gs)).results = [.lit (.bool true)] ∧ (s.fn H (ds ++ gs)).args = ds ∧ (s.fn H (ds ++ gs)).vars = [])
    (hc : Calls P f args W fun e w' => match e with | .returned v => ∃ G' r ob', isR (.fv (.bool true)) r ob' ∧ VRel G' r v ∧ Rel G' w' ob' ∧ Fr G W [] G' w' ob' | _ => False) :
    Calls P f args W fun e W' => ∃ v, e = .returned v ∧ s.post enc P fn false true false false W args v W' := by
  refine hc.mono fun e W' he => ?_
  cases e with
  | returned v =>
    obtain ⟨G', r, ob', ⟨hr, rfl⟩, hv, hR', hF'⟩ := he
    have hv2 := vrel_wk hv
    rw [hr] at hv2
    have hv3 := vr_bool hv2
    subst hv3
    refine ⟨_, rfl, ?_⟩
    have hheap : ∀ b, b < W.heap.size → W'.heap[b]? = W.heap[b]? := fun b hb => hF'.heap b hb own_nil
    have hlt := hW.lt
    have hW' := hW
    obtain ⟨p, q, hA, hV, rfl, hfz, hnd⟩ := hW
    rw [hsv] at hV
    obtain ⟨rfl, rfl⟩ := trodVars_none hV
    refine post_of_same (pa := p) (pv := []) hW' (fun _ _ _ => by rw [hs.1, hrt]; exact trodAll_cons_mk (shut_bool hb _) trodAll_mk0) (fun sp hsp => ?_) (fun _ _ => by rw [hsv, hs.2.2]; rfl) rfl ?_ hF'.frz (ok_one hrt rfl (okWide_bool_mk hb _))
    · rw [hs.2.1]
      exact DataW.TrodAll.respare hkids hfull hps (trodAll_up hheap hA (fun x hx => hlt x (List.mem_append_left _ hx))) (fun x hx => hsp x (List.mem_append_left _ hx))
    · refine ⟨hF'.os, hF'.output, fun i hi => ?_⟩
      have := (World.keptBut_refl W (fun x => x ∈ p ++ [])).2.2 i hi
      rw [hheap i hi]
      exact this
  | panicked c => exact he.elim
  | outgrown => exact he.elim

def ArgsT (P : Program) (m : Nat) : List TypeId → List AV → Prop
  | [], xs => xs = []
  | t :: ts, xs => ∃ x r, xs = x :: r ∧ ArgT P m t x ∧ ArgsT P m ts r

theorem open_args {m : Nat} {r : Reach} {base : Nat} : ∀ {ts : List TypeId} {vs : List Value} {ds : List (DataW H)} {ps : List MemPlace}, DataW.TrodAll enc P W 0 (fun _ => true) true ts vs ds ps →
    (∀ (j : Nat) t v, ts[j]? = some t → vs[j]? = some v → Value.okWide P W r base t v) → (∀ t ∈ ts, plainT P m t = true) → (∀ n ∈ DataW.weightsEach P ts ds, n ≤ reachBytes) →
    ∃ xs : List AV, xs.length = vs.length ∧ (∀ i, i < vs.length → VRel (gh0 W) (xs.getD i .junk) (vs.getD i undef)) ∧ ArgsT P m ts xs
  | [], [], [], _, h, _, _, _ => ⟨[], rfl, by simp, rfl⟩
  | t :: ts, v :: vs, d :: ds, ps, ⟨p, q, h1, h2, e⟩, hv, hp, hw => by
    simp only [DataW.weightsEach, List.mem_append] at hw
    obtain ⟨x, hx1, hx2⟩ := open_arg (hv 0 t v rfl rfl) h1 (hp t (by simp)) (fun n hn => hw n (.inl hn))
    obtain ⟨xs, h3, h4, h5⟩ := open_args h2 (fun j t' v' ht hv' => hv (j + 1) t' v' (by simpa using ht) (by simpa using hv')) (fun t' ht' => hp t' (List.mem_cons_of_mem _ ht')) (fun n hn => hw n (.inr hn))
    refine ⟨x :: xs, by simp [h3], fun i hi => ?_, ⟨x, xs, rfl, hx1, h5⟩⟩
    cases i with
    | zero => simpa using hx2
    | succ i => simpa using h4 i (by simpa using hi)
  | [], _ :: _, _, _, h, _, _, _ => h.elim
  | [], [], _ :: _, _, h, _, _, _ => h.elim
  | _ :: _, [], _, _, h, _, _, _ => h.elim
  | _ :: _, _ :: _, [], _, h, _, _, _ => h.elim

/-- A law's contract, out of what its function hands back at whatever plain arguments. -/
theorem law_contract {fn : Func} {s : ChangeSpec} {f : FuncId} {tb : TypeId} {m : Nat} (hkids : Kids P (· < P.types.size)) (hfull : ∀ t e, t < P.types.size → P.underlying t = some (.slice e) → 0 < P.cellsOf e)
    (hb : P.underlying tb = some .bool) (hrt : fn.resultTypes = #[tb]) (hps : ∀ t ∈ fn.params.toList, t < P.types.size) (hpl : ∀ t ∈ fn.params.toList, plainT P m t = true) (hsv : s.vars = [])
    (hs : ∀ ds : List (DataW H), ds.length = fn.params.toList.length → (s.fn H ds).results = [.lit (.bool true)] ∧ (s.fn H ds).args = ds ∧ (s.fn H ds).vars = [])
    (hpure : ∀ xs, ArgsT P m fn.params.toList xs → PureA P f xs (.fv (.bool true))) (W : World) (base : Nat) (args : Array Value) (ds gs : List (DataW H)) (before : List MemPlace)
    (hval : ∀ (j : Nat) t v, fn.params[j]? = some t → args[j]? = some v → Value.okWide P W .any base t v) (hW : DataW.Whole enc P fn.params.toList s.vars false W args.toList ds gs before)
    (hsz : (DataW.weightsEach P (fn.params.toList ++ s.plain.varTypes P) (ds ++ gs)).all (· ≤ reachBytes) = true) :
    Calls P f args W fun e W' => ∃ v, e = .returned v ∧ s.post enc P fn false true false false W args v W' := by
  have hW' := hW
  obtain ⟨p, q, hA, hV, rfl, hfz, hnd⟩ := hW
  rw [hsv] at hV
  obtain ⟨rfl, rfl⟩ := trodVars_none hV
  have hlen : ∀ {ts : List TypeId} {vs : List Value} {ds : List (DataW H)} {ps : List MemPlace}, DataW.TrodAll enc P W 0 (fun _ => true) true ts vs ds ps → ds.length = ts.length ∧ vs.length = ts.length := by
    intro ts
    induction ts with
    | nil => intro vs ds ps h; obtain ⟨rfl, rfl, rfl⟩ := trodAll_nil h; exact ⟨rfl, rfl⟩
    | cons t ts ih =>
      intro vs ds ps h
      obtain ⟨v, vs1, d, ds1, a, b, rfl, rfl, rfl, h1, h2⟩ := trodAll_cons h
      have := ih h2
      exact ⟨by simp [this.1], by simp [this.2]⟩
  have hw : ∀ n ∈ DataW.weightsEach P fn.params.toList ds, n ≤ reachBytes := by
    intro n hn
    have hsub : ∀ (ts ts' : List TypeId) (ds : List (DataW H)), n ∈ DataW.weightsEach P ts ds → n ∈ DataW.weightsEach P (ts ++ ts') ds := by
      intro ts
      induction ts with
      | nil => intro ts' ds h; simp [DataW.weightsEach] at h
      | cons t ts ih =>
        intro ts' ds h
        cases ds with
        | nil => simp [DataW.weightsEach] at h
        | cons d ds =>
          simp only [List.cons_append, DataW.weightsEach, List.mem_append] at h ⊢
          rcases h with h | h
          · exact .inl h
          · exact .inr (ih ts' ds h)
    rw [List.append_nil] at hsz
    have := List.all_eq_true.1 hsz n (hsub _ _ _ hn)
    simpa using this
  obtain ⟨xs, h1, h2, h3⟩ := open_args hA (fun j t v ht hv => hval j t v (by simpa using ht) (by simpa using hv)) hpl hw
  refine law_close (G := gh0 W) hkids hfull hb hrt hps hsv hW' (by rw [List.append_nil]; exact hs ds (hlen hA).1) ?_
  have hY : YOK P (fun _ _ _ _ => False) (gh0 W) := fun l as ob0 K0 h => h.elim
  exact (((hpure xs h3).out _).2 (gh0 W) W args hY (rel_gh0 W) (by simpa using h1.symm) (fun i hi => by rw [← list_getD args]; exact h2 i (by omega)))
end
end Go.Proofs.RL
