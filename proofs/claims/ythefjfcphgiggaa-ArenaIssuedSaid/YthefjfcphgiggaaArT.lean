/- For every capacity, every script and every time: the law ArenaIssued answers true. Conditions: none. -/
import Derived.Test.YthefjfcphgiggaaRows
import Derived.Test.YthefjfcphgiggaaArS
import Derived.Test.YthefjfcphgiggaaRlZ
import Derived.WalkKit
import Derived.ProofKit
import Derived.OpenShut
import Derived.SizedLaws
set_option linter.unusedVariables false
namespace Go.Proofs.RL
theorem t_int {m : Nat} {t : TypeId} {k : IntKind} {x : AV} (hu : Try.prog.underlying t = some (.int k)) (hs : isSt Try.prog t = false) (h : ArgT Try.prog m t x) : ∃ n, x = .fv (.int k n) ∧ (Lit.int k n).wf = true := by
  obtain ⟨xs, h1, h2⟩ := h
  cases m with
  | zero => exact h1.elim
  | succ m =>
    simp only [hasT, hu] at h1
    obtain ⟨n, rfl, hw⟩ := h1
    simp only [hs, Bool.false_eq_true, if_false] at h2
    obtain ⟨y, hy, rfl⟩ := h2
    cases hy
    exact ⟨n, rfl, hw⟩
theorem wf_u8 {n : Int} (h : (Lit.int .u8 n).wf = true) : 0 ≤ n ∧ n ≤ 255 := by simp [Lit.wf, IntKind.min, IntKind.max, IntKind.signed, IntKind.bits] at h; omega
theorem wf_u32 {n : Int} (h : (Lit.int .u32 n).wf = true) : 0 ≤ n ∧ n ≤ 4294967295 := by simp [Lit.wf, IntKind.min, IntKind.max, IntKind.signed, IntKind.bits] at h; omega
theorem t_op {m : Nat} {r : List FV} (h : hasT Try.prog m 51 r) : ∃ o : LOp, r = o.fv ∧ o.OK := by
  cases m with
  | zero => exact h.elim
  | succ m =>
    simp only [hasT, Try.underlying51, hasFs] at h
    obtain ⟨a, r1, rfl, ha, b, r2, rfl, hb, c, r3, rfl, hc, d, r4, rfl, hd, rfl⟩ := h
    cases m with
    | zero => exact ha.elim
    | succ m =>
      simp only [hasT, Try.underlying5, Try.underlying3] at ha hb hc hd
      obtain ⟨a, rfl, ha⟩ := ha
      obtain ⟨b, rfl, hb⟩ := hb
      obtain ⟨c, rfl, hc⟩ := hc
      obtain ⟨d, rfl, hd⟩ := hd
      have := wf_u8 ha
      have := wf_u8 hc
      have := wf_u8 hd
      exact ⟨⟨a, b, c, d⟩, rfl, by unfold LOp.OK; simp only; omega⟩
theorem t_ops {m : Nat} : ∀ (rows : List (List FV)), (∀ r ∈ rows, hasT Try.prog m 51 r) → ∃ l : List LOp, rows = lops l ∧ ∀ o ∈ l, o.OK
  | [], _ => ⟨[], rfl, by simp⟩
  | r :: rs, h => by
    obtain ⟨o, rfl, ho⟩ := t_op (h r (by simp))
    obtain ⟨l, rfl, hl⟩ := t_ops rs (fun r hr => h r (by simp [hr]))
    exact ⟨o :: l, rfl, fun x hx => (List.mem_cons.1 hx).elim (fun e => e ▸ ho) (fun hx => hl x hx)⟩
theorem t_arg {m : Nat} {x : AV} (h : ArgT Try.prog m 22 x) : ∃ l : List LOp, x = .fv (.sl none none (lops l)) ∧ l.length ≤ 281474976710656 ∧ ∀ i, i < l.length → (l[i]?.getD default).OK := by
  obtain ⟨xs, h1, h2⟩ := h
  cases m with
  | zero => exact h1.elim
  | succ m =>
    simp only [hasT, Try.underlying22] at h1
    obtain ⟨rows, rfl, hlen, hr⟩ := h1
    simp only [show isSt Try.prog 22 = false by kernel_rfl, Bool.false_eq_true, if_false] at h2
    obtain ⟨y, hy, rfl⟩ := h2
    cases hy
    obtain ⟨l, rfl, hl⟩ := t_ops rows hr
    refine ⟨l, rfl, ?_, fun i hi => ?_⟩
    · unfold reachBytes at hlen; simp at hlen; omega
    · rw [List.getElem?_eq_getElem hi, Option.getD_some]; exact hl _ (List.getElem_mem hi)
theorem pure4 : ∀ xs, ArgsT Try.prog 9 Try.f4.params.toList xs → PureA Try.prog 4 xs (.fv (.bool true)) := by
  intro xs h
  rw [show Try.f4.params.toList = [5, 22, 23] by kernel_rfl] at h
  obtain ⟨x1, r1, rfl, h1, x2, r2, rfl, h2, x3, r3, rfl, h3, rfl⟩ := h
  obtain ⟨cap, rfl, hc⟩ := t_int Try.underlying5 (by kernel_rfl) h1
  obtain ⟨l, rfl, hl, ho⟩ := t_arg h2
  obtain ⟨t, rfl, ht⟩ := t_int Try.underlying23 (by kernel_rfl) h3
  exact c_issued cap l t (wf_u8 hc) hl ho (wf_u32 ht)
end Go.Proofs.RL
namespace Go.Proofs.Ythefjfcphgiggaa.arenaIssued
open Go.ChangeShapes Go.WideShapes Go.ChangeAt Go.RowKit Go.Proofs.RL
set_option linter.unusedVariables false
theorem own : ownKnob Try.prog.godebug = none := by kernel_rfl
theorem kids : Kids Try.prog (· < Try.prog.types.size) := kids_rows (by kernel_rfl) (by kernel_rfl)
theorem full : ∀ t e, t < Try.prog.types.size → Try.prog.underlying t = some (.slice e) → 0 < Try.prog.cellsOf e := slices_full_of Try.prog (by kernel_rfl)
theorem plain : ∀ t ∈ Try.f4.params.toList, plainT Try.prog 9 t = true := List.all_eq_true.1 (by kernel_rfl : Try.f4.params.toList.all (fun t => plainT Try.prog 9 t) = true)
theorem within : ∀ t ∈ Try.f4.params.toList, t < Try.prog.types.size := fun t ht => of_decide_eq_true (List.all_eq_true.1 (by kernel_rfl : Try.f4.params.toList.all (fun t => decide (t < Try.prog.types.size)) = true) t ht)

set_option maxRecDepth 100000 in
theorem lifted (os : Os) (started : os.Started) (H : Type) (enc : TypeId × Value → H) :
    ReturnsInHanded {} Try.checked os 4 .any (Rows.arenaIssuedSpec.pre6 enc Try.prog Try.f4 Rows.arenaIssuedRow.domain false) (Rows.arenaIssuedSpec.post enc Try.prog Try.f4 false true false false) := by
  refine returnsInHanded_of_change_sized (C := Try.checked) own started (by kernel_rfl) Try.func4
    (ChangeSpec.witness6 (enc := enc) (C := Try.checked) false ⟨#[], #[.int .u8 0, .slice none 0 0, .int .u32 0], []⟩ 8 (by kernel_rfl) (by kernel_rfl) (by kernel_rfl) (by kernel_rfl)) ?_
  intro W base args ds gs before hval hW _ hsz _
  refine law_contract kids full (tb := 4) (m := 9) Try.underlying4 (by kernel_rfl) within plain rfl (fun ds hl => ?_) pure4 W base args ds gs before hval hW hsz
  have hl4 : ds.length = 3 := hl.trans (by kernel_rfl)
  match ds, hl4 with
  | [a, b, c], _ => exact ⟨rfl, rfl, rfl⟩

theorem over : Rows.arenaIssuedRow.holds Try.pinned (OpenSpec.ofChange Rows.arenaIssuedSpec) :=
  OpenClaim.holds_of_wide 4 Try.f4 rfl rfl rfl rfl rfl rfl rfl ⟨rfl, rfl, rfl, rfl, rfl⟩ rfl rfl rfl rfl rfl (by kernel_rfl) Try.func4 (by kernel_rfl)
    (of_decide_eq_true (by kernel_rfl)) (by unfold Func.isWrapper; first | (rw [if_pos (by decide +kernel)]; kernel_rfl) | (rw [if_neg (by decide +kernel)]; exact ⟨rfl, rfl⟩))
    (fun os started H enc _ => lifted os started H enc)
theorem proved : Rows.ArenaIssuedSaid := over
end Go.Proofs.Ythefjfcphgiggaa.arenaIssued
