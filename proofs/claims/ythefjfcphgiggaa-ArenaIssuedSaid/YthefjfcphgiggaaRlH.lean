/- Each operation of the model does what its abstract twin says: cuts, rows, appends. Conditions: none. -/
import Derived.Test.YthefjfcphgiggaaRlG
set_option linter.unusedVariables false
set_option linter.unusedSimpArgs false
namespace Go.Proofs.RL

def trO : Option Operand → Option (Option Opd)
  | none => some none
  | some x => (trOpd x).map some

theorem bnd_spec {G : Gh} {tm : Tm} {a : Act} (hT : TRel G tm a) {x : Option Operand} {x' : Option Opd} (hx : trO x = some x') {dflt : Nat} {K : Nat → Prop} (h : bndP tm x' dflt K) :
    ∃ n, K n ∧ ((x.map a.eval = none ∧ n = dflt) ∨ ∃ k, x.map a.eval = some (.int k (n : Int))) := by
  cases x with
  | none => cases hx; exact ⟨dflt, h, .inl ⟨rfl, rfl⟩⟩
  | some x =>
    simp only [trO, Option.map_eq_some_iff] at hx
    obtain ⟨y, hy, rfl⟩ := hx
    simp only [bndP] at h
    split at h
    · rename_i k n hb
      obtain ⟨h0, h⟩ := h
      have r1 := trOpd_rel hT hy
      rw [hb] at r1
      refine ⟨n.toNat, h, .inr ⟨k, ?_⟩⟩
      rw [Option.map_some, vr_int r1, Int.toNat_of_nonneg h0]
    · exact h.elim

theorem run_bounds {P : Program} {w : World} {isSlice : Bool} {len cap l h m : Nat} {lo hi mx : Option Value} (hl : (lo = none ∧ l = 0) ∨ ∃ k, lo = some (.int k (l : Int)))
    (hh : (hi = none ∧ h = len) ∨ ∃ k, hi = some (.int k (h : Int))) (hm : (mx = none ∧ m = cap) ∨ (hi ≠ none ∧ ∃ k, mx = some (.int k (m : Int)))) (h1 : l ≤ h) (h2 : h ≤ m) (h3 : m ≤ cap) :
    (Instr.sliceBounds isSlice len cap lo hi mx).run P w = .ok (l, h, m) w := by
  have i1 : (l : Int) ≤ (h : Int) := by omega
  have i2 : (h : Int) ≤ (m : Int) := by omega
  have i3 : (m : Int) ≤ (cap : Int) := by omega
  have i4 : (h : Int) ≤ (cap : Int) := by omega
  have sb : ∀ (k : IntKind) (n y : Nat) (cd : BoundsCode), n ≤ y → (Instr.sliceBound (.int k (n : Int)) y cd).run P w = .ok n w := by
    intro k n y cd hn
    have : (n : Int) ≤ (y : Int) := by omega
    simp [Instr.sliceBound, asIntOf, this]
  have s3 : ∀ k cd, (Instr.sliceBound (.int k (m : Int)) cap cd).run P w = .ok m w := fun k cd => sb k m cap cd h3
  have s2 : ∀ k cd, (Instr.sliceBound (.int k (h : Int)) m cd).run P w = .ok h w := fun k cd => sb k h m cd h2
  have s2' : ∀ k cd, (Instr.sliceBound (.int k (h : Int)) cap cd).run P w = .ok h w := fun k cd => sb k h cap cd (by omega)
  have s1 : ∀ k cd, (Instr.sliceBound (.int k (l : Int)) h cd).run P w = .ok l w := fun k cd => sb k l h cd h1
  rcases hl with ⟨rfl, rfl⟩ | ⟨kl, rfl⟩ <;> rcases hh with ⟨rfl, rfl⟩ | ⟨kh, rfl⟩ <;> rcases hm with ⟨rfl, rfl⟩ | ⟨hne, km, rfl⟩
  all_goals first
    | exact absurd rfl hne
    | (simp only [Instr.sliceBounds, Sem.run_bind, Sem.run_pure, Result.andThen_ok, s1, s2, s2', s3])

section
variable {P : Program} {o : Oper} {a : Act} {w : World} {G : Gh} {ob : Ob} {tm : Tm} {d e : Nat} {c : Option Nat} {K : Kont}

theorem op_len {t : TypeId} {str : Bool} {x : Operand} {x' : Opd} (ho : o.op = .call { callee := .builtin .len, args := #[x], argTypes := #[t] })
    (ht : if str then P.underlying t = some .string else ∃ el, P.underlying t = some (.slice el)) (hx : trOpd x = some x') (hT : TRel G tm a) (hR : Rel G w ob)
    (h : stepOp (.len str x') tm (oget ob) d e c K) : Out P o a w G ob d e K := by
  have r1 := trOpd_rel hT hx
  simp only [stepOp, lenP] at h
  split at h
  · rename_i nl cp xs hb
    rw [hb] at r1
    obtain ⟨el, ht⟩ : ∃ el, P.underlying t = some (.slice el) := by simpa using ht
    obtain ⟨ad, cc, sz, b1, off, vs, hv, _, hbig, _⟩ := vr_sl r1
    exact out_quiet hR (by simp [execOp, ho, resolve, invoke, builtin, Builtin.len_, run_underlying ht, hv, goInt] <;> rfl) (mk_int G .i64 _) h
  · rename_i k1 e1 sz off len cp hb
    rw [hb] at r1
    obtain ⟨el, ht⟩ : ∃ el, P.underlying t = some (.slice el) := by simpa using ht
    obtain ⟨ad, cc, hv, _, _, _, hbig, _⟩ := vr_ms r1
    exact out_quiet hR (by simp [execOp, ho, resolve, invoke, builtin, Builtin.len_, run_underlying ht, hv, goInt] <;> rfl) (mk_int G .i64 _) h
  · rename_i s hb
    rw [hb] at r1
    have ht : P.underlying t = some .string := by simpa using ht
    have hv := vr_str r1
    exact out_quiet hR (by simp [execOp, ho, resolve, invoke, builtin, Builtin.len_, run_underlying ht, hv, goInt] <;> rfl) (mk_int G .i64 _) h
  · exact h.elim

theorem op_cap {t el : TypeId} {x : Operand} {x' : Opd} (ho : o.op = .call { callee := .builtin .cap, args := #[x], argTypes := #[t] })
    (ht : P.underlying t = some (.slice el)) (hx : trOpd x = some x') (hT : TRel G tm a) (hR : Rel G w ob)
    (h : stepOp (.cap x') tm (oget ob) d e c K) : Out P o a w G ob d e K := by
  have r1 := trOpd_rel hT hx
  simp only [stepOp, capP] at h
  split at h
  · rename_i nl cp xs hb
    rw [hb] at r1
    obtain ⟨ad, cc, sz, b1, off, vs, hv, hle, _, hc, _⟩ := vr_sl r1
    have := hc _ rfl
    subst this
    exact out_quiet hR (by simp [execOp, ho, resolve, invoke, builtin, Builtin.cap_, run_underlying ht, hv, goInt] <;> rfl) (mk_int G .i64 _) h
  · rename_i k1 e1 sz off len cp hb
    rw [hb] at r1
    obtain ⟨ad, cc, hv, _, hc, hle, _⟩ := vr_ms r1
    have := hc _ rfl
    subst this
    exact out_quiet hR (by simp [execOp, ho, resolve, invoke, builtin, Builtin.cap_, run_underlying ht, hv, goInt] <;> rfl) (mk_int G .i64 _) h
  · exact h.elim

theorem op_minmax {isMax : Bool} {t ty : Array TypeId} {x y : Operand} {x' y' : Opd} (ho : o.op = .call { callee := .builtin (if isMax then .max else .min), args := #[x, y], argTypes := t })
    (hx : trOpd x = some x') (hy : trOpd y = some y') (hT : TRel G tm a) (hR : Rel G w ob)
    (h : stepOp (.minmax isMax x' y') tm (oget ob) d e c K) : Out P o a w G ob d e K := by
  have r1 := trOpd_rel hT hx
  have r2 := trOpd_rel hT hy
  simp only [stepOp] at h
  split at h
  · rename_i k n k' m hb hb'
    rw [hb] at r1
    rw [hb'] at r2
    obtain ⟨rfl, h⟩ := h
    have e1 := vr_int r1
    have e2 := vr_int r2
    cases isMax
    · refine out_quiet hR (v := .int k (min n m)) ?_ (mk_int G k _) h
      have : (if m < n then m else n) = min n m := by simp only [Int.min_def]; split <;> split <;> omega
      simp [execOp, ho, resolve, invoke, builtin, Builtin.min_, Builtin.min2, e1, e2, this]
    · refine out_quiet hR (v := .int k (max n m)) ?_ (mk_int G k _) h
      have : (if m > n then m else n) = max n m := by simp only [Int.max_def]; split <;> split <;> omega
      have h2 : (if n < m then m else n) = max n m := this
      simp [execOp, ho, resolve, invoke, builtin, Builtin.max_, Builtin.max2, e1, e2, h2]
  · exact h.elim

theorem op_mkSl {t el : TypeId} {i : TypeInfo} {z : List FV} {x : Operand} {x' : Opd} (ho : o.op = .makeSlice t x x) (ht : P.underlying t = some (.slice el)) (hi : P.info? el = some i) (hz : zAt P el = some z) (hzs : z.length = i.size) (hpos : 0 < i.size)
    (hx : trOpd x = some x') (he : ¬ G.dom e) (hT : TRel G tm a) (hR : Rel G w ob)
    (h : stepOp (.mkSl i.size i.bytes z x') tm (oget ob) d e c K) : Out P o a w G ob d e K := by
  have r1 := trOpd_rel hT hx
  simp only [stepOp] at h
  split at h
  · rename_i n hb
    rw [hb] at r1
    have e1 := vr_int r1
    obtain ⟨h0, hbig, hby, h⟩ := h
    obtain ⟨i', zv, hi', hzv, hzl, hzr⟩ := zAt_spec hz
    rw [hi] at hi'
    cases hi'
    obtain ⟨m, rfl⟩ := Int.eq_ofNat_of_zero_le h0
    have hm : m ≤ 281474976710656 := by omega
    have hrun := run_make (P := P) w t el i zv ht hi hzv .i64 .i64 (m : Int) (m : Int) (by omega) (Int.le_refl _) hby (by omega)
    simp only [Int.toNat_natCast] at hrun h
    have hno : ∀ j, G.F w.heap.size j = none := fun j => by
      cases hF : G.F w.heap.size j with
      | none => rfl
      | some v => have := hR.F_lt hF; omega
    have hobj : ObjOK (G.add e w.heap.size m) (w.alloc (.cells (madeCells zv.cells (m * i.size)) el)) e (.row i.size (List.replicate m (z.map AV.fv))) := by
      have hget : ∀ j, j < m → (List.replicate m (z.map AV.fv)).getD j [] = z.map AV.fv := fun j hj => by simp [List.getD_eq_getElem?_getD, List.getElem?_replicate, hj]
      refine ⟨by rw [Gh.add_ρ]; simp, fun j hj => ?_, fun hp => ?_⟩
      · rw [hget j (by simpa using hj)]; simpa using hzs
      · rw [Gh.add_ρ] at hp ⊢
        refine ⟨_, el, heap_alloc_new w _, size_madeCells _ _, fun j k hj hk => ?_, hno⟩
        rw [hget j (by simpa using hj)]
        have hlt : j * i.size + k < m * i.size := by
          have hj' : j < m := by simpa using hj
          calc j * i.size + k < j * i.size + i.size := by omega
            _ = (j + 1) * i.size := by rw [Nat.add_mul]; omega
            _ ≤ m * i.size := Nat.mul_le_mul_right _ (by omega)
        have hmod : (j * i.size + k) % zv.cells.size = k := by
          rw [hzl, hzs, Nat.add_comm, Nat.add_mul_mod_self_right, Nat.mod_eq_of_lt hk]
        have e1 : (madeCells zv.cells (m * i.size)).getD (j * i.size + k) undef = zv.cells.getD k undef := by
          have hk2 : k < zv.cells.size := by omega
          simp [madeCells, Array.getD, hlt, hmod, hk2]
        rw [e1]
        exact (hzr G k (by omega)).mono (G.le_add he ..)
    obtain ⟨g1, g2, g3⟩ := rel_new (w' := w.alloc (.cells (madeCells zv.cells (m * i.size)) el)) hR he d m _ _ el rfl rfl rfl rfl hobj
    refine ⟨_, none, some _, none, _, .slice (some ⟨w.heap.size, 0, none⟩) m m, _, _, ?_, .inl rfl, h, ?_, g1, g2, g3, fun _ h => by cases h⟩
    · simp [execOp, ho, e1, hrun]
    · refine .ms d e _ 0 m _ _ m (Gh.add_dom ..) (fun q hq => by cases hq; rfl) (Nat.le_refl _) hm (by rw [Gh.add_ρ]; simp) (fun _ => by rw [Gh.add_ρ]; simp)
  · exact h.elim

end
end Go.Proofs.RL
