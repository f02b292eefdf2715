/- Each operation of the model does what its abstract twin says: slices. Conditions: none. -/
import Derived.Test.YthefjfcphgiggaaRlF
import Derived.Laws.StructEq
set_option linter.unusedVariables false
set_option linter.unusedSimpArgs false
namespace Go.Proofs.RL

theorem vr_sl {G : Gh} {nl : Option Bool} {cap : Option Nat} {xs : List (List FV)} {v : Value} (h : VRel G (.fv (.sl nl cap xs)) v) :
    ∃ (a : Option Addr) (c sz b off : Nat) (vs : Nat → Nat → Value), v = .slice a xs.length c ∧ xs.length ≤ c ∧ xs.length ≤ 281474976710656 ∧ (∀ k, cap = some k → c = k) ∧ (∀ b, nl = some b → b = a.isNone) ∧
      (∀ i, i < xs.length → (xs.getD i []).length = sz) ∧ (0 < xs.length → a = some ⟨b, off, none⟩) ∧
      (∀ i j, i < xs.length → j < sz → G.F b (off + (i * sz + j)) = some (vs i j)) ∧ (∀ i j, i < xs.length → j < sz → FRel G.F ((xs.getD i []).getD j .nilp) (vs i j)) := by
  cases h with
  | fv x v h =>
    cases h with
    | sl nl cap xs a c sz b off vs hle hbig hc hnl hsz had hF hR => exact ⟨a, c, sz, b, off, vs, rfl, hle, hbig, hc, hnl, hsz, had, hF, hR⟩
theorem vr_fv {G : Gh} {x : FV} {v : Value} (h : VRel G (.fv x) v) : FRel G.F x v := by cases h; assumption
theorem vr_ms {G : Gh} {k e sz off len : Nat} {cap : Option Nat} {v : Value} (h : VRel G (.ms k e sz off len cap) v) :
    ∃ (a : Option Addr) (c : Nat), v = .slice a len c ∧ G.dom e ∧ (∀ q, cap = some q → c = q) ∧ len ≤ c ∧ len ≤ 281474976710656 ∧ off + c ≤ (G.ρ e).2 ∧ (0 < c → a = some ⟨(G.ρ e).1, off * sz, none⟩) := by
  cases h with
  | ms k e sz off len cap a c hd hc hle hbig hb ha => exact ⟨a, c, rfl, hd, hc, hle, hbig, hb, ha⟩
theorem vr_agg {G : Gh} {cs : List AV} {v : Value} (h : VRel G (.agg cs) v) : ∃ vs : Array Value, v = .agg vs ∧ vs.size = cs.length ∧ ∀ i, i < cs.length → VRel G (cs.getD i .junk) (vs.getD i undef) := by
  cases h with
  | agg cs vs hl h => exact ⟨vs, rfl, hl, h⟩
theorem vr_tup {G : Gh} {cs : List AV} {v : Value} (h : VRel G (.tup cs) v) : ∃ vs : Array Value, v = .tuple vs ∧ vs.size = cs.length ∧ ∀ i, i < cs.length → VRel G (cs.getD i .junk) (vs.getD i undef) := by
  cases h with
  | tup cs vs hl h => exact ⟨vs, rfl, hl, h⟩

section
variable {P : Program} {o : Oper} {a : Act} {w : World} {G : Gh} {ob : Ob} {tm : Tm} {d e : Nat} {c : Option Nat} {K : Kont}

theorem op_nilCheck {x : Operand} {x' : Opd} (ho : o.op = .nilCheck x) (hx : trOpd x = some x') (hT : TRel G tm a) (hR : Rel G w ob)
    (h : stepOp (.nilCheck x') tm (oget ob) d e c K) : Out P o a w G ob d e K := by
  have r1 := trOpd_rel hT hx
  simp only [stepOp] at h
  split at h
  · rename_i k e1 o1 hb
    rw [hb] at r1
    refine out_quiet hR (v := a.eval x) ?_ r1 h
    have := (vr_ptr r1).2
    simp [execOp, ho, this]
  · rename_i k e1 sz i f hb
    rw [hb] at r1
    refine out_quiet hR (v := a.eval x) ?_ r1 h
    have := (vr_eptr r1).2
    simp [execOp, ho, this]
  · rename_i cs hb
    rw [hb] at r1
    refine out_quiet hR (v := a.eval x) ?_ r1 h
    obtain ⟨b, o1, vs, hv, _⟩ := vr_fptr r1
    simp [execOp, ho, hv]
  · exact h.elim

theorem op_mkIface {t : TypeId} {td : TypeDesc} {x : Operand} {x' : Opd} (ho : o.op = .makeInterface t x) (ht : P.underlying t = some td) (hni : ∀ ms, td ≠ .interface ms) (hx : trOpd x = some x') (hT : TRel G tm a) (hR : Rel G w ob)
    (h : stepOp (.mkIface t x') tm (oget ob) d e c K) : Out P o a w G ob d e K := by
  have r1 := trOpd_rel hT hx
  simp only [stepOp] at h
  split at h
  · rename_i x1 hb
    rw [hb] at r1
    refine out_quiet hR (v := .iface t (a.eval x)) ?_ (.fv _ _ (.iface t x1 _ (vr_fv r1))) h
    simp only [execOp, ho, Instr.makeInterface, Sem.run_bind, run_underlying ht, Result.andThen_ok]
    cases td <;> first | rfl | exact absurd rfl (hni _)
  · exact h.elim

theorem op_mkFunc {f : FuncId} {first caps : Array Operand} {first' caps' : List Opd} (ho : o.op = .makeFunc (.func f) first caps) (hf : first.toList.mapM trOpd = some first') (hc : caps.toList.mapM trOpd = some caps')
    (hT : TRel G tm a) (hR : Rel G w ob) (h : stepOp (.mkFunc f first' caps') tm (oget ob) d e c K) : Out P o a w G ob d e K := by
  have key : ∀ (l : List Operand) (l' : List Opd), l.mapM trOpd = some l' → l'.length = l.length ∧ ∀ i, i < l'.length → VRel G ((l'.map (·.ev tm)).getD i .junk) ((l.map a.eval).getD i undef) := by
    intro l
    induction l with
    | nil => intro l' h; simp at h; subst h; simp
    | cons x l ih =>
      intro l' h
      simp only [List.mapM_cons, Option.bind_eq_bind, Option.pure_def, Option.bind_eq_some_iff] at h
      obtain ⟨y, hy, r, hr, h⟩ := h
      cases h
      obtain ⟨h1, h2⟩ := ih r hr
      refine ⟨by simp [h1], fun i hi => ?_⟩
      cases i with
      | zero => exact trOpd_rel hT hy
      | succ i => simpa using h2 i (by simpa using hi)
  obtain ⟨f1, f2⟩ := key _ _ hf
  obtain ⟨c1, c2⟩ := key _ _ hc
  simp only [stepOp] at h
  refine out_quiet hR (v := .func (.func f) (first.map a.eval) (caps.map a.eval)) (by simp [execOp, ho, Instr.makeFunc]) ?_ h
  refine .clo f _ _ _ _ (by simp [f1]) (by simp [c1]) (fun i hi => ?_) (fun i hi => ?_)
  · rw [← list_getD (first.map a.eval), Array.toList_map]; exact f2 i (by simpa using hi)
  · rw [← list_getD (caps.map a.eval), Array.toList_map]; exact c2 i (by simpa using hi)

theorem op_extract {x : Operand} {x' : Opd} {i : Nat} (ho : o.op = .extract x i) (hx : trOpd x = some x') (hT : TRel G tm a) (hR : Rel G w ob)
    (h : stepOp (.extract x' i) tm (oget ob) d e c K) : Out P o a w G ob d e K := by
  have r1 := trOpd_rel hT hx
  simp only [stepOp] at h
  split at h
  · rename_i vs hb
    rw [hb] at r1
    obtain ⟨hi, h⟩ := h
    obtain ⟨us, hv, hl, hr⟩ := vr_tup r1
    refine out_quiet hR (v := us.getD i undef) ?_ (hr i hi) h
    simp only [execOp, ho, Instr.extract, hv, getD_arr us i (by omega), Sem.run_bind, Sem.run_pure, Result.andThen_ok]
  · exact h.elim

/-- A field's place and size. -/
def fieldAtT (P : Program) (t : TypeId) (f : Nat) : Option (Nat × Bool × Nat) :=
  match P.underlying t with
  | some (.struct fs) => match fs[f]? with
    | some fd => (tyAt P fd.type).bind fun (ag, sz) => if sz = 0 then none else some (fd.offset, ag, sz)
    | none => none
  | _ => none
theorem fieldAtT_spec {t : TypeId} {f off sz : Nat} {ag : Bool} (h : fieldAtT P t f = some (off, ag, sz)) :
    ∃ fs fd, P.underlying t = some (.struct fs) ∧ fs[f]? = some fd ∧ tyAt P fd.type = some (ag, sz) ∧ fd.offset = off ∧ sz ≠ 0 := by
  unfold fieldAtT at h
  split at h
  · rename_i fs hfs
    split at h
    · rename_i fd hfd
      simp only [Option.bind_eq_some_iff] at h
      obtain ⟨⟨ag', sz'⟩, h1, h2⟩ := h
      split at h2
      · cases h2
      · rename_i h0
        cases h2
        exact ⟨fs, fd, hfs, hfd, h1, rfl, h0⟩
    · cases h
  · cases h

theorem op_fieldAddr {t : TypeId} {f off sz : Nat} {ag : Bool} {x : Operand} {x' : Opd} (ho : o.op = .fieldAddr t x f) (ht : fieldAtT P t f = some (off, ag, sz)) (hx : trOpd x = some x') (hT : TRel G tm a) (hR : Rel G w ob)
    (h : stepOp (.fieldAddr off x') tm (oget ob) d e c K) : Out P o a w G ob d e K := by
  have r1 := trOpd_rel hT hx
  obtain ⟨fs, fd, h1, h2, h3, h4, h5⟩ := fieldAtT_spec ht
  obtain ⟨_, i, _, hi, _, hsz, _⟩ := tyAt_spec h3
  have hrun : ∀ b o1, (Instr.fieldAt t (.pointer (some ⟨b, o1, none⟩)) f).run P w = .ok (.pointer (some ⟨b, o1 + off, none⟩)) w := fun b o1 => by
    simp [Instr.fieldAt, run_underlying h1, h2, Instr.sureAddr, fieldPlace, run_size hi, hsz, h5, addr_add, h4]
  simp only [stepOp, faddP] at h
  split at h
  · rename_i k e1 o1 hb
    rw [hb] at r1
    obtain ⟨hd, hv⟩ := vr_ptr r1
    exact out_quiet hR (by simp [execOp, ho, hv, hrun] <;> rfl) (.ptr k e1 _ hd) h
  · rename_i k e1 sz i1 f1 hb
    rw [hb] at r1
    obtain ⟨hd, hv⟩ := vr_eptr r1
    exact out_quiet hR (by simp only [execOp, ho, hv, Sem.run_bind, hrun, Result.andThen_ok, Nat.add_assoc] <;> rfl) (.eptr k e1 _ _ _ hd) h
  · rename_i cells hb
    rw [hb] at r1
    obtain ⟨b, o1, vs, hv, hF, hRr⟩ := vr_fptr r1
    refine out_quiet hR (v := .pointer (some ⟨b, o1 + off, none⟩)) (by simp [execOp, ho, hv, hrun]) ?_ h
    refine .fptr _ b _ (fun j => vs (off + j)) (fun j hj => ?_) (fun j hj => ?_)
    · have := hF (off + j) (by simp at hj; omega); rwa [show o1 + off + j = o1 + (off + j) by omega]
    · have := hRr (off + j) (by simp at hj; omega)
      simpa [List.getD_eq_getElem?_getD, List.getElem?_drop] using this
  · exact h.elim

theorem op_field {t : TypeId} {f off sz : Nat} {ag : Bool} {x : Operand} {x' : Opd} (ho : o.op = .field t x f) (ht : fieldAtT P t f = some (off, ag, sz)) (hx : trOpd x = some x') (hT : TRel G tm a) (hR : Rel G w ob)
    (h : stepOp (.field ag off sz x') tm (oget ob) d e c K) : Out P o a w G ob d e K := by
  have r1 := trOpd_rel hT hx
  obtain ⟨fs, fd, h1, h2, h3, h4, h5⟩ := fieldAtT_spec ht
  obtain ⟨td, i, htd, hi, hag, hsz, hone⟩ := tyAt_spec h3
  simp only [stepOp] at h
  split at h
  · rename_i cs hb
    rw [hb] at r1
    obtain ⟨hle, h⟩ := h
    obtain ⟨vs, hv, hl, hr⟩ := vr_agg r1
    refine out_quiet hR (v := if ag then .agg ((List.range sz).map fun j => vs.getD (off + j) undef).toArray else vs.getD (off + 0) undef) ?_
      (vrel_mkv (f := fun j => vs.getD (off + j) undef) (by simp; omega) hone fun j hj => by rw [take_drop_getD _ _ _ _ _ hj]; exact hr _ (by omega)) h
    have hpart : (part fd.type vs off).run P w = .ok (if ag then .agg ((List.range sz).map fun j => vs.getD (off + j) undef).toArray else vs.getD (off + 0) undef) w := by
      simp only [part, Sem.run_bind, run_isAgg htd, Result.andThen_ok, hag]
      cases ag with
      | true =>
        simp only [if_true, Sem.run_bind, run_size hi, Result.andThen_ok, Sem.run_pure, hsz]
        congr 2
        apply Array.ext'
        simp only [Array.toList_extract]
        apply List.ext_getElem?
        intro j
        by_cases hj : j < sz
        · have : off + j < vs.size := by omega
          simp [List.getElem?_take, hj, List.getElem?_drop, this, Array.getD]
        · simp [List.getElem?_take, hj]
      | false =>
        have := hone rfl
        simp only [Bool.false_eq_true, if_false, getD_arr vs off (by omega), Sem.run_pure, Nat.add_zero]
    simp [execOp, ho, Instr.field, run_underlying h1, h2, hv, asAgg, h4, hpart]
  · exact h.elim

theorem op_idxA {t el : TypeId} {i : TypeInfo} {x y : Operand} {x' y' : Opd} (ho : o.op = .indexAddr t x y) (ht : P.underlying t = some (.slice el)) (hi : P.info? el = some i) (hx : trOpd x = some x') (hy : trOpd y = some y') (hT : TRel G tm a) (hR : Rel G w ob)
    (h : stepOp (.idxA i.size x' y') tm (oget ob) d e c K) : Out P o a w G ob d e K := by
  have r1 := trOpd_rel hT hx
  have r2 := trOpd_rel hT hy
  simp only [stepOp, idxAP] at h
  have hrun : ∀ (ad : Addr) (len cp : Nat) (k : IntKind) (n : Int), 0 ≤ n → n < len → (Instr.indexAt t (.slice (some ad) len cp) (.int k n)).run P w = .ok (.pointer (some (ad.add (n.toNat * i.size)))) w := by
    intro ad len cp k n h0 h1
    by_cases hl : len ≤ 1 <;> simp [Instr.indexAt, asIntOf, run_underlying ht, h0, h1, run_size hi, hl]
  split at h
  · rename_i nl cp xs k n hb hb'
    rw [hb] at r1
    rw [hb'] at r2
    obtain ⟨h0, h1, hs, h⟩ := h
    have e2 := vr_int r2
    obtain ⟨ad, cc, sz, b, off, vs, hv, hle, hbig, _, _, hsz, had, hF, hRr⟩ := vr_sl r1
    have hpos : 0 < xs.length := by omega
    have hn : n.toNat < xs.length := by omega
    have hszz : sz = i.size := by rw [← hsz n.toNat hn, hs]
    rw [had hpos] at hv
    refine out_quiet hR (v := .pointer (some ⟨b, off + n.toNat * sz, none⟩)) ?_ ?_ h
    · simp [execOp, ho, hv, e2, hrun _ _ _ k n h0 h1, addr_add, hszz]
    · refine .fptr _ b _ (vs n.toNat) (fun j hj => ?_) (fun j hj => hRr _ j hn (by omega))
      rw [Nat.add_assoc]; exact hF n.toNat j hn (by omega)
  · rename_i k1 e1 sz' off len cp k n hb hb'
    rw [hb] at r1
    rw [hb'] at r2
    obtain ⟨rfl, h0, h1, h⟩ := h
    have e2 := vr_int r2
    obtain ⟨ad, cc, hv, hd, _, hle, _, hbd, had⟩ := vr_ms r1
    rw [had (by omega)] at hv
    refine out_quiet hR (v := .pointer (some ⟨(G.ρ e1).1, (off + n.toNat) * i.size + 0, none⟩)) ?_ (.eptr k1 e1 _ _ _ hd) h
    simp [execOp, ho, hv, e2, hrun _ _ _ k n h0 h1, addr_add, Nat.add_mul]
  · exact h.elim

theorem op_idxArr {t el : TypeId} {n : Nat} {i : TypeInfo} {x y : Operand} {x' y' : Opd} (ho : o.op = .indexAddr t x y) (ht : P.underlying t = some (.array n el)) (hi : P.info? el = some i) (hx : trOpd x = some x') (hy : trOpd y = some y') (hT : TRel G tm a) (hR : Rel G w ob)
    (h : stepOp (.idxArr n i.size x' y') tm (oget ob) d e c K) : Out P o a w G ob d e K := by
  have r1 := trOpd_rel hT hx
  have r2 := trOpd_rel hT hy
  simp only [stepOp] at h
  split at h
  · rename_i k m hb'
    rw [hb'] at r2
    have e2 := vr_int r2
    obtain ⟨h0, h1, h⟩ := h
    have hrun : ∀ (b o1 : Nat), (Instr.indexAt t (.pointer (some ⟨b, o1, none⟩)) (.int k m)).run P w = .ok (.pointer (some ⟨b, o1 + m.toNat * i.size, none⟩)) w := by
      intro b o1
      by_cases hl : n ≤ 1 <;> simp [Instr.indexAt, asIntOf, run_underlying ht, h0, h1, run_size hi, hl, Instr.sureAddr, addr_add]
    simp only [faddP] at h
    split at h
    · rename_i k e1 o1 hb
      rw [hb] at r1
      obtain ⟨hd, hv⟩ := vr_ptr r1
      exact out_quiet hR (by simp [execOp, ho, hv, e2, hrun] <;> rfl) (.ptr k e1 _ hd) h
    · rename_i k e1 sz i1 f1 hb
      rw [hb] at r1
      obtain ⟨hd, hv⟩ := vr_eptr r1
      exact out_quiet hR (by simp only [execOp, ho, hv, e2, Sem.run_bind, hrun, Result.andThen_ok, Nat.add_assoc] <;> rfl) (.eptr k e1 _ _ _ hd) h
    · rename_i cells hb
      rw [hb] at r1
      obtain ⟨b, o1, vs, hv, hF, hRr⟩ := vr_fptr r1
      refine out_quiet hR (v := .pointer (some ⟨b, o1 + m.toNat * i.size, none⟩)) (by simp [execOp, ho, hv, e2, hrun]) ?_ h
      refine .fptr _ b _ (fun j => vs (m.toNat * i.size + j)) (fun j hj => ?_) (fun j hj => ?_)
      · have := hF (m.toNat * i.size + j) (by simp at hj; omega); rwa [show o1 + m.toNat * i.size + j = o1 + (m.toNat * i.size + j) by omega]
      · have := hRr (m.toNat * i.size + j) (by simp at hj; omega)
        simpa [List.getD_eq_getElem?_getD, List.getElem?_drop] using this
    · exact h.elim
  · exact h.elim

theorem op_idxS {t : TypeId} {x y : Operand} {x' y' : Opd} (ho : o.op = .index t x y) (ht : P.underlying t = some .string) (hx : trOpd x = some x') (hy : trOpd y = some y') (hT : TRel G tm a) (hR : Rel G w ob)
    (h : stepOp (.idxS x' y') tm (oget ob) d e c K) : Out P o a w G ob d e K := by
  have r1 := trOpd_rel hT hx
  have r2 := trOpd_rel hT hy
  simp only [stepOp] at h
  split at h
  · rename_i s k n hb hb'
    rw [hb] at r1
    rw [hb'] at r2
    obtain ⟨h0, h1, h⟩ := h
    have e1 := vr_str r1
    have e2 := vr_int r2
    have hn : n.toNat < s.data.size := by have : s.data.size = s.size := rfl; omega
    have hg : s[n.toNat]? = some (s.data.getD n.toNat 0) := by
      have hn' : n.toNat < s.size := hn
      rw [getElem?_pos s n.toNat hn']
      simp only [Array.getD, hn, dite_true, Option.some.injEq]
      rfl
    refine out_quiet hR ?_ (mk_int G .u8 _) h
    simp [execOp, ho, e1, e2, Instr.index, asIntOf, run_underlying ht, h0, hg]
  · exact h.elim

def nilKd : TypeDesc → Value → Option Nat
  | .slice _, .slice none 0 0 => some 0
  | .pointer _, .pointer none => some 1
  | .func _ _ _, .nilFunc => some 2
  | .interface _, .nilIface => some 3
  | _, _ => none
theorem op_eqNil {op : BinOp} {neg : Bool} (hop : op = if neg then .neq else .eql) {t u : TypeId} {td : TypeDesc} {x : Operand} {x' : Opd} {v0 : Value} {kd : Nat} (ho : o.op = .binOp op t x (.const v0) u) (ht : P.underlying t = some td)
    (hk : nilKd td v0 = some kd) (hx : trOpd x = some x') (hT : TRel G tm a) (hR : Rel G w ob)
    (h : stepOp (.eqNil kd neg x') tm (oget ob) d e c K) : Out P o a w G ob d e K := by
  have r1 := trOpd_rel hT hx
  have fin : ∀ b, (∀ n, (Op.equalIn (n + 1) t (a.eval x) v0).run P w = .ok b w) → (eqGuard op t x (.const v0) (a.eval x) v0).run P w = .ok () w →
      (binOp .eql t (a.eval x) v0 = (do pure (.bool (← Op.equal t (a.eval x) v0)))) → (binOp .neq t (a.eval x) v0 = (do pure (.bool (!(← Op.equal t (a.eval x) v0))))) →
      K (.fv (.bool (if neg then !b else b))) none none none → Out P o a w G ob d e K := by
    intro b h1 hg h2 h3 hk
    refine out_quiet hR (v := .bool (if neg then !b else b)) ?_ (mk_bool G _) hk
    have h4 : (Op.equal t (a.eval x) v0).run P w = .ok b w := h1 9999
    have hev : a.eval (.const v0) = v0 := rfl
    cases neg
    · simp only [Bool.false_eq_true, if_false] at hop ⊢
      subst hop
      simp only [execOp, ho, hev, Sem.run_bind, hg, Result.andThen_ok, h2, h4, Sem.run_pure]
    · simp only [if_true] at hop ⊢
      subst hop
      simp only [execOp, ho, hev, Sem.run_bind, hg, Result.andThen_ok, h3, h4, Sem.run_pure]
  have hg0 : ∀ u1 u2 : Value, (∀ vs, u2 ≠ .agg vs) → (eqGuard op t x (.const v0) u1 u2).run P w = .ok () w := by
    intro u1 u2 hn
    subst hop
    unfold eqGuard
    cases neg <;> cases u1 <;> cases u2 <;> first | rfl | exact absurd rfl (hn _) | skip
    all_goals simp
  unfold nilKd at hk
  split at hk <;> cases hk <;> simp only [stepOp, eqNilP] at h <;> split at h <;> first | exact h.elim | (rename_i q1 q2; exact absurd q1 (by decide)) | skip
  all_goals (first | (rename_i hb; rw [hb] at r1) | (rename_i hb _; rw [hb] at r1))
  · obtain ⟨ad, cc, sz, b1, off, vs, hv, _, _, _, hnl, _⟩ := vr_sl r1
    have hb2 := hnl _ rfl
    subst hb2
    refine fin _ (fun n => ?_) (hg0 _ _ (by simp)) (by rw [hv]; rfl) (by rw [hv]; rfl) h
    rw [hv]
    cases ad <;> simp [Op.equalIn, run_underlying ht]
  · obtain ⟨ad, cc, sz, b1, off, vs, hv, _, _, _, _, _, had, _⟩ := vr_sl r1
    refine fin ad.isNone (fun n => ?_) (hg0 _ _ (by simp)) (by rw [hv]; rfl) (by rw [hv]; rfl) (h _ fun hb => ?_)
    · rw [hv]
      cases ad <;> simp [Op.equalIn, run_underlying ht]
    · refine Nat.eq_zero_of_not_pos fun h0 => ?_
      rw [had h0] at hb; cases hb
  · obtain ⟨ad, cc, hv, _, _, hle, _, _, ha⟩ := vr_ms r1
    refine fin ad.isNone (fun n => ?_) (hg0 _ _ (by simp)) (by rw [hv]; rfl) (by rw [hv]; rfl) (h _ fun hb => ?_)
    · rw [hv]
      cases ad <;> simp [Op.equalIn, run_underlying ht]
    · refine Nat.eq_zero_of_not_pos fun h0 => ?_
      rw [ha (by omega)] at hb; cases hb
  · have hv := vr_fv r1
    generalize a.eval x = v at hv fin hg0
    cases hv
    exact fin _ (fun n => by simp [Op.equalIn, run_underlying ht]) (hg0 _ _ (by simp)) rfl rfl h
  · obtain ⟨_, hv⟩ := vr_ptr r1
    rw [hv] at fin
    exact fin _ (fun n => by simp [Op.equalIn, run_underlying ht]) (hg0 _ _ (by simp)) rfl rfl h
  · obtain ⟨_, hv⟩ := vr_eptr r1
    rw [hv] at fin
    exact fin _ (fun n => by simp [Op.equalIn, run_underlying ht]) (hg0 _ _ (by simp)) rfl rfl h
  · obtain ⟨b, o1, vs, hv, _⟩ := vr_fptr r1
    rw [hv] at fin
    exact fin _ (fun n => by simp [Op.equalIn, run_underlying ht]) (hg0 _ _ (by simp)) rfl rfl h
  · have hv := vr_fv r1
    generalize a.eval x = v at hv fin hg0
    cases hv
    exact fin _ (fun n => by simp [Op.equalIn, run_underlying ht]) (hg0 _ _ (by simp)) rfl rfl h
  · have hv := vr_fv r1
    generalize a.eval x = v at hv fin hg0
    cases hv
    exact fin _ (fun n => by simp [Op.equalIn, run_underlying ht]) (hg0 _ _ (by simp)) rfl rfl h
  · generalize a.eval x = v at r1 fin hg0
    cases r1
    exact fin _ (fun n => by simp [Op.equalIn, run_underlying ht]) (hg0 _ _ (by simp)) rfl rfl h
  · have hv := vr_fv r1
    generalize a.eval x = v at hv fin hg0
    cases hv
    exact fin _ (fun n => by simp [Op.equalIn, run_underlying ht]) (hg0 _ _ (by simp)) rfl rfl h
  · have hv := vr_fv r1
    generalize a.eval x = v at hv fin hg0
    cases hv
    exact fin _ (fun n => by simp [Op.equalIn, run_underlying ht]) (hg0 _ _ (by simp)) rfl rfl h

def fieldKs (P : Program) : Nat → List Field → Option (List Nat)
  | _, [] => some []
  | j, f :: r => if f.name != "_" && f.offset == j then
      (match P.underlying f.type with
      | some (.int _) => (fieldKs P (j + 1) r).map (0 :: ·)
      | some .bool => (fieldKs P (j + 1) r).map (1 :: ·)
      | some .string => (fieldKs P (j + 1) r).map (2 :: ·)
      | _ => none) else none

theorem run_part1 {P : Program} {w : World} {t : TypeId} {d : TypeDesc} (ht : P.underlying t = some d) (hd : aggD d = false) {xs : Array Value} {j : Nat} (hj : j < xs.size) : (part t xs j).run P w = .ok (xs.getD j undef) w := by
  simp only [part, Sem.run_bind, run_isAgg ht, Result.andThen_ok, hd]
  simp [hj]

theorem run_eqFields {P : Program} {w : World} {G : Gh} {n : Nat} : ∀ (fs : List Field) (j : Nat) (ks : List Nat) (cs cs' : List AV) (b : Bool) (xs ys : Array Value), fieldKs P j fs = some ks → eqCells ks cs cs' = some b → xs.size = j + cs.length → ys.size = j + cs'.length →
    (∀ i, i < cs.length → VRel G (cs.getD i .junk) (xs.getD (j + i) undef)) → (∀ i, i < cs'.length → VRel G (cs'.getD i .junk) (ys.getD (j + i) undef)) → (Op.eqFields (n + 1) xs ys fs).run P w = .ok b w
  | [], j, ks, cs, cs', b, xs, ys, hf, he, hx, hy, hr, hr' => by
    simp [fieldKs] at hf
    subst hf
    cases cs with
    | nil =>
      cases cs' with
      | nil => simp [eqCells] at he; subst he; simp [Op.eqFields]
      | cons => simp [eqCells] at he
    | cons => simp [eqCells] at he
  | f :: fs, j, ks, cs, cs', b, xs, ys, hf, he, hx, hy, hr, hr' => by
    simp only [fieldKs] at hf
    split at hf
    · rename_i hc
      simp only [Bool.and_eq_true, bne_iff_ne, ne_eq, beq_iff_eq] at hc
      obtain ⟨hname, hoff⟩ := hc
      have go : ∀ (d : TypeDesc) (ks2 : List Nat) (c c' : AV) (r r' : List AV) (e b1 : Bool), P.underlying f.type = some d → aggD d = false → fieldKs P (j + 1) fs = some ks2 → eqCells ks2 r r' = some e → cs = c :: r → cs' = c' :: r' →
          (VRel G c (xs.getD j undef) → VRel G c' (ys.getD j undef) → (Op.equalIn (n + 1) f.type (xs.getD j undef) (ys.getD j undef)).run P w = .ok b1 w) → (Op.eqFields (n + 1) xs ys (f :: fs)).run P w = .ok (b1 && e) w := by
        intro d ks2 c c' r r' e b1 hd ha hk he2 hcs hcs' h1
        clear he
        subst hcs
        subst hcs'
        simp only [List.length_cons] at hx hy
        have h0 := hr 0 (by simp)
        have h0' := hr' 0 (by simp)
        simp only [List.getD_cons_zero, Nat.add_zero] at h0 h0'
        have ih := run_eqFields (w := w) (n := n) fs (j + 1) ks2 r r' e xs ys hk he2 (by omega) (by omega) (fun i hi => by have := hr (i + 1) (by simpa using hi); rw [show j + (i + 1) = j + 1 + i by omega] at this; simpa using this)
          (fun i hi => by have := hr' (i + 1) (by simpa using hi); rw [show j + (i + 1) = j + 1 + i by omega] at this; simpa using this)
        simp only [Op.eqFields, ne_eq, hname, not_false_eq_true, if_true, Sem.run_bind, hoff, run_part1 hd ha (show j < xs.size by omega), run_part1 hd ha (show j < ys.size by omega), Result.andThen_ok, h1 h0 h0']
        cases b1
        · simp
        · simpa using ih
      split at hf
      · rename_i k0 hu
        obtain ⟨ks2, hk, rfl⟩ := Option.map_eq_some_iff.1 hf
        unfold eqCells at he
        split at he <;> first | (rename_i h1; cases h1; done) | skip
        · rename_i ks3 k a r k' b1 r' hks
          cases hks
          split at he
          · rename_i hkk
            subst hkk
            simp only [Option.map_eq_some_iff] at he
            obtain ⟨e, he, rfl⟩ := he
            exact go _ _ _ _ _ _ e _ hu rfl hk he rfl rfl (fun h0 h0' => by rw [vr_int h0, vr_int h0']; exact run_equalIn_int w n f.type k _ a b1 hu)
          · cases he
        all_goals first | cases he | (simp_all; done) | skip
      · rename_i hu
        obtain ⟨ks2, hk, rfl⟩ := Option.map_eq_some_iff.1 hf
        unfold eqCells at he
        split at he <;> first | (rename_i h1; cases h1; done) | skip
        · rename_i ks3 a r b1 r' hks
          cases hks
          simp only [Option.map_eq_some_iff] at he
          obtain ⟨e, he, rfl⟩ := he
          exact go _ _ _ _ _ _ e _ hu rfl hk he rfl rfl (fun h0 h0' => by rw [vr_bool h0, vr_bool h0']; exact run_equalIn_bool' w n f.type a b1 hu)
        all_goals first | cases he | (simp_all; done) | skip
      · rename_i hu
        obtain ⟨ks2, hk, rfl⟩ := Option.map_eq_some_iff.1 hf
        unfold eqCells at he
        split at he <;> first | (rename_i h1; cases h1; done) | skip
        · rename_i ks3 a r b1 r' hks
          cases hks
          simp only [Option.map_eq_some_iff] at he
          obtain ⟨e, he, rfl⟩ := he
          exact go _ _ _ _ _ _ e _ hu rfl hk he rfl rfl (fun h0 h0' => by rw [vr_str h0, vr_str h0']; exact run_equalIn_string w n f.type a b1 hu)
        all_goals first | cases he | (simp_all; done) | skip
      · cases hf
    · cases hf

theorem op_eqAgg {op : BinOp} {neg : Bool} (hop : op = if neg then .neq else .eql) {t u : TypeId} {x y : Operand} {x' y' : Opd} {ks : List Nat} (ho : o.op = .binOp op t x y u) (ht : P.underlying t = some (.struct (P.fieldsOf t))) (hk : fieldKs P 0 (P.fieldsOf t).toList = some ks)
    (hs : P.stoodInHeld t = false) (hg : P.eqGuardType P.depth t = false) (hx : trOpd x = some x') (hy : trOpd y = some y') (hT : TRel G tm a) (hR : Rel G w ob)
    (h : stepOp (.eqAgg neg ks x' y') tm (oget ob) d e c K) : Out P o a w G ob d e K := by
  have r1 := trOpd_rel hT hx
  have r2 := trOpd_rel hT hy
  simp only [stepOp, eqAggP] at h
  split at h
  · rename_i cs cs' hb hb'
    rw [hb] at r1
    rw [hb'] at r2
    split at h
    · rename_i b hc
      obtain ⟨xs, h1, h2, h3⟩ := vr_agg r1
      obtain ⟨ys, k1, k2, k3⟩ := vr_agg r2
      have hrun : (Op.equalIn 10000 t (.agg xs) (.agg ys)).run P w = .ok b w := by
        rw [show (10000 : Nat) = 9999 + 1 from rfl, run_equalIn_struct w 9999 t xs ys ht hs]
        exact run_eqFields (n := 9998) _ 0 ks cs cs' b xs ys hk hc (by omega) (by omega) (fun i hi => by rw [Nat.zero_add]; exact h3 i hi) (fun i hi => by rw [Nat.zero_add]; exact k3 i hi)
      refine out_quiet hR (v := .bool (if neg then !b else b)) ?_ (mk_bool G _) h
      cases neg
      · simp only [Bool.false_eq_true, if_false] at hop ⊢
        subst hop
        simp only [execOp, ho, h1, k1, Sem.run_bind, run_eqGuard_agg w _ t x y xs ys hg, Result.andThen_ok, run_eql_struct, hrun, Sem.run_pure]
      · simp only [if_true] at hop ⊢
        subst hop
        simp only [execOp, ho, h1, k1, Sem.run_bind, run_eqGuard_agg w _ t x y xs ys hg, Result.andThen_ok, run_neq_struct, hrun, Sem.run_pure]
    · exact h.elim
  · exact h.elim
end
end Go.Proofs.RL
