/- Regions in the order of their text. Conditions: none. -/
import Derived.Test.YthefjfcphgiggaaRlO
set_option linter.unusedVariables false
set_option linter.unusedSimpArgs false
namespace Go.Proofs.RL

def fc (l : Option Nat) : Fence := { Fence.wide with round := l }
theorem fc_room (l : Option Nat) (n : Nat) : (fc l).room n := fun _ h => by simp [fc, Fence.wide] at h
theorem callsIn_fc {l : Option Nat} {n : Nat} {P : Program} {f : FuncId} {args : Array Value} {w : World} {R : Ending → World → Prop} (h : Calls P f args w R) : CallsIn (fc l) n P f args w R :=
  (callsIn_wide (n := n)).2 h
theorem roundIn_fc {l : Option Nat} {n : Nat} {P : Program} {r : Nat} {f : FuncId} {tmps : Array Value} {asg body : Code} {w : World} {R : Ending → World → Prop} (h : RoundIn Fence.wide n P r f tmps asg body w R) : RoundIn (fc l) n P r f tmps asg body w R := h

/-- The deferred calls of a frame: the marks of its ranges over functions, laid since the frame was entered. -/
def DOK (lim : Nat) (ds : List Deferred) (G : Gh) (w : World) (ob : Ob) : Prop :=
  lim ≤ w.heap.size ∧ ∃ Ds : List Nat, ds = Ds.map (fun D => { target := .collected D, args := #[] }) ∧ Ds.Nodup ∧ ∀ D ∈ Ds, lim ≤ D ∧ w.heap[D]? = some (.deferred (some [])) ∧ ¬ Own G ob D
theorem DOK.fr {lim : Nat} {ds : List Deferred} {G G' : Gh} {w w' : World} {ob ob' : Ob} (h : DOK lim ds G w ob) (hf : Fr G w ob G' w' ob') : DOK lim ds G' w' ob' := by
  obtain ⟨hl, Ds, h1, hn, h2⟩ := h
  refine ⟨Nat.le_trans hl hf.size, Ds, h1, hn, fun D hD => ?_⟩
  obtain ⟨h0, h3, h4⟩ := h2 D hD
  have hlt := (Array.getElem?_eq_some_iff.1 h3).1
  exact ⟨h0, (hf.heap D hlt h4).trans h3, fun ho => h4 (hf.own D ho hlt)⟩

structure St (nt lim : Nat) (G : Gh) (a : Act) (w : World) (tm : Tm) (ob : Ob) : Prop where
  size : a.tmps.size = nt
  tm : TRel G tm a
  rel : Rel G w ob
  dok : DOK lim a.defers G w ob

theorem fresh {G : Gh} {w : World} {ob : Ob} (h : Rel G w ob) : ∃ N, ¬ G.dom N := by
  obtain ⟨N, hN⟩ := h.fin
  exact ⟨N, fun h => Nat.lt_irrefl _ (hN N h)⟩

def strip : AI → Option AI
  | .op d g _ o => some (.op d g false o)
  | .call d g f args => some (.call d g f args)
  | .gh _ => none

def trDst (nt : Nat) : Option Nat → Option (Option Nat)
  | none => some none
  | some d => if d < nt then some (some d) else none
def trGuard (ops : Array Oper) : Option (Nat × Bool) → Option (Option (Nat × Bool))
  | none => some none
  | some (j, b) => ((ops[j]?).bind (·.dst)).map fun t => some (t, b)
def trOper (P : Program) (nt : Nat) (ops : Array Oper) (o : Oper) : Option AI :=
  (trDst nt o.dst).bind fun d => (trGuard ops o.guard).bind fun g =>
    match o.op with
    | .call { callee := .value f, args, .. } => (trOpd f).bind fun f' => (args.toList.mapM trOpd).map fun as => .call d g f' as
    | .select .. => none
    | op => some (.op d g false ((trOp P op).getD .never))

section
variable {P : Program} {Y : YT} {nt kb lim : Nat} {l : Option Nat} {m : Nat} {ops : Array Oper}

theorem mapM_opd {G : Gh} {tm : Tm} {a : Act} (hT : TRel G tm a) : ∀ {xs : List Operand} {ys : List Opd}, xs.mapM trOpd = some ys → ys.length = xs.length ∧ ∀ i, i < ys.length → VRel G ((ys.map (·.ev tm)).getD i .junk) ((xs.map a.eval).getD i undef)
  | [], ys, h => by simp at h; subst h; simp
  | x :: xs, ys, h => by
    simp only [List.mapM_cons, Option.bind_eq_bind, Option.pure_def, Option.bind_eq_some_iff] at h
    obtain ⟨y, hy, r, hr, h⟩ := h
    cases h
    obtain ⟨h1, h2⟩ := mapM_opd hT hr
    refine ⟨by simp [h1], fun i hi => ?_⟩
    cases i with
    | zero => exact trOpd_rel hT hy
    | succ i => simpa using h2 i (by simpa using hi)

/-- A guard is wanted, or not, as the abstract state says. -/
theorem guard_spec {G : Gh} {tm : Tm} {a : Act} (hT : TRel G tm a) {o : Oper} {g : Option (Nat × Bool)} (hg : trGuard ops o.guard = some g) (hs : ∀ t b, g = some (t, b) → t < a.tmps.size) {X S : Prop} (h : guardP g tm X S) :
    (Region.wanted o (yielded ops a.tmps) = true ∧ X) ∨ (Region.wanted o (yielded ops a.tmps) = false ∧ S) := by
  cases hgd : o.guard with
  | none =>
    rw [hgd] at hg
    cases hg
    exact .inl ⟨by simp [Region.wanted, hgd], h⟩
  | some jb =>
    obtain ⟨j, b⟩ := jb
    rw [hgd] at hg
    simp only [trGuard, Option.map_eq_some_iff] at hg
    obtain ⟨t, ht, rfl⟩ := hg
    simp only [guardP] at h
    split at h
    · rename_i b' hb
      have h1 := hT t
      rw [hb] at h1
      have h2 := vr_bool h1
      have hlt := hs t b rfl
      have h3 : yielded ops a.tmps j = some b' := by
        simp only [yielded, ht, Option.bind_some]
        rw [getD_arr a.tmps t hlt, h2]
      by_cases hbb : b' = b
      · exact .inl ⟨by simp [Region.wanted, hgd, h3, hbb], h.1 hbb⟩
      · exact .inr ⟨by simp [Region.wanted, hgd, h3, hbb], h.2 hbb⟩
    · exact h.elim

theorem st_put {G G' : Gh} {a : Act} {w w' : World} {tm : Tm} {ob ob' : Ob} (h : St nt lim G a w tm ob) (hf : Fr G w ob G' w' ob') (hR : Rel G' w' ob') {d : Option Nat} (hd : ∀ t, d = some t → t < nt) {x : AV} {v : Value} (hx : VRel G' x v) :
    St nt lim G' (a.put d v) w' (putD d x tm) ob' := by
  cases d with
  | none => exact ⟨h.size, h.tm.mono hf.le, hR, h.dok.fr hf⟩
  | some t => exact ⟨by simp [Act.put, h.size], (h.tm.mono hf.le).put (by rw [h.size]; exact hd t rfl) hx, hR, h.dok.fr hf⟩
theorem st_skip {G : Gh} {a : Act} {w : World} {tm : Tm} {ob : Ob} (h : St nt lim G a w tm ob) {d : Option Nat} (hd : ∀ t, d = some t → t < nt) : St nt lim G (a.put d undef) w (skipD d tm) ob := by
  cases d with
  | none => exact h
  | some t =>
    refine ⟨by simp [Act.put, h.size], fun j => ?_, h.rel, h.dok⟩
    have := h.tm.put (v := undef) (by rw [h.size]; exact hd t rfl : t < a.tmps.size) (VRel.junk undef) j
    simp only [skipD, tget_tdel]
    rw [tget_tput] at this
    exact this

/-- One operation of a region, wanted, at whatever place. -/
theorem oper_sound {o : Oper} {it : AI} (htr : trOper P nt ops o = some it) {G : Gh} {a ac : Act} (hac : execOp ac.eval o = execOp a.eval o) {w : World} {tm : Tm} {ob : Ob} (hst : St nt lim G a w tm ob) (hY : YOK P Y G) {tk : Bool} {K : Tm → Ob → Prop} {next : Act → World → Prop} {Q : Exit → Act → World → Prop}
    (hx : match it with
      | .op d g _ ao => ∀ e q : Nat, stepOp ao tm (oget ob) (keyOf kb d) e (if tk then some q else none) fun v upd new del => K (putD d v tm) (obAfter ob (keyOf kb d) e upd new del)
      | .call d g f args => callP P Y (f.ev tm) (args.map (·.ev tm)) ob fun v ob' => K (putD d v tm) ob'
      | .gh _ => False)
    (hK : ∀ G' v w' tm' ob', K tm' ob' → St nt lim G' (a.put o.dst v) w' tm' ob' → Fr G w ob G' w' ob' → YOK P Y G' → next (ac.put o.dst v) w') :
    o.wpIn (fc l) m P ac w next Q := by
  refine ⟨fun _ _ => trivial, ?_⟩
  simp only [trOper, Option.bind_eq_some_iff] at htr
  obtain ⟨d, hd, g, hg, htr⟩ := htr
  have hdd : o.dst = d ∧ ∀ t, d = some t → t < nt := by
    cases hod : o.dst with
    | none => rw [hod] at hd; cases hd; exact ⟨rfl, by simp⟩
    | some t =>
      rw [hod] at hd
      simp only [trDst] at hd
      split at hd
      · rename_i hlt; cases hd; exact ⟨rfl, fun t' h => by cases h; exact hlt⟩
      · cases hd
  have plain : ∀ ao, trOp P o.op = some ao → it = .op d g false ao → o.uponIn (fc l) m P ac next Q ((o.semAt (fc l).round ac.eval).run P w) := by
    intro ao hao hit
    subst hit
    simp only [] at hx
    obtain ⟨N, hN⟩ := fresh hst.rel
    obtain ⟨x, upd, new, del, nx, v, w', G', hrun, hnx, hk, hv, hR', hF', _⟩ := step_sound hao hN hst.tm hst.rel (fun q => hx N q)
    have hsem : o.semAt (fc l).round ac.eval = execOp a.eval o := (Oper.semAt_eq _ _ _ (fun c hc => by rw [hc] at hao; simp [trOp] at hao)).trans hac
    rw [hsem, hrun]
    have hst' := st_put hst hF' hR' hdd.2 hv
    have := hK G' v w' _ _ hk (by rw [hdd.1]; exact hst') hF' (hY.mono hF'.le)
    rcases hnx with rfl | ⟨rfl, rfl⟩
    · exact this
    · exact this
  split at htr
  · rename_i f args ts hop
    simp only [Option.bind_eq_some_iff, Option.map_eq_some_iff] at htr
    obtain ⟨f', hf, as, has, rfl⟩ := htr
    simp only [] at hx
    have hsem : o.semAt (fc l).round ac.eval = execOp a.eval o := (Oper.semAt_eq _ _ _ (fun c hc => by rw [hc] at hop; cases hop)).trans hac
    have rf := trOpd_rel hst.tm hf
    obtain ⟨hal, har⟩ := mapM_opd hst.tm has
    have hargs : (args.map a.eval).size = (as.map (·.ev tm)).length ∧ ∀ i, i < (as.map (·.ev tm)).length → VRel G ((as.map (·.ev tm)).getD i .junk) ((args.map a.eval).getD i undef) := by
      refine ⟨by simp [hal], fun i hi => ?_⟩
      rw [← list_getD (args.map a.eval), Array.toList_map]
      exact har i (by simpa using hi)
    generalize hfv : f'.ev tm = fv at hx rf
    by_cases hy : ∃ k e, fv = .yld k e
    · obtain ⟨k, e, rfl⟩ := hy
      simp only [callP] at hx
      generalize hev : a.eval f = v at rf
      cases rf with
      | yld _ _ hd' =>
        obtain ⟨fn, tmps, asg, body, hrun, hround⟩ := hY _ _ _ _ hx G w (args.map a.eval) (.refl G) hst.rel hargs.1 hargs.2
        have hr : (execOp a.eval o).run P w = .ok (.round (G.ρ e).1 fn tmps asg body) w := by
          simp [execOp, hop, resolve, hev, Deferred.ofValue, invoke, hrun]
        rw [hsem, hr]
        refine ⟨fun h => by simp [fc, Fence.wide] at h, roundIn_fc ((hround (m - 1)).mono fun e' w' h => ?_)⟩
        cases e' with
        | returned v =>
          obtain ⟨G', r, ob', hk, hv, hR', hF'⟩ := h
          have := hK G' v w' _ _ hk (by rw [hdd.1]; exact st_put hst hF' hR' hdd.2 hv) hF' (hY.mono hF'.le)
          exact this
        | panicked c => exact h.elim
        | outgrown => exact h.elim
    · have hx' : match callTo fv with
          | some (fn, first, caps) => FnA P Y fn (first ++ as.map (·.ev tm) ++ caps) ob fun v ob' => K (putD d v tm) ob'
          | none => False := by
        cases fv <;> first | exact hx | exact (hy ⟨_, _, rfl⟩).elim
      clear hx
      revert hx'
      intro hx
      split at hx
      · rename_i fn first caps hct
        obtain ⟨⟨func, hf1, hf2, hf3⟩, hcall⟩ := hx
        have hval : ∃ vf vc : Array Value, a.eval f = .func (.func fn) vf vc ∧ vf.size = first.length ∧ vc.size = caps.length ∧ (∀ i, i < first.length → VRel G (first.getD i .junk) (vf.getD i undef)) ∧ (∀ i, i < caps.length → VRel G (caps.getD i .junk) (vc.getD i undef)) := by
          generalize a.eval f = v at rf
          cases fv <;> simp only [callTo] at hct <;> try (cases hct; done)
          · rename_i y
            cases y <;> simp only [] at hct <;> try (cases hct; done)
            cases hct
            have := vr_fv rf
            cases this
            exact ⟨#[], #[], rfl, rfl, rfl, by simp, by simp⟩
          · cases hct
            cases rf with
            | clo _ _ _ vf vc h1 h2 h3 h4 => exact ⟨vf, vc, rfl, h1, h2, h3, h4⟩
        obtain ⟨vf, vc, hv, hl1, hl2, hr1, hr2⟩ := hval
        have hr : (execOp a.eval o).run P w = .ok (.enter fn (vf ++ args.map a.eval ++ vc)) w := by
          have : ¬ (func.name = "runtime.NumGoroutine") := by simpa using hf2
          have hbn : func.body ≠ none := by intro hn; rw [hn] at hf3; cases hf3
          simp [execOp, hop, resolve, hv, Deferred.ofValue, invoke, callFunc, hf1, this, hbn]
        rw [hsem, hr]
        refine ⟨fun h => by simp [fc, Fence.wide] at h, callsIn_fc ?_⟩
        refine (hcall G w (vf ++ args.map a.eval ++ vc) hY hst.rel ?_ ?_).mono fun e' w' h => ?_
        · simp only [Array.size_append, List.length_append, hl1, hl2, hargs.1]
        · intro i hi
          simp only [List.length_append] at hi
          have g1 : (vf ++ args.map a.eval ++ vc).getD i undef = (vf.toList ++ (args.map a.eval).toList ++ vc.toList).getD i undef := by
            rw [← list_getD (vf ++ args.map a.eval ++ vc)]; simp only [Array.toList_append]
          have l1 : vf.toList.length = first.length := by simpa using hl1
          have l2 : (args.map a.eval).toList.length = (as.map (·.ev tm)).length := by rw [Array.length_toList]; exact hargs.1
          rw [g1]
          have hi2 : i < first.length + (as.map (·.ev tm)).length + caps.length := hi
          by_cases c1 : i < first.length + (as.map (·.ev tm)).length
          · rw [getD_append_left (vf.toList ++ _) _ _ _ (by rw [List.length_append, l1, l2]; exact c1), getD_append_left (first ++ _) _ _ _ (by rw [List.length_append]; exact c1)]
            by_cases c2 : i < first.length
            · rw [getD_append_left vf.toList _ _ _ (by rw [l1]; exact c2), getD_append_left first _ _ _ c2, list_getD vf]; exact hr1 i c2
            · rw [getD_append_right vf.toList _ _ _ (by omega), getD_append_right first _ _ _ (by omega), l1, list_getD (args.map a.eval)]; exact hargs.2 _ (by omega)
          · rw [getD_append_right (vf.toList ++ _) _ _ _ (by rw [List.length_append]; omega), getD_append_right (first ++ _) _ _ _ (by rw [List.length_append]; omega), List.length_append, List.length_append, l1, l2, list_getD vc]
            exact hr2 _ (by omega)
        · cases e' with
          | returned v =>
            obtain ⟨G', r, ob', hk, hv, hR', hF'⟩ := h
            have := hK G' v w' _ _ hk (by rw [hdd.1]; exact st_put hst hF' hR' hdd.2 hv) hF' (hY.mono hF'.le)
            exact this
          | panicked c => exact h.elim
          | outgrown => exact h.elim
      · exact hx.elim
  · cases htr
  · rename_i op hne hne2
    cases htr
    cases hao : trOp P o.op with
    | some ao => exact plain ao hao (by rw [hao]; rfl)
    | none =>
      have h0 : stepOp ((trOp P o.op).getD .never) tm (oget ob) (keyOf kb d) 0 (if tk then some 0 else none) (fun v upd new del => K (putD d v tm) (obAfter ob (keyOf kb d) 0 upd new del)) := hx 0 0
      rw [hao] at h0
      exact h0.elim

/-- A region in the order of its text. -/
theorem ops_sound (hnt : ∀ o ∈ ops.toList, ∀ t b, trGuard ops o.guard = some (some (t, b)) → t < nt) {Q : Exit → Act → World → Prop} : ∀ (L : List AI) (os : List Oper) (i : Nat) (G : Gh) (a : Act) (w : World) (tm : Tm) (ob : Ob) (K : Tm → Ob → Prop), ops.toList.drop i = os → os.mapM (trOper P nt ops) = some (L.filterMap strip) →
    awpOps P Y kb L K tm ob → St nt lim G a w tm ob → YOK P Y G → (∀ G' a' w' tm' ob', K tm' ob' → St nt lim G' a' w' tm' ob' → Fr G w ob G' w' ob' → YOK P Y G' → Q .normal a' w') → wpOpsIn (fc l) m P ops Q (List.range' i os.length) a w
  | [], os, i, G, a, w, tm, ob, K, hos, htr, h, hst, hY, hK => by
    cases os with
    | nil => exact hK G a w tm ob h hst (.refl ..) hY
    | cons o os =>
      simp only [List.filterMap_nil, List.mapM_cons, Option.bind_eq_bind, Option.pure_def, Option.bind_eq_some_iff] at htr
      obtain ⟨_, _, _, _, h⟩ := htr
      cases h
  | .gh g :: L, os, i, G, a, w, tm, ob, K, hos, htr, h, hst, hY, hK => by
    simp only [awpOps] at h
    obtain ⟨G', tm', ob', hk, hT', hR', hF'⟩ := ghost_sound hst.tm hst.rel h
    exact ops_sound hnt L os i G' a w tm' ob' K hos (by rw [htr, List.filterMap_cons_none (by rfl)]) hk ⟨hst.size, hT', hR', hst.dok.fr hF'⟩ (hY.mono hF'.le) (fun G2 a2 w2 tm2 ob2 h1 h2 h3 h4 => hK G2 a2 w2 tm2 ob2 h1 h2 (hF'.trans h3) h4)
  | .op d g tk o :: L, os, i, G, a, w, tm, ob, K, hos, htr, h, hst, hY, hK => by
    cases os with
    | nil => simp [strip] at htr
    | cons oo os =>
      simp only [List.filterMap_cons, strip, List.mapM_cons, Option.bind_eq_bind, Option.pure_def, Option.bind_eq_some_iff] at htr
      obtain ⟨it, hit, r, hr, h2⟩ := htr
      cases h2
      have hget : ops[i]? = some oo := by
        have := congrArg (·[0]?) hos
        simpa [List.getElem?_drop] using this
      have hmem : oo ∈ ops.toList := by
        have := List.mem_of_mem_drop (i := i) (l := ops.toList) (a := oo) (by rw [hos]; simp)
        exact this
      have hos' : ops.toList.drop (i + 1) = os := by
        rw [← List.drop_drop, hos]; rfl
      have hdg : trDst nt oo.dst = some d ∧ trGuard ops oo.guard = some g := by
        simp only [trOper, Option.bind_eq_some_iff] at hit
        obtain ⟨d', hd', g', hg', hit⟩ := hit
        split at hit
        · simp only [Option.bind_eq_some_iff, Option.map_eq_some_iff] at hit; obtain ⟨_, _, _, _, hh⟩ := hit; cases hh
        · cases hit
        · cases hit; exact ⟨hd', hg'⟩
      have hdd : oo.dst = d ∧ ∀ t, d = some t → t < nt := by
        cases hod : oo.dst with
        | none => have := hdg.1; rw [hod] at this; cases this; exact ⟨rfl, by simp⟩
        | some t =>
          have := hdg.1
          rw [hod] at this
          simp only [trDst] at this
          split at this
          · rename_i hlt; cases this; exact ⟨rfl, fun t' h => by cases h; exact hlt⟩
          · cases this
      simp only [awpOps] at h
      simp only [List.length_cons, List.range'_succ, wpOpsIn, hget]
      rcases guard_spec hst.tm hdg.2 (fun t b hgb => by rw [hst.size]; exact hnt oo hmem t b (by rw [hdg.2, hgb])) h with ⟨hw, hx⟩ | ⟨hw, hs⟩
      · rw [if_pos hw]
        refine oper_sound (kb := kb) (tk := tk) hit rfl hst hY (K := fun tm' ob' => awpOps P Y kb L K tm' ob') (by simpa using hx) fun G' v w' tm' ob' hk hst' hF' hY' => ?_
        exact ops_sound hnt L os (i + 1) G' _ w' tm' ob' K hos' hr hk hst' hY' (fun G2 a2 w2 tm2 ob2 h1 h2 h3 h4 => hK G2 a2 w2 tm2 ob2 h1 h2 (hF'.trans h3) h4)
      · rw [if_neg (by rw [hw]; simp)]
        refine ⟨fun _ _ => trivial, ?_⟩
        rw [hdd.1]
        exact ops_sound hnt L os (i + 1) G _ w _ ob K hos' hr hs (st_skip hst hdd.2) hY hK
  | .call d g f args :: L, os, i, G, a, w, tm, ob, K, hos, htr, h, hst, hY, hK => by
    cases os with
    | nil => simp [strip] at htr
    | cons oo os =>
      simp only [List.filterMap_cons, strip, List.mapM_cons, Option.bind_eq_bind, Option.pure_def, Option.bind_eq_some_iff] at htr
      obtain ⟨it, hit, r, hr, h2⟩ := htr
      cases h2
      have hget : ops[i]? = some oo := by
        have := congrArg (·[0]?) hos
        simpa [List.getElem?_drop] using this
      have hmem : oo ∈ ops.toList := by
        have := List.mem_of_mem_drop (i := i) (l := ops.toList) (a := oo) (by rw [hos]; simp)
        exact this
      have hos' : ops.toList.drop (i + 1) = os := by
        rw [← List.drop_drop, hos]; rfl
      have hdg : trDst nt oo.dst = some d ∧ trGuard ops oo.guard = some g := by
        simp only [trOper, Option.bind_eq_some_iff] at hit
        obtain ⟨d', hd', g', hg', hit⟩ := hit
        split at hit
        · simp only [Option.bind_eq_some_iff, Option.map_eq_some_iff] at hit; obtain ⟨_, _, _, _, hh⟩ := hit; cases hh; exact ⟨hd', hg'⟩
        · cases hit
        · cases hit
      have hdd : oo.dst = d ∧ ∀ t, d = some t → t < nt := by
        cases hod : oo.dst with
        | none => have := hdg.1; rw [hod] at this; cases this; exact ⟨rfl, by simp⟩
        | some t =>
          have := hdg.1
          rw [hod] at this
          simp only [trDst] at this
          split at this
          · rename_i hlt; cases this; exact ⟨rfl, fun t' h => by cases h; exact hlt⟩
          · cases this
      simp only [awpOps] at h
      simp only [List.length_cons, List.range'_succ, wpOpsIn, hget]
      rcases guard_spec hst.tm hdg.2 (fun t b hgb => by rw [hst.size]; exact hnt oo hmem t b (by rw [hdg.2, hgb])) h with ⟨hw, hx⟩ | ⟨hw, hs⟩
      · rw [if_pos hw]
        refine oper_sound (kb := kb) (tk := false) hit rfl hst hY (K := fun tm' ob' => awpOps P Y kb L K tm' ob') (by simpa using hx) fun G' v w' tm' ob' hk hst' hF' hY' => ?_
        exact ops_sound hnt L os (i + 1) G' _ w' tm' ob' K hos' hr hk hst' hY' (fun G2 a2 w2 tm2 ob2 h1 h2 h3 h4 => hK G2 a2 w2 tm2 ob2 h1 h2 (hF'.trans h3) h4)
      · rw [if_neg (by rw [hw]; simp)]
        refine ⟨fun _ _ => trivial, ?_⟩
        rw [hdd.1]
        exact ops_sound hnt L os (i + 1) G _ w _ ob K hos' hr hs (st_skip hst hdd.2) hY hK
end
end Go.Proofs.RL
