/- Code: its weakest precondition upon abstract states, and what that says of the model's. Conditions: none. -/
import Derived.Test.YthefjfcphgiggaaRlT
import Derived.RangeFuncIn
set_option linter.unusedVariables false
set_option linter.unusedSimpArgs false
namespace Go.Proofs.RL

inductive AC where
  | skip
  | region (ops : List AI)
  | draw (t : DT)
  | seq (a b : AC)
  | cond (c : Opd) (x y : AC)
  | block (id : Nat) (b : AC)
  | loop (b : AC)
  | exit (id : Nat)
  | ret
  | gh (g : Gst) (c : AC)
  | rangeF (k : Nat) (f : Opd) (ps : List Nat) (x y : AC)
  deriving Inhabited

def AC.erase : AC → AC
  | .region ops => .region (ops.filterMap strip)
  | .seq a b => .seq a.erase b.erase
  | .cond c x y => .cond c x.erase y.erase
  | .block id b => .block id b.erase
  | .loop b => .loop b.erase
  | .gh _ c => c.erase
  | .rangeF _ f ps x y => .rangeF 0 f ps x.erase y.erase
  | c => c

def trCodeR (P : Program) (nt : Nat) (rf : Bool) : Code → Option AC
  | .skip => some .skip
  | .region _ ops false => (ops.toList.mapM (trOper P nt ops)).map .region
  | .region _ ops true => (ops.toList.mapM (trOper P nt ops)).bind fun its => if drawOK ops its (befList ops.toList []) then some (.draw (mkDT ops its (befList ops.toList []) (ops.size + 1) [])) else none
  | .seq a b => (trCodeR P nt rf a).bind fun a => (trCodeR P nt rf b).map fun b => .seq a b
  | .cond c x y => (trOpd c).bind fun c => (trCodeR P nt rf x).bind fun x => (trCodeR P nt rf y).map fun y => .cond c x y
  | .block id b => (trCodeR P nt rf b).map fun b => .block id b
  | .loop b => (trCodeR P nt rf b).map .loop
  | .exit id => some (.exit id)
  | .ret => some .ret
  | .rangeFunc f ps x y => if rf && ps.toList.all (· < nt) then (trOpd f).bind fun f => (trCodeR P nt false x).bind fun x => (trCodeR P nt false y).map fun y => .rangeF 0 f ps.toList x y else none
  | _ => none
abbrev trCode (P : Program) (nt : Nat) (c : Code) : Option AC := trCodeR P nt true c

def tputs : Tm → List Nat → List AV → Tm
  | tm, p :: ps, a :: as => tputs (tput tm p a) ps as
  | tm, _, _ => tm
def AEx.code : AEx → Code
  | .exit id => .exit id
  | .ret => .ret
  | .normal => .skip
def busyL (r : Loop) : Loop := { r with state := .busy }
def doneL (r : Loop) (e : AEx) : Loop := { r with state := .done, pending := some e.code }
def addY (Y : YT) (el : Nat) (R : List AV → Ob → (AV → Ob → Prop) → Prop) : YT := fun l as ob K => (l = el ∧ R as ob K) ∨ (l ≠ el ∧ Y l as ob K)
/-- The end of a round's body. -/
def rndB (kl el : Nat) (r : Loop) (K0 : AV → Ob → Prop) : AEx → Tm → Ob → Prop
  | .normal => fun _ ob => oget ob kl = some (el, .lp (busyL r)) ∧ K0 (.fv (.bool true)) (oset ob kl el (.lp r))
  | .exit id => fun _ ob => oget ob kl = some (el, .lp (busyL r)) ∧ K0 (.fv (.bool false)) (oset ob kl el (.lp (doneL r (.exit id))))
  | .ret => fun _ ob => oget ob kl = some (el, .lp (busyL r)) ∧ K0 (.fv (.bool false)) (oset ob kl el (.lp (doneL r .ret)))
/-- Behind the assignments to a round's left sides. -/
def rndA (kl el : Nat) (r : Loop) (B : Tm → Ob → Prop) : AEx → Tm → Ob → Prop
  | .normal => fun tm ob => oget ob kl = some (el, .lp r) ∧ B tm (oset ob kl el (.lp (busyL r)))
  | _ => fun _ _ => False
def endF (kl el : Nat) (r : Loop) (tm : Tm) (K : AEx → Tm → Ob → Prop) : AV → Ob → Prop := fun _ ob =>
  (oget ob kl = some (el, .lp r) ∧ K .normal tm (odel ob kl)) ∨ ∃ e : AEx, e ≠ .normal ∧ oget ob kl = some (el, .lp (doneL r e)) ∧ K e tm (odel ob kl)

def AEx.to : AEx → Exit
  | .normal => .normal
  | .exit id => .exit id
  | .ret => .ret

def seqK (K' : Tm → Ob → Prop) (K : AEx → Tm → Ob → Prop) : AEx → Tm → Ob → Prop
  | .normal => K'
  | e => K e
def blkK (id : Nat) (K : AEx → Tm → Ob → Prop) : AEx → Tm → Ob → Prop
  | .exit i => if i = id then K .normal else K (.exit i)
  | e => K e
def loopK (I : Nat → Tm → Ob → Prop) (n : Nat) (K : AEx → Tm → Ob → Prop) : AEx → Tm → Ob → Prop
  | .normal => fun tm ob => ∃ n', n' < n ∧ I n' tm ob
  | e => K e
def condP (v : AV) (X Y : Prop) : Prop :=
  match v with
  | .fv (.bool b) => (b = true → X) ∧ (b = false → Y)
  | _ => False

def awp (P : Program) (Y : YT) (kb : Nat) : AC → (AEx → Tm → Ob → Prop) → Tm → Ob → Prop
  | .skip, K, tm, ob => K .normal tm ob
  | .region ops, K, tm, ob => awpOps P Y kb ops (K .normal) tm ob
  | .draw t, K, tm, ob => awpDT P Y kb (K .normal) t tm ob
  | .seq a b, K, tm, ob => awp P Y kb a (seqK (awp P Y kb b K) K) tm ob
  | .cond c x y, K, tm, ob => condP (c.ev tm) (awp P Y kb x K tm ob) (awp P Y kb y K tm ob)
  | .block id b, K, tm, ob => awp P Y kb b (blkK id K) tm ob
  | .loop b, K, tm, ob => ∃ I : Nat → Tm → Ob → Prop, (∃ n, I n tm ob) ∧ ∀ n tm ob, I n tm ob → awp P Y kb b (loopK I n K) tm ob
  | .exit id, K, tm, ob => K (.exit id) tm ob
  | .ret, K, tm, ob => K .ret tm ob
  | .gh g c, K, tm, ob => ghostP g tm ob fun tm ob => awp P Y kb c K tm ob
  | .rangeF k f ps x y, K, tm, ob => ∃ fn first caps, callTo (f.ev tm) = some (fn, first, caps) ∧ ∀ (el : Nat) (r : Loop),
      FnA P (addY Y el fun as ob0 K0 => as.length = ps.length ∧ oget ob0 (kb + 950 + k) = some (el, .lp r) ∧
        awp P Y kb x (rndA (kb + 950 + k) el r (awp P Y kb y (rndB (kb + 950 + k) el r K0))) (tputs tm ps as) ob0)
      fn (first ++ [.yld (kb + 950 + k) el] ++ caps) (oset ob (kb + 950 + k) el (.lp r)) (endF (kb + 950 + k) el r tm K)

/-- What is said of a code's soundness. -/
def Snd (P : Program) (Y : YT) (nt kb : Nat) (ac : AC) : Prop := ∀ (l : Option Nat) (m : Nat) (rf : Bool) (hrf : rf = true → l = none) (lim : Nat) (c : Code) (K : AEx → Tm → Ob → Prop) (Q : Exit → Act → World → Prop) (G : Gh) (a : Act) (w : World) (tm : Tm) (ob : Ob), trCodeR P nt rf c = some ac.erase → awp P Y kb ac K tm ob →
    St nt lim G a w tm ob → YOK P Y G → (∀ e G' a' w' tm' ob', K e tm' ob' → St nt lim G' a' w' tm' ob' → Fr G w ob G' w' ob' → YOK P Y G' → Q e.to a' w') → c.wpIn (fc l) m P Q a w

theorem call_val {G : Gh} {fv : AV} {v : Value} {fn : FuncId} {first caps : List AV} (rf : VRel G fv v) (hct : callTo fv = some (fn, first, caps)) :
    ∃ vf vc : Array Value, v = .func (.func fn) vf vc ∧ vf.size = first.length ∧ vc.size = caps.length ∧ (∀ i, i < first.length → VRel G (first.getD i .junk) (vf.getD i undef)) ∧ (∀ i, i < caps.length → VRel G (caps.getD i .junk) (vc.getD i undef)) := by
  cases fv <;> simp only [callTo] at hct <;> try (cases hct; done)
  · rename_i y
    cases y <;> simp only [] at hct <;> try (cases hct; done)
    cases hct
    have := vr_fv rf
    cases this
    exact ⟨#[], #[], rfl, rfl, rfl, by simp, by simp⟩
  · cases hct
    cases rf with
    | clo _ _ _ vf vc h1 h2 h3 h4 => exact ⟨vf, vc, rfl, h1, h2, h3, h4⟩

theorem rel_hidden {G : Gh} {w : World} {ob : Ob} (hR : Rel G w ob) (x : Obj) (hx0 : ∀ c t f, x = .cells c t f → f = (0, 0)) : Rel G (w.alloc x) ob ∧ Fr G w ob G (w.alloc x) ob := by
  have hold : ∀ b, b < w.heap.size → (w.alloc x).heap[b]? = w.heap[b]? := fun b hb => getHeap_alloc_old w x b hb
  have hsz : w.heap.size ≤ (w.alloc x).heap.size := by rw [show (w.alloc x).heap = w.heap.push x from rfl]; simp
  refine ⟨rel_step hR (.refl G) rfl (hsz) (fun _ => False) (fun _ _ _ _ h => h) (fun b hb _ => hold b hb) (fun k e o hk => .inl ⟨hk, fun _ h => h⟩) hR.fin,
    ⟨.refl G, rfl, rfl, rfl, hsz, fun b hb _ => hold b hb, fun b h _ => h, fun _ _ _ _ => rfl, frz_push rfl hx0⟩⟩

theorem tputs_rel {G : Gh} : ∀ (ps : List Nat) (as : List AV) (us : List Value) (tm : Tm) (tmps : Array Value), (∀ p ∈ ps, p < tmps.size) → us.length = as.length → (∀ i, i < as.length → VRel G (as.getD i .junk) (us.getD i undef)) →
    (∀ t, VRel G (tget tm t) (tmps.getD t undef)) → ∀ t, VRel G (tget (tputs tm ps as) t) (((ps.zip us).foldl (fun tmps (t, a) => tmps.setIfInBounds t a) tmps).getD t undef)
  | [], as, us, tm, tmps, _, _, _, hT => by simpa [tputs] using hT
  | p :: ps, [], [], tm, tmps, _, _, _, hT => by simpa [tputs] using hT
  | p :: ps, a :: as, u :: us, tm, tmps, hp, hl, hr, hT => by
    simp only [tputs, List.zip_cons_cons, List.foldl_cons]
    refine tputs_rel ps as us _ _ (fun q hq => by simpa using hp q (List.mem_cons_of_mem _ hq)) (by simpa using hl) (fun i hi => by simpa using hr (i + 1) (by simpa using hi)) fun t => ?_
    rw [tget_tput, gd, Array.getElem?_setIfInBounds]
    split
    · rename_i h
      subst h
      rw [if_pos (hp p (by simp))]
      exact hr 0 (by simp)
    · have := hT t
      rwa [gd] at this
theorem foldl_size : ∀ (l : List (Nat × Value)) (tmps : Array Value), (l.foldl (fun tmps (t, a) => tmps.setIfInBounds t a) tmps).size = tmps.size
  | [], _ => rfl
  | (t, a) :: r, tmps => by simp [foldl_size r]

theorem lp_set {P : Program} {w : World} {b : Nat} {r r' : Loop} (h : w.heap[b]? = some (.loop r)) : w.heap.size = ({ w with heap := w.heap.setIfInBounds b (.loop r') } : World).heap.size ∧ ({ w with heap := w.heap.setIfInBounds b (.loop r') } : World).heap[b]? = some (.loop r') := by
  have hlt := (Array.getElem?_eq_some_iff.1 h).1
  exact ⟨by simp, by simp [hlt]⟩
theorem frz_set {w : World} {b : Nat} {r r' : Loop} (h : w.heap[b]? = some (.loop r)) (a : Addr) : ({ w with heap := w.heap.setIfInBounds b (.loop r') } : World).frozen? a = w.frozen? a := by
  unfold World.frozen?
  simp only [Array.getElem?_setIfInBounds]
  by_cases hb : b = a.block
  · subst hb
    have hlt := (Array.getElem?_eq_some_iff.1 h).1
    rw [h, if_pos rfl, if_pos hlt]
  · rw [if_neg hb]
theorem rel_lp {G : Gh} {w : World} {ob : Ob} (hR : Rel G w ob) {k e : Nat} {r r' : Loop} (hk : oget ob k = some (e, .lp r)) :
    let w' : World := { w with heap := w.heap.setIfInBounds (G.ρ e).1 (.loop r') }
    Rel G w' (oset ob k e (.lp r')) ∧ Fr G w ob G w' (oset ob k e (.lp r')) ∧ w.heap[(G.ρ e).1]? = some (.loop r) := by
  obtain ⟨hd, hok⟩ := hR.obj k e _ hk
  obtain ⟨h1, h2⟩ := lp_set (P := default) (r' := r') hok.1
  obtain ⟨g1, g2, _⟩ := rel_upd (x := .lp r') hR hk trivial (w' := { w with heap := w.heap.setIfInBounds (G.ρ e).1 (.loop r') }) (fun b hb => by simp [Array.getElem?_setIfInBounds_ne (Ne.symm hb)]) h1.symm rfl rfl rfl ⟨h2, hok.2⟩ (fun a => frz_set (hok.1) a)
  exact ⟨g1, g2, hok.1⟩
theorem odel_oset (ob : Ob) (k e : Nat) (o : AObj) : odel (oset ob k e o) k = odel ob k := by
  induction ob with
  | nil => simp [oset, odel]
  | cons x r ih =>
    obtain ⟨k', e', o'⟩ := x
    simp only [oset]
    split
    · rename_i h; subst h; simp [odel]
    · rename_i h; simp [odel, h, ih]
theorem oget_self (ob : Ob) (k e : Nat) (o : AObj) : oget (oset ob k e o) k = some (e, o) := by rw [oget_oset, if_pos rfl]

theorem run_begin {P : Program} {w : World} {l : Nat} {r : Loop} (h : w.heap[l]? = some (.loop r)) (hs : r.state = .ready) : (Instr.beginRound l).run P w = .ok () { w with heap := w.heap.setIfInBounds l (.loop (busyL r)) } := by
  simp [Instr.beginRound, Instr.getLoop, getObj, setObj, Sem.run, h, hs, busyL]
theorem run_endRound {P : Program} {w : World} {l : Nat} {r : Loop} (h : w.heap[l]? = some (.loop r)) (j : Option Code) :
    (Instr.endRound l j).run P w = .ok (.bool j.isNone) { w with heap := w.heap.setIfInBounds l (.loop { r with state := if j.isNone then .ready else .done, pending := j }) } := by
  simp [Instr.endRound, Instr.getLoop, getObj, setObj, Sem.run, h]
theorem run_endLoop {P : Program} {w : World} {l : Nat} {r : Loop} (h : w.heap[l]? = some (.loop r)) (hs : (r.state == .busy) = false) :
    (Instr.endLoop l).run P w = .ok r.pending { w with heap := w.heap.setIfInBounds l (.loop { r with state := .exhausted }) } := by
  simp [Instr.endLoop, Instr.getLoop, getObj, setObj, Sem.run, h, hs]
  intro hb
  rw [hb] at hs
  exact absurd hs (by decide)
theorem run_yield {P : Program} {w : World} {l : Nat} {r : Loop} (h : w.heap[l]? = some (.loop r)) (us : Array Value) (hs : us.size = r.params.size) :
    (Instr.yield l us).run P w = .ok (.round l r.fn ((r.params.zip us).foldl (fun tmps (t, a) => tmps.setIfInBounds t a) r.tmps) r.assign r.body) w := by
  simp [Instr.yield, Instr.getLoop, getObj, Sem.run, h, hs]
theorem run_enter {P : Program} {w : World} (fn : FuncId) (tmps : Array Value) (params : Array Tmp) (assign body : Code) :
    (Instr.enterLoop fn tmps params assign body none).run P w = .ok (w.heap.size + 1, [{ target := .collected w.heap.size, args := #[] }])
      ((w.alloc (.deferred (some []))).alloc (.loop { state := .ready, pending := none, fn, tmps, params, assign, body, defers := w.heap.size })) := by
  simp [Instr.enterLoop, newObj]
  show (Result.ok ((w.heap.push (Obj.deferred (some []))).size, [({ target := Target.collected w.heap.size, args := #[] } : Deferred)]) _ : Result (Nat × List Deferred)) = _
  rw [Array.size_push]
  rfl

theorem least {p : Nat → Prop} (h : ∃ n, p n) : ∃ n, p n ∧ ∀ k, p k → n ≤ k := by
  obtain ⟨n, hn⟩ := h
  induction n using Nat.strongRecOn with
  | _ n ih =>
    by_cases hk : ∃ k, k < n ∧ p k
    · obtain ⟨k, h1, h2⟩ := hk; exact ih k h1 h2
    · exact ⟨n, hn, fun k hk' => Nat.le_of_not_lt fun hlt => hk ⟨k, hlt, hk'⟩⟩

theorem loop_rounds {F : Fence} {n : Nat} {P : Program} {Q : Exit → Act → World → Prop} {a : Act} {w : World} {c : Code} (I : Nat → Act → World → Prop) (k : Nat) (h₀ : I k a w)
    (round : ∀ k a w, I k a w → c.wpIn F n P (Exit.then (fun a' w' => ∃ k', k' < k ∧ I k' a' w') Q) a w) : (Code.loop c).wpIn F n P Q a w := by
  classical
  let μ : Act → World → Nat := fun a w => if h : ∃ k, I k a w then (least h).choose else 0
  refine wpIn_loop (fun a w => ∃ k, I k a w) μ ⟨k, h₀⟩ fun a w h => ?_
  have hs := (least h).choose_spec
  refine wpIn_mono (round _ a w hs.1) fun e a' w' hq => ?_
  cases e with
  | normal =>
    obtain ⟨k', hlt, hI⟩ := hq
    have hx : ∃ k, I k a' w' := ⟨k', hI⟩
    refine ⟨hx, ?_⟩
    have h1 : μ a' w' = (least hx).choose := dif_pos hx
    have h2 : μ a w = (least h).choose := dif_pos h
    rw [h1, h2]
    exact Nat.lt_of_le_of_lt ((least hx).choose_spec.2 k' hI) hlt
  | _ => exact hq

section
variable {P : Program} {Y : YT} {nt kb lim : Nat} {l : Option Nat} {m : Nat}

theorem mapM_mem {α β : Type} {f : α → Option β} : ∀ {xs : List α} {ys : List β}, xs.mapM f = some ys → ∀ x ∈ xs, ∃ y, f x = some y
  | [], _, _, x, hx => by cases hx
  | x :: xs, ys, h, z, hz => by
    simp only [List.mapM_cons, Option.bind_eq_bind, Option.pure_def, Option.bind_eq_some_iff] at h
    obtain ⟨y, hy, r, hr, h⟩ := h
    rcases List.mem_cons.1 hz with rfl | hz
    · exact ⟨y, hy⟩
    · exact mapM_mem hr z hz
theorem mapM_get {α β : Type} [Inhabited β] {f : α → Option β} : ∀ {xs : List α} {ys : List β}, xs.mapM f = some ys → ∀ i x, xs[i]? = some x → f x = some (ys.getD i default)
  | [], _, _, i, x, hx => by simp at hx
  | x :: xs, ys, h, i, z, hz => by
    simp only [List.mapM_cons, Option.bind_eq_bind, Option.pure_def, Option.bind_eq_some_iff] at h
    obtain ⟨y, hy, r, hr, h⟩ := h
    cases h
    cases i with
    | zero => simp at hz; subst hz; simpa using hy
    | succ i => simpa using mapM_get hr i z (by simpa using hz)

theorem hnt_of {ops : Array Oper} {its : List AI} (h : ops.toList.mapM (trOper P nt ops) = some its) : ∀ o ∈ ops.toList, ∀ t b, trGuard ops o.guard = some (some (t, b)) → t < nt := by
  intro o ho t b hg
  cases hgd : o.guard with
  | none => rw [hgd] at hg; cases hg
  | some jb =>
    obtain ⟨j, b'⟩ := jb
    rw [hgd] at hg
    simp only [trGuard, Option.map_eq_some_iff, Option.bind_eq_some_iff] at hg
    obtain ⟨t', ⟨oj, hj, hd⟩, he⟩ := hg
    cases he
    have hmem : oj ∈ ops.toList := by
      obtain ⟨hlt, he⟩ := Array.getElem?_eq_some_iff.1 hj
      rw [← he]; simp
    obtain ⟨it, hit⟩ := mapM_mem h oj hmem
    obtain ⟨d, g, htd, _⟩ := trOper_dg hit
    obtain ⟨hdd, hlt⟩ := trDst_spec htd
    exact hlt t (by rw [← hdd, hd])

theorem St.drawn {G : Gh} {a : Act} {w : World} {tm : Tm} {ob : Ob} (h : St nt lim G a w tm ob) (n : Nat) : St nt lim G a { w with drawn := n } tm ob :=
  ⟨h.size, h.tm, ⟨h.rel.fok, fun k e o hk => ⟨(h.rel.obj k e o hk).1, by
    have := (h.rel.obj k e o hk).2
    cases o <;> exact this⟩, h.rel.inj, h.rel.fin⟩, h.dok⟩
theorem Fr.drawn (G : Gh) (w : World) (ob : Ob) (n : Nat) : Fr G w ob G { w with drawn := n } ob :=
  ⟨.refl G, rfl, rfl, rfl, Nat.le_refl _, fun _ _ _ => rfl, fun _ h _ => h, fun _ _ _ _ => rfl, fun _ => rfl⟩

theorem rangeF_sound {x y : AC} (hx : Snd P Y nt kb x) (hy : Snd P Y nt kb y) (k : Nat) (f : Opd) (ps : List Nat) : Snd P Y nt kb (.rangeF k f ps x y) := by
  intro l m rf hrf lim c K Q G a w tm ob htr h hst hY hQ
  cases c with
  | rangeFunc f' ps' c1 c2 =>
    simp only [trCodeR, AC.erase] at htr
    split at htr
    · rename_i hc
      simp only [Option.bind_eq_some_iff, Option.map_eq_some_iff] at htr
      obtain ⟨f0, hf, x0, hx0, y0, hy0, he⟩ := htr
      cases he
      simp only [Bool.and_eq_true, List.all_eq_true, decide_eq_true_eq] at hc
      obtain ⟨hrft, hps⟩ := hc
      have hl := hrf hrft
      subst hl
      simp only [awp] at h
      obtain ⟨fn, first, caps, hct, h⟩ := h
      obtain ⟨vf, vc, hv, hl1, hl2, hr1, hr2⟩ := call_val (trOpd_rel hst.tm hf) hct
      refine wpIn_rangeFunc fun gfn _ => ?_
      obtain ⟨el, hel⟩ := fresh hst.rel
      let kl := kb + 950 + k
      let rec0 : Loop := { state := .ready, pending := none, fn := gfn, tmps := a.tmps, params := ps', assign := c1, body := c2, defers := w.heap.size }
      let w1 := w.alloc (.deferred (some []))
      let w2 := w1.alloc (.loop rec0)
      obtain ⟨hRh, hFh⟩ := rel_hidden hst.rel (.deferred (some [])) (by intro c t f h; cases h)
      have hsz1 : w1.heap.size = w.heap.size + 1 := by rw [show w1.heap = w.heap.push (.deferred (some [])) from rfl]; simp
      obtain ⟨g1, g2, g3⟩ := rel_newO (w' := w2) hRh hel kl 0 (.lp rec0) (.loop rec0) rfl rfl rfl rfl (by
        refine ⟨?_, fun j => ?_⟩
        · rw [Gh.add_ρ]; exact heap_alloc_new w1 _
        · rw [Gh.add_ρ]
          cases hF : G.F w1.heap.size j with
          | none => exact hF
          | some v => exact absurd (hRh.F_lt hF) (Nat.lt_irrefl _)) (by intro c t f h; cases h)
      have hρ : ((G.add el w1.heap.size 0).ρ el).1 = w.heap.size + 1 := by rw [Gh.add_ρ, hsz1]
      have hdom : (G.add el w1.heap.size 0).dom el := Gh.add_dom ..
      have hGG : GLe G (G.add el w1.heap.size 0) := (hFh.trans g2).le
      obtain ⟨⟨func, hf1, hf2, hf3⟩, hcall⟩ := h el rec0
      have hY1 : YOK P (addY Y el fun as ob0 K0 => as.length = ps'.toList.length ∧ oget ob0 kl = some (el, .lp rec0) ∧
          awp P Y kb x (rndA kl el rec0 (awp P Y kb y (rndB kl el rec0 K0))) (tputs tm ps'.toList as) ob0) (G.add el w1.heap.size 0) := by
        intro l' as ob0 K0 hyy G0 w0 us hG0 hR0 hus hvs
        rcases hyy with ⟨rfl, hal, hob, hawp⟩ | ⟨hne, hy'⟩
        · obtain ⟨_, hok⟩ := hR0.obj _ _ _ hob
          have hlp : w0.heap[(G0.ρ l').1]? = some (.loop rec0) := hok.1
          have hpsz : us.size = rec0.params.size := by rw [hus, hal]; simp [rec0]
          refine ⟨gfn, _, c1, c2, run_yield hlp us hpsz, fun n => ?_⟩
          refine roundIn_of_wpIn trivial ?_
          have hT0 : ∀ t, VRel G0 (tget tm t) (a.tmps.getD t undef) := fun t => (hst.tm t).mono (hGG.trans hG0)
          have hz : (ps'.zip us).foldl (fun tmps (t, a) => tmps.setIfInBounds t a) a.tmps = (ps'.toList.zip us.toList).foldl (fun tmps (t, a) => tmps.setIfInBounds t a) a.tmps := by
            rw [← Array.foldl_toList, Array.toList_zip]
          refine hx (some (G0.ρ l').1) n false (by simp) w0.heap.size c1 _ _ G0 _ w0 (tputs tm ps'.toList as) ob0 hx0 hawp ⟨?_, fun t => ?_, hR0, Nat.le_refl _, [], rfl, by simp, fun _ h => by cases h⟩ (hY.mono (hGG.trans hG0)) fun e G2 a2 w2' tm2 ob2 hk hst2 hF2 hY2 => ?_
          · show ((ps'.zip us).foldl (fun tmps (t, a) => tmps.setIfInBounds t a) a.tmps).size = nt
            rw [hz, foldl_size]; exact hst.size
          · show VRel G0 _ (((ps'.zip us).foldl (fun tmps (t, a) => tmps.setIfInBounds t a) a.tmps).getD t undef)
            rw [hz]
            exact tputs_rel _ _ _ _ _ (fun p hp => by rw [hst.size]; exact hps p hp) (by simpa using hus) (fun i hi => by rw [list_getD us]; exact hvs i hi) hT0 t
          · cases e with
            | normal =>
              obtain ⟨hk1, hk2⟩ := hk
              obtain ⟨r1, r2, r3⟩ := rel_lp (r' := busyL rec0) hst2.rel hk1
              have hρ2 : (G2.ρ l').1 = (G0.ρ l').1 := by rw [hF2.le.ρ l' (hR0.obj _ _ _ hob).1]
              rw [hρ2] at r1 r2 r3
              refine ⟨_, run_begin r3 rfl, ?_⟩
              refine hy (some (G0.ρ l').1) n false (by simp) w0.heap.size c2 _ _ G2 a2 _ tm2 _ hy0 hk2 ⟨hst2.size, hst2.tm, r1, hst2.dok.fr r2⟩ hY2 fun e G3 a3 w3 tm3 ob3 hk3 hst3 hF3 hY3 => ?_
              have hρ3 : ∀ (hh : oget ob3 kl = some (l', .lp (busyL rec0))), (G3.ρ l').1 = (G0.ρ l').1 := fun _ => by
                rw [hF3.le.ρ l' (hF2.le.dom _ (hR0.obj _ _ _ hob).1), hρ2]
              have fin : ∀ (b : Bool) (r' : Loop) (j : Option Code) (hb : b = j.isNone) (hr' : r' = { busyL rec0 with state := if j.isNone then .ready else .done, pending := j }), oget ob3 kl = some (l', .lp (busyL rec0)) → K0 (.fv (.bool b)) (oset ob3 kl l' (.lp r')) →
                  ∃ v w', (Instr.endRound (G0.ρ l').1 j).run P w3 = .ok v w' ∧ ∃ G' r ob', K0 r ob' ∧ VRel G' r v ∧ Rel G' w' ob' ∧ Fr G0 w0 ob0 G' w' ob' := by
                intro b r' j hb hr' hh hk0
                obtain ⟨q1, q2, q3⟩ := rel_lp (r' := r') hst3.rel hh
                rw [hρ3 hh] at q1 q2 q3
                refine ⟨_, _, run_endRound q3 j, G3, _, _, hk0, ?_, ?_, ?_⟩
                · rw [hb]; exact mk_bool G3 _
                · rw [← hr']; exact q1
                · rw [← hr']; exact ((hF2.trans r2).trans hF3).trans q2
              cases e with
              | normal => exact fin true rec0 none rfl rfl hk3.1 hk3.2
              | exit id => exact fin false _ (some (.exit id)) rfl rfl hk3.1 hk3.2
              | ret => exact fin false _ (some .ret) rfl rfl hk3.1 hk3.2
            | exit id => exact hk.elim
            | ret => exact hk.elim
        · exact hY l' as ob0 K0 hy' G0 w0 us (hGG.trans hG0) hR0 hus hvs
      have hname : ¬ (func.name = "runtime.NumGoroutine") := by simpa using hf2
      have hbn : func.body ≠ none := by intro hn; rw [hn] at hf3; cases hf3
      refine ⟨w.heap.size + 1, _, w2, { target := .fn (.func fn) vc, args := vf ++ #[.func (.yield (w.heap.size + 1)) #[] #[]] }, w2, fn, vf ++ #[.func (.yield (w.heap.size + 1)) #[] #[]] ++ vc, w2, run_enter .., ?_, fun _ _ => trivial, ?_, fun hh => by simp [fc, Fence.wide] at hh, ?_⟩
      · simp only [resolve, rangeCall, hv, Deferred.ofValue]
        simp [Act.eval]
      · simp [invoke, callFunc, hf1, hname, hbn]
      · have hargs : (vf ++ #[Value.func (.yield (w.heap.size + 1)) #[] #[]] ++ vc).size = (first ++ [AV.yld kl el] ++ caps).length := by simp [hl1, hl2]; omega
        refine callsIn_fc ((hcall (G.add el w1.heap.size 0) w2 _ hY1 g1 hargs ?_).mono fun e w' he => ?_)
        · intro i hi
          have hi2 : i < first.length + 1 + caps.length := by simp at hi; omega
          rw [← list_getD (vf ++ #[Value.func (.yield (w.heap.size + 1)) #[] #[]] ++ vc), Array.toList_append, Array.toList_append]
          have l1 : vf.toList.length = first.length := by simpa using hl1
          by_cases c1 : i < first.length + 1
          · rw [getD_append_left (first ++ [AV.yld kl el]) _ _ _ (by simpa using c1), getD_append_left (vf.toList ++ [Value.func (.yield (w.heap.size + 1)) #[] #[]]) _ _ _ (by simp only [List.length_append, l1, List.length_singleton]; exact c1)]
            by_cases c2 : i < first.length
            · rw [getD_append_left first _ _ _ c2, getD_append_left vf.toList _ _ _ (by rw [l1]; exact c2), list_getD vf]
              exact (hr1 i c2).mono hGG
            · have : i = first.length := by omega
              rw [getD_append_right first _ _ _ (by omega), getD_append_right vf.toList _ _ _ (by omega), l1, this, Nat.sub_self]
              have hy := VRel.yld (G := G.add el w1.heap.size 0) kl el hdom
              rw [hρ] at hy
              exact hy
          · rw [getD_append_right (first ++ [AV.yld kl el]) _ _ _ (by simp; omega), getD_append_right (vf.toList ++ [Value.func (.yield (w.heap.size + 1)) #[] #[]]) _ _ _ (by simp; omega)]
            simp only [List.length_append, l1, List.length_singleton]
            rw [list_getD vc]
            exact (hr2 _ (by omega)).mono hGG
        · cases e with
          | returned v =>
            obtain ⟨G', r, ob', hk, hvr, hR', hF'⟩ := he
            have hρ' : (G'.ρ el).1 = w.heap.size + 1 := by rw [hF'.le.ρ el hdom]; exact hρ
            have fin : ∀ (r' : Loop) (e : AEx) (j : Option Code), (r'.state == .busy) = false → r'.pending = j → oget ob' kl = some (el, .lp r') → K e tm (odel ob' kl) → (j = none ∧ e = .normal ∨ j = some e.code ∧ e ≠ .normal) →
                rangePost (fc none) m P (w.heap.size + 1) Q { a with defers := [{ target := .collected w.heap.size, args := #[] }] ++ a.defers } (.returned v) w' := by
              intro r' e j hs hp ho hk hj
              obtain ⟨q1, q2, q3⟩ := rel_lp (r' := { r' with state := .exhausted }) hR' ho
              rw [hρ'] at q1 q2 q3
              obtain ⟨q4, q5⟩ := rel_del q1 kl
              rw [odel_oset] at q4 q5
              have hFall := (((hFh.trans g2).trans hF').trans q2).trans q5
              have hFrest : Fr G w1 ob G' { w' with heap := w'.heap.setIfInBounds (w.heap.size + 1) (.loop { r' with state := .exhausted }) } (odel ob' kl) := ((g2.trans hF').trans q2).trans q5
              have hDno : ¬ Own G ob w.heap.size := fun ho => by
                obtain ⟨k1, e1, o1, h1, h2, h3⟩ := ho
                have := objOK_lt (hst.rel.obj k1 e1 o1 h1).2 h2
                omega
              have hDlt : w.heap.size < w1.heap.size := by omega
              have hDnew : ¬ Own G' (odel ob' kl) w.heap.size := fun ho => hDno (hFrest.own _ ho hDlt)
              have hDheap : ({ w' with heap := w'.heap.setIfInBounds (w.heap.size + 1) (.loop { r' with state := .exhausted }) } : World).heap[w.heap.size]? = some (.deferred (some [])) :=
                (hFrest.heap _ hDlt hDno).trans (heap_alloc_new w _)
              refine ⟨j, _, by rw [← hp]; exact run_endLoop q3 hs, ?_⟩
              have hst' : St nt lim G' { a with defers := [{ target := .collected w.heap.size, args := #[] }] ++ a.defers } { w' with heap := w'.heap.setIfInBounds (w.heap.size + 1) (.loop { r' with state := .exhausted }) } tm (odel ob' kl) := by
                refine ⟨hst.size, fun t => (hst.tm t).mono (hGG.trans hF'.le), q4, ?_⟩
                obtain ⟨hlim, Ds, hds, hnd, hD⟩ := hst.dok
                refine ⟨Nat.le_trans hlim hFall.size, w.heap.size :: Ds, by simp [hds], List.nodup_cons.2 ⟨fun hm => ?_, hnd⟩, fun D hDm => ?_⟩
                · have := (Array.getElem?_eq_some_iff.1 (hD _ hm).2.1).1
                  omega
                · rcases List.mem_cons.1 hDm with rfl | hDm
                  · exact ⟨hlim, hDheap, hDnew⟩
                  · obtain ⟨d1, d2, d3⟩ := hD D hDm
                    have hlt := (Array.getElem?_eq_some_iff.1 d2).1
                    exact ⟨d1, (hFall.heap D hlt d3).trans d2, fun ho => d3 (hFall.own D ho hlt)⟩
              have hfin := hQ e G' _ _ tm (odel ob' kl) hk hst' hFall (hY.mono (hGG.trans hF'.le))
              rcases hj with ⟨rfl, rfl⟩ | ⟨rfl, hne⟩
              · exact hfin
              · cases e with
                | normal => exact absurd rfl hne
                | exit id => exact wpIn_exit hfin
                | ret => exact wpIn_ret hfin
            rcases hk with ⟨ho, hk⟩ | ⟨e, hne, ho, hk⟩
            · exact fin rec0 .normal none rfl rfl ho hk (.inl ⟨rfl, rfl⟩)
            · exact fin (doneL rec0 e) e (some e.code) rfl rfl ho hk (.inr ⟨rfl, hne⟩)
          | panicked c => exact he.elim
          | outgrown => exact he.elim
    · cases htr
  | region id ops d => cases d <;> simp [trCodeR, AC.erase, Option.bind_eq_some_iff] at htr
  | _ => simp [trCodeR, AC.erase, Option.bind_eq_some_iff] at htr

theorem awp_sound (hm : P.follows .mixedOrders = true) : ∀ (ac : AC) (l : Option Nat) (m : Nat) (rf : Bool) (hrf : rf = true → l = none) (lim : Nat) (c : Code) (K : AEx → Tm → Ob → Prop) (Q : Exit → Act → World → Prop) (G : Gh) (a : Act) (w : World) (tm : Tm) (ob : Ob), trCodeR P nt rf c = some ac.erase → awp P Y kb ac K tm ob →
    St nt lim G a w tm ob → YOK P Y G → (∀ e G' a' w' tm' ob', K e tm' ob' → St nt lim G' a' w' tm' ob' → Fr G w ob G' w' ob' → YOK P Y G' → Q e.to a' w') → c.wpIn (fc l) m P Q a w
  | .gh g ac, l, m, rf, hrf, lim, c, K, Q, G, a, w, tm, ob, htr, h, hst, hY, hQ => by
    simp only [awp] at h
    obtain ⟨G', tm', ob', hk, hT', hR', hF'⟩ := ghost_sound hst.tm hst.rel h
    exact awp_sound hm ac l m rf hrf lim c K Q G' a w tm' ob' htr hk ⟨hst.size, hT', hR', hst.dok.fr hF'⟩ (hY.mono hF'.le) (fun e G2 a2 w2 tm2 ob2 h1 h2 h3 h4 => hQ e G2 a2 w2 tm2 ob2 h1 h2 (hF'.trans h3) h4)
  | .skip, l, m, rf, hrf, lim, c, K, Q, G, a, w, tm, ob, htr, h, hst, hY, hQ => by
    cases c <;> simp [trCodeR, AC.erase, Option.bind_eq_some_iff] at htr
    case skip => exact wpIn_skip (hQ .normal G a w tm ob h hst (.refl ..) hY)
    case region id ops d => cases d <;> simp [trCodeR, Option.bind_eq_some_iff] at htr
  | .exit id, l, m, rf, hrf, lim, c, K, Q, G, a, w, tm, ob, htr, h, hst, hY, hQ => by
    cases c <;> simp [trCodeR, AC.erase, Option.bind_eq_some_iff] at htr
    case exit => subst htr; exact wpIn_exit (hQ (.exit _) G a w tm ob h hst (.refl ..) hY)
    case region id ops d => cases d <;> simp [trCodeR, Option.bind_eq_some_iff] at htr
  | .ret, l, m, rf, hrf, lim, c, K, Q, G, a, w, tm, ob, htr, h, hst, hY, hQ => by
    cases c <;> simp [trCodeR, AC.erase, Option.bind_eq_some_iff] at htr
    case ret => exact wpIn_ret (hQ .ret G a w tm ob h hst (.refl ..) hY)
    case region id ops d => cases d <;> simp [trCodeR, Option.bind_eq_some_iff] at htr
  | .region L, l, m, rf, hrf, lim, c, K, Q, G, a, w, tm, ob, htr, h, hst, hY, hQ => by
    cases c <;> simp [trCodeR, AC.erase, Option.bind_eq_some_iff] at htr
    case region id ops d =>
      cases d <;> simp [trCodeR, Option.bind_eq_some_iff] at htr
      refine wpIn_region ?_
      rw [List.range_eq_range']
      have hh := ops_sound (kb := kb) (l := l) (m := m) (Y := Y) (hnt_of htr) (Q := Q) L ops.toList 0 G a w tm ob (K .normal) (by simp) htr h hst hY (fun G' a' w' tm' ob' h1 h2 h3 h4 => hQ .normal G' a' w' tm' ob' h1 h2 h3 h4)
      simpa using hh
  | .draw t, l, m, rf, hrf, lim, c, K, Q, G, a, w, tm, ob, htr, h, hst, hY, hQ => by
    cases c <;> simp [trCodeR, AC.erase, Option.bind_eq_some_iff] at htr
    case region id ops d =>
      cases d <;> simp [trCodeR, Option.bind_eq_some_iff] at htr
      obtain ⟨its, hits, hchk, rfl⟩ := htr
      refine wpIn_region_any hm ?_
      have htr' : ∀ i o, ops[i]? = some o → trOper P nt ops o = some (itAt its i) := fun i o ho => mapM_get hits i o (by simpa using ho)
      refine draw_go (kb := kb) (K := K .normal) htr' hchk (hnt_of hits) (G0 := G) (w0 := w) (ob0 := ob) (fun G' a' w' tm' ob' h1 h2 h3 h4 => hQ .normal G' a' w' tm' ob' h1 h2 h3 h4) _ _ [] a a _ tm ob G _ ⟨?_, ?_, ?_, ?_, ?_, hst.drawn _, ⟨rfl, rfl, fun _ _ => rfl⟩, ?_, hY⟩ (.drawn ..) h
      · intro i hi hl
        simp [hi] at hl
      · intro i o ho hl
        have hi : i < ops.size := (Array.getElem?_eq_some_iff.1 ho).1
        simp [hi] at hl
      · intro i o ho hi; cases hi
      · simp
      · have : (List.range ops.size).countP (fun i => !(Array.replicate ops.size false).getD i true) = (List.range ops.size).length := List.countP_eq_length.2 fun i hi => by
          have hi := List.mem_range.1 hi
          simp [hi]
        rw [this, List.length_range]
      · intro i o ho hi; cases hi
  | .seq x y, l, m, rf, hrf, lim, c, K, Q, G, a, w, tm, ob, htr, h, hst, hY, hQ => by
    cases c <;> simp [trCodeR, AC.erase, Option.bind_eq_some_iff] at htr
    case region id ops d => cases d <;> simp [trCodeR, Option.bind_eq_some_iff] at htr
    case seq c1 c2 =>
      obtain ⟨hx, hy⟩ := htr
      refine wpIn_seq (awp_sound hm x l m rf hrf lim c1 _ _ G a w tm ob hx h hst hY fun e G' a' w' tm' ob' h1 h2 h3 h4 => ?_)
      cases e with
      | normal => exact awp_sound hm y l m rf hrf lim c2 K Q G' a' w' tm' ob' hy h1 h2 h4 fun e2 G2 a2 w2 tm2 ob2 k1 k2 k3 k4 => hQ e2 G2 a2 w2 tm2 ob2 k1 k2 (h3.trans k3) k4
      | exit id => exact hQ (.exit id) G' a' w' tm' ob' h1 h2 h3 h4
      | ret => exact hQ .ret G' a' w' tm' ob' h1 h2 h3 h4
  | .cond v x y, l, m, rf, hrf, lim, c, K, Q, G, a, w, tm, ob, htr, h, hst, hY, hQ => by
    cases c <;> simp [trCodeR, AC.erase, Option.bind_eq_some_iff] at htr
    case region id ops d => cases d <;> simp [trCodeR, Option.bind_eq_some_iff] at htr
    case cond v' c1 c2 =>
      obtain ⟨v'', hv, x', hx, y', hy, rfl, rfl, rfl⟩ := htr
      simp only [awp, condP] at h
      have r := trOpd_rel hst.tm hv
      split at h
      · rename_i b hb
        rw [hb] at r
        refine wpIn_cond (vr_bool r) ?_
        cases b with
        | true => exact awp_sound hm x l m rf hrf lim c1 K Q G a w tm ob hx (h.1 rfl) hst hY hQ
        | false => exact awp_sound hm y l m rf hrf lim c2 K Q G a w tm ob hy (h.2 rfl) hst hY hQ
      · exact h.elim
  | .block id b, l, m, rf, hrf, lim, c, K, Q, G, a, w, tm, ob, htr, h, hst, hY, hQ => by
    cases c <;> simp [trCodeR, AC.erase, Option.bind_eq_some_iff] at htr
    case region id ops d => cases d <;> simp [trCodeR, Option.bind_eq_some_iff] at htr
    case block id' c1 =>
      obtain ⟨hb, rfl⟩ := htr
      refine wpIn_block (awp_sound hm b l m rf hrf lim c1 _ _ G a w tm ob hb h hst hY fun e G' a' w' tm' ob' h1 h2 h3 h4 => ?_)
      cases e with
      | normal => exact hQ .normal G' a' w' tm' ob' h1 h2 h3 h4
      | exit i =>
        simp only [blkK] at h1
        simp only [AEx.to, Exit.inBlock]
        split at h1
        · rename_i hi; subst hi; simp; exact hQ .normal G' a' w' tm' ob' h1 h2 h3 h4
        · rename_i hi; simp [hi]; exact hQ (.exit i) G' a' w' tm' ob' h1 h2 h3 h4
      | ret => exact hQ .ret G' a' w' tm' ob' h1 h2 h3 h4
  | .loop b, l, m, rf, hrf, lim, c, K, Q, G, a, w, tm, ob, htr, h, hst, hY, hQ => by
    cases c <;> simp [trCodeR, AC.erase, Option.bind_eq_some_iff] at htr
    case region id ops d => cases d <;> simp [trCodeR, Option.bind_eq_some_iff] at htr
    case loop c1 =>
      have hb := htr
      obtain ⟨I, ⟨n, hn⟩, hround⟩ := h
      refine loop_rounds (c := c1) (fun n a' w' => ∃ G' tm' ob', I n tm' ob' ∧ St nt lim G' a' w' tm' ob' ∧ Fr G w ob G' w' ob' ∧ YOK P Y G') n ⟨G, tm, ob, hn, hst, .refl .., hY⟩ fun n a1 w1 ⟨G1, tm1, ob1, hI, hst1, hF1, hY1⟩ => ?_
      refine awp_sound hm b l m rf hrf lim c1 _ _ G1 a1 w1 tm1 ob1 hb (hround n tm1 ob1 hI) hst1 hY1 fun e G' a' w' tm' ob' h1 h2 h3 h4 => ?_
      cases e with
      | normal =>
        obtain ⟨n', hlt, hI'⟩ := h1
        exact ⟨n', hlt, G', tm', ob', hI', h2, hF1.trans h3, h4⟩
      | exit id => exact hQ (.exit id) G' a' w' tm' ob' h1 h2 (hF1.trans h3) h4
      | ret => exact hQ .ret G' a' w' tm' ob' h1 h2 (hF1.trans h3) h4
  | .rangeF k f ps x y, l, m, rf, hrf, lim, c, K, Q, G, a, w, tm, ob, htr, h, hst, hY, hQ => by
    exact rangeF_sound (fun l m rf hrf lim c K Q G a w tm ob => awp_sound hm x l m rf hrf lim c K Q G a w tm ob) (fun l m rf hrf lim c K Q G a w tm ob => awp_sound hm y l m rf hrf lim c K Q G a w tm ob) k f ps l m rf hrf lim c K Q G a w tm ob htr h hst hY hQ
end
end Go.Proofs.RL
