/- Regions that draw their order: the theorem. Conditions: none. -/
import Derived.Test.YthefjfcphgiggaaRlS
set_option linter.unusedVariables false
set_option linter.unusedSimpArgs false
namespace Go.Proofs.RL
section
variable {P : Program} {Y : YT} {nt kb lim : Nat} {l : Option Nat} {m : Nat} {ops : Array Oper} {its : List AI} {bs : List (List Nat)} {K : Tm → Ob → Prop}

theorem draw_go (htr : ∀ i o, ops[i]? = some o → trOper P nt ops o = some (itAt its i)) (hchk : drawOK ops its bs = true) (hnt : ∀ o ∈ ops.toList, ∀ t b, trGuard ops o.guard = some (some (t, b)) → t < nt)
    {Q : Exit → Act → World → Prop} {G0 : Gh} {w0 : World} {ob0 : Ob} (hK : ∀ G' a' w' tm' ob', K tm' ob' → St nt lim G' a' w' tm' ob' → Fr G0 w0 ob0 G' w' ob' → YOK P Y G' → Q .normal a' w') :
    ∀ (fuel : Nat) (listed : Array Bool) (A : List Nat) (a ast : Act) (w : World) (tm : Tm) (ob : Ob) (G : Gh) (f : Nat), DI P Y nt lim ops its bs fuel listed A a ast w tm ob G → Fr G0 w0 ob0 G w ob → awpDT P Y kb K (mkDT ops its bs f A) tm ob →
      wpAnyIn (fc l) m P .any ops Q fuel listed a w := by
  intro fuel
  induction fuel with
  | zero =>
    intro listed A a ast w tm ob G f hD hF hw
    obtain ⟨f', A, ast, tm, hD, hfi, hw⟩ := close htr hchk hnt f A ast tm hD hw
    have hall : ∀ i, i < ops.size → listed.getD i true = true := fun i hi => by
      have := List.countP_eq_zero.1 hD.cnt i (List.mem_range.2 hi)
      simpa using this
    have hr : Region.ready .any ops listed = [] := List.eq_nil_iff_forall_not_mem.2 fun i hi => by
      obtain ⟨h1, o, ho, _⟩ := mem_ready.1 hi
      rw [hall i (Array.getElem?_eq_some_iff.1 ho).1] at h1
      cases h1
    refine ⟨hr, ?_⟩
    have hrd : rdy ops A = [] := List.eq_nil_iff_forall_not_mem.2 fun i hi => by
      obtain ⟨h1, o, ho, _⟩ := mem_rdy.1 hi
      have hlt := (Array.getElem?_eq_some_iff.1 ho).1
      exact h1 (hD.sub i hlt (hall i hlt))
    simp only [mkDT, hrd, List.find?_nil, awpDT] at hw
    have hva : ∀ t, ast.tmps[t]? = a.tmps[t]? := fun t => hD.va.tmps t fun i o hp ho => by
      have := hall i (Array.getElem?_eq_some_iff.1 ho).1
      rw [this] at hp
      cases hp.2
    exact hK G a w tm ob hw ⟨hD.va.size.symm.trans hD.st.size, fun t => by have := hD.st.tm t; rw [gd] at this ⊢; rw [← hva t]; exact this, hD.st.rel, by rw [← hD.va.defers]; exact hD.st.dok⟩ hF hD.Y
  | succ fuel ih =>
    intro listed A a ast w tm ob G f hD hF hw
    obtain ⟨f', A, ast, tm, hD, hfi, hw⟩ := close htr hchk hnt f A ast tm hD hw
    refine ⟨fun hr => ?_, fun i hi => ?_⟩
    · have hall : ∀ i, i < ops.size → listed.getD i true = true := by
        intro i
        induction i using Nat.strongRecOn with
        | _ i ihi =>
          intro hlt
          cases hl : listed.getD i true with
          | true => rfl
          | false =>
            exfalso
            have ho : ops[i]? = some ops[i] := by simp [hlt]
            have h1 := List.all_eq_true.1 hchk i (List.mem_range.2 hlt)
            simp only [chkI, ho, Bool.and_eq_true] at h1
            have : i ∈ Region.ready .any ops listed := mem_ready.2 ⟨hl, _, ho, fun e he hb => by
              have h4 := Array.all_eq_true_iff_forall_mem.1 h1.1.1 e he
              have hb' : binds e = true := hb
              simp only [hb', Bool.not_true, Bool.false_or, decide_eq_true_eq] at h4
              exact getD_ft (ihi e.on h4 (by omega)) (by rw [hD.size]; omega)⟩
            rw [hr] at this
            cases this
      have hrd : rdy ops A = [] := List.eq_nil_iff_forall_not_mem.2 fun i hi => by
        obtain ⟨h1, o, ho, _⟩ := mem_rdy.1 hi
        have hlt := (Array.getElem?_eq_some_iff.1 ho).1
        exact h1 (hD.sub i hlt (hall i hlt))
      simp only [mkDT, hrd, List.find?_nil, awpDT] at hw
      have hva : ∀ t, ast.tmps[t]? = a.tmps[t]? := fun t => hD.va.tmps t fun i o hp ho => by
        have := hall i (Array.getElem?_eq_some_iff.1 ho).1
        rw [this] at hp
        cases hp.2
      exact hK G a w tm ob hw ⟨hD.va.size.symm.trans hD.st.size, fun t => by have := hD.st.tm t; rw [gd] at this ⊢; rw [← hva t]; exact this, hD.st.rel, by rw [← hD.va.defers]; exact hD.st.dok⟩ hF hD.Y
    · obtain ⟨hl, oi, hoi, hdir⟩ := mem_ready.1 hi
      have hlt : i < ops.size := (Array.getElem?_eq_some_iff.1 hoi).1
      have hit := htr i oi hoi
      have hmem : oi ∈ ops.toList := by
        obtain ⟨hlt, he⟩ := Array.getElem?_eq_some_iff.1 hoi
        rw [← he]; simp
      have hbi : ∀ j ∈ bef bs i, listed.getD j false = true :=
        bef_clo hchk (S := fun j => listed.getD j false = true) (fun j oj hj hS e he hb => hD.cloL j oj hj (getD_tf hS).1 e he hb) i oi hoi hdir
      have hnl : ∀ j, listed.getD j true = false → j ∉ bef bs i := fun j hj hb => by
        rw [(getD_tf (hbi j hb)).1] at hj; cases hj
      unfold wpOpIn
      simp only [hoi]
      by_cases hA : i ∈ A
      · obtain ⟨hf, hrep⟩ := hD.rep i oi hoi hA hl
        obtain ⟨oi', hoi', hs, hown, _⟩ := fst_spec hf
        rw [hoi] at hoi'; cases hoi'
        have hlook : ∀ k ok d, (k ∈ A ∧ listed.getD k true = false) → ops[k]? = some ok → ok.dst = some d → d ∉ oi.looksAt ops := fun k ok d hp hk hd => by
          by_cases hki : k = i
          · subst hki; rw [hoi] at hk; cases hk; exact (hown d hd).1
          · obtain ⟨hfk, _⟩ := hD.rep k ok hk hp.1 hp.2
            obtain ⟨ok', hok', _, _, h3⟩ := fst_spec hfk
            rw [hk] at hok'; cases hok'
            exact (((h3 i oi hoi (Ne.symm hki)).resolve_left (hnl k hp.2)) d hd).1
        have hex := hD.va.eval (trOper_noselect hit) hlook
        have hwa := hD.va.wanted hlook
        generalize hI : itAt its i = it at *
        cases it with
        | call => simp [stillIt] at hs
        | gh => simp [stillIt] at hs
        | op d g tk ao =>
          obtain ⟨hao, rfl, htd, htg⟩ := trOper_op hit
          simp only [stillIt] at hs
          replace hao := hao hs
          obtain ⟨hdd, hdlt⟩ := trDst_spec htd
          rw [hwa]
          rcases guard_spec hD.st.tm htg (fun t b hgb => by rw [hD.st.size]; exact hnt oi hmem t b (by rw [htg, hgb])) hrep with ⟨hwant, v, hv, htv⟩ | ⟨hwant, htv⟩
          · rw [if_pos hwant]
            refine ⟨fun _ _ => trivial, ?_⟩
            obtain ⟨N, hN⟩ := fresh hD.st.rel
            obtain ⟨x, upd, new, del, nx, u, w', G', hrun, hnx, ⟨rfl, rfl, rfl, rfl⟩, hvr, hR', hF', _, hq⟩ := step_sound (tk := false) (d := 0) hao hN hD.st.tm hD.st.rel (fun q => still_congr (d' := 0) (e' := N) hs (fun _ _ => rfl) (fun _ _ => peq_refl _ _) hv)
            obtain ⟨rfl, rfl⟩ := hq rfl rfl rfl
            have hsem : oi.semAt (fc l).round a.eval = execOp ast.eval oi := (Oper.semAt_eq _ _ _ (fun c hc => by rw [hc] at hao; simp [trOp] at hao)).trans hex
            rw [hsem, hrun]
            have hgo : wpAnyIn (fc l) m P .any ops Q fuel (listed.setIfInBounds i true) (a.put oi.dst u) w' := by
              refine ih _ A _ (ast.put oi.dst u) w' tm ob G' (f' + 1) (hD.step hoi hl hdir (fun j => ⟨.inr, fun h => h.elim (fun e => e ▸ hA) id⟩) (st_over hD.st fun t ht => ?_) hD.Y (fun j oj hj hm hji hl' => (hD.rep j oj hj hm hl').2)) hF hw
              rw [htv t (by rw [← hdd]; exact ht)]
              exact hvr
            rcases hnx with rfl | ⟨rfl, rfl⟩
            · exact hgo
            · exact hgo
          · rw [if_neg (by rw [hwant]; simp)]
            refine ⟨fun _ _ => trivial, ?_⟩
            refine ih _ A _ (ast.put oi.dst undef) w tm ob G (f' + 1) (hD.step hoi hl hdir (fun j => ⟨.inr, fun h => h.elim (fun e => e ▸ hA) id⟩) (st_over hD.st fun t ht => ?_) hD.Y (fun j oj hj hm hji hl' => (hD.rep j oj hj hm hl').2)) hF hw
            rw [htv t (by rw [← hdd]; exact ht)]
            exact .junk _
      · have hdirA : ∀ e ∈ oi.after, binds e = true → e.on ∈ A := fun e he hb => by
          obtain ⟨h1, h2⟩ := getD_tf (hdir e he hb)
          exact hD.sub _ (by rw [← hD.size]; exact h2) h1
        have hir : i ∈ rdy ops A := mem_rdy.2 ⟨hA, oi, hoi, hdirA⟩
        have hsep : ∀ k ok, k ∈ A → listed.getD k true = false → ops[k]? = some ok → _ := fun k ok hk hkl hok => sep_spec hchk hok hoi (fun e => hA (e ▸ hk)) (fun hb => hA (bef_clo hchk (S := (· ∈ A)) hD.cloA k ok hok (hD.cloA k ok hok hk) i hb)) (hnl k hkl)
        have hlook : ∀ k ok d, (k ∈ A ∧ listed.getD k true = false) → ops[k]? = some ok → ok.dst = some d → d ∉ oi.looksAt ops := fun k ok d hp hk hd => ((hsep k ok hp.1 hp.2 hk).1 d hd).1
        have hex := hD.va.eval (trOper_noselect hit) hlook
        have hwa := hD.va.wanted hlook
        have hAA : ∀ j, j ∈ i :: A ↔ j = i ∨ j ∈ A := fun j => List.mem_cons
        -- what is pending stays as it was
        have hkeep : ∀ (tm' : Tm) (ob' : Ob), (∀ t, oi.dst ≠ some t → tget tm' t = tget tm t) → stab (ldsOf ops its bs i A) tm ob ob' → ∀ j oj, ops[j]? = some oj → j ∈ A → j ≠ i → listed.getD j true = false → Rep (itAt its j) tm' ob' := by
          intro tm' ob' htm hstab j oj hj hm hji hl'
          obtain ⟨hfj, hrj⟩ := hD.rep j oj hj hm hl'
          obtain ⟨oj', hoj', hs, _⟩ := fst_spec hfj
          have h2 := (hsep j oj hm hl' hj).2
          refine hrj.keep hs (fun t ht => htm t fun hd => (h2 t hd).2.2 ht) (fun d g tk o hjt t hd => htm t fun hd' => ?_) (fun p hp => hstab p ?_)
          · have h5 := htr j oj hj
            rw [hjt] at h5
            exact (h2 t hd').2.1 (by rw [(trDst_spec (trOper_op h5).2.2.1).1, hd])
          · refine List.mem_flatten.2 ⟨itPtrs (itAt its j), List.mem_map.2 ⟨j, List.mem_filter.2 ⟨hm, ?_⟩, rfl⟩, hp⟩
            simp [hfj, hnl j hl']
        have hw' : awpDT P Y kb K ((rdy ops A).foldr (fun i t => .main (ldsOf ops its bs i A) (itAt its i) (mkDT ops its bs f' (i :: A)) t) .stop) tm ob := by
          simp only [mkDT, hfi] at hw
          cases hr : rdy ops A with
          | nil => rw [hr] at hir; cases hir
          | cons x xs => rw [hr] at hw; exact hw
        have hm := awp_alts (rdy ops A) hw' i hir
        obtain ⟨d, g, htd, htg, hcase⟩ := trOper_dg hit
        obtain ⟨hdd, hdlt⟩ := trDst_spec htd
        have hnext : ∀ G' v w' tm' ob', (stab (ldsOf ops its bs i A) tm ob ob' ∧ (∀ t, oi.dst ≠ some t → tget tm' t = tget tm t) ∧ awpDT P Y kb K (mkDT ops its bs f' (i :: A)) tm' ob') → St nt lim G' (ast.put oi.dst v) w' tm' ob' → Fr G w ob G' w' ob' → YOK P Y G' →
            wpAnyIn (fc l) m P .any ops Q fuel (listed.setIfInBounds i true) (a.put oi.dst v) w' := by
          intro G' v w' tm' ob' ⟨h1, h2, h3⟩ hst' hF' hY'
          exact ih _ (i :: A) _ _ w' tm' ob' G' f' (hD.step hoi hl hdir hAA hst' hY' (hkeep tm' ob' h2 h1)) (hF.trans hF') h3
        have hfact : ∀ v : AV, (∀ t, oi.dst ≠ some t → tget (putD d v tm) t = tget tm t) = True := fun v => eq_true fun t ht => tget_putD (by rw [← hdd]; exact ht)
        have hskip : awpDT P Y kb K (mkDT ops its bs f' (i :: A)) (skipD d tm) ob → wpAnyIn (fc l) m P .any ops Q fuel (listed.setIfInBounds i true) (a.put oi.dst undef) w := fun h =>
          hnext G undef w (skipD d tm) ob ⟨fun p _ => peq_refl _ _, fun t ht => tget_skipD (by rw [← hdd]; exact ht), h⟩ (by rw [hdd]; exact st_skip hD.st hdlt) (.refl ..) hD.Y
        rw [hwa]
        rcases hcase with ⟨ao, hI⟩ | ⟨f0, as, hI⟩
        · rw [hI] at hm hit
          simp only [awpDT] at hm
          rcases guard_spec hD.st.tm htg (fun t b hgb => by rw [hD.st.size]; exact hnt oi hmem t b (by rw [htg, hgb])) hm.1 with ⟨hwant, hx⟩ | ⟨hwant, hx⟩
          · rw [if_pos hwant]
            refine oper_sound (kb := kb) (tk := false) hit hex hD.st hD.Y (K := fun tm' ob' => stab (ldsOf ops its bs i A) tm ob ob' ∧ (∀ t, oi.dst ≠ some t → tget tm' t = tget tm t) ∧ awpDT P Y kb K (mkDT ops its bs f' (i :: A)) tm' ob') ?_ hnext
            intro e _
            simp only [Bool.false_eq_true, if_false, hfact, true_and]
            exact hx e
          · rw [if_neg (by rw [hwant]; simp)]
            exact ⟨fun _ _ => trivial, hskip hx⟩
        · rw [hI] at hm hit
          simp only [awpDT] at hm
          rcases guard_spec hD.st.tm htg (fun t b hgb => by rw [hD.st.size]; exact hnt oi hmem t b (by rw [htg, hgb])) hm.1 with ⟨hwant, hx⟩ | ⟨hwant, hx⟩
          · rw [if_pos hwant]
            refine oper_sound (kb := kb) (tk := false) hit hex hD.st hD.Y (K := fun tm' ob' => stab (ldsOf ops its bs i A) tm ob ob' ∧ (∀ t, oi.dst ≠ some t → tget tm' t = tget tm t) ∧ awpDT P Y kb K (mkDT ops its bs f' (i :: A)) tm' ob') ?_ hnext
            simp only [hfact, true_and]
            exact hx
          · rw [if_neg (by rw [hwant]; simp)]
            exact ⟨fun _ _ => trivial, hskip hx⟩
end
end Go.Proofs.RL
