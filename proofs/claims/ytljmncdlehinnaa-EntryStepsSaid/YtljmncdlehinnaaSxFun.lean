/- Functions. -/
import Derived.Test.YtljmncdlehinnaaSxCode
set_option linter.unusedVariables false
set_option linter.unusedSimpArgs false
namespace Go.Sx

section
variable {P : Program} {A : Ann} {Ω : Type} {env : Env Ω} {out : Ω}

theorem rets_sound {cx : Cx} {w : World} {s : SS} {tm : Array Value} (hg : Gam cx s.h w) (ht : TRep cx w s.t tm) : ∀ {rs : List ResultVar} {l : List SV}, resOk P rs = true → rets s (coRes P rs) = some l →
    ∃ vs, (rs.mapM (fun | .tmp t => pure (tm.getD t undef) | .cell a t => do loadVar t (← asAddr (tm.getD a undef)) : ResultVar → Sem Value)).run P w = .ok vs w ∧ SRepL cx w l vs
  | [], l, _, h => by
    simp only [coRes, rets, Option.some.injEq] at h; subst h
    exact ⟨[], by simp, by simp [SRepL]⟩
  | .tmp t :: r, l, hok, h => by
    simp only [coRes, rets] at h
    split at h
    · rename_i l' hl
      simp only [Option.some.injEq] at h; subst h
      obtain ⟨vs, h1, h2⟩ := rets_sound hg ht (by simpa [resOk] using hok) hl
      exact ⟨tm.getD t undef :: vs, by simp only [List.mapM_cons, Sem.run_bind, h1, Result.andThen_ok, Sem.run_pure], by simp only [SRepL]; exact ⟨SRep.lk t ht, h2⟩⟩
    · simp at h
  | .cell a t :: r, l, hok, h => by
    simp only [resOk, Bool.and_eq_true] at hok
    simp only [coRes, rets] at h
    split at h
    · rename_i c l' hc hl
      obtain ⟨vs, h1, h2⟩ := rets_sound hg ht hok.2 hl
      have hst : ∀ v, ((aggT P t = true ∧ v = .agg c) ∨ (aggT P t = false ∧ c = [v])) → ∃ v', (do loadVar t (← asAddr (tm.getD a undef)) : Sem Value).run P w = .ok v' w ∧ SRep cx w v v' := by
        intro v hv
        have hu := okT_ne hok.1
        obtain ⟨ad', c', hp, hlen, hr, hcell⟩ := ld_sound hg.seen (SRep.lk a ht) hc
        simp only [Sem.run_bind, hp, asAddr, Sem.run_pure, Result.andThen_ok]
        rcases hv with ⟨ha, rfl⟩ | ⟨ha, rfl⟩
        · refine ⟨.agg ⟨c'⟩, ?_, by simp only [SRep]; exact ⟨c', rfl, hr⟩⟩
          have hln : szT P t = c'.length := by rw [← hr.length, hlen]; simp [ldT, ha]
          have := run_loadCells_list (P := P) (w := w) ad' c' hcell
          simp [loadVar, run_aggT w hu, ha, run_szT w (info_of_uT hu).2, hln, this]
        · have hln := hr.length
          match c', hln, hr, hcell with
          | [v'], _, hr, hcell =>
            refine ⟨v', ?_, by simp only [SRepL] at hr; exact hr.1⟩
            have h0 := hcell 0 v' rfl
            have : (ad'.add 0) = ad' := by simp [Addr.add]
            rw [this] at h0
            simp [loadVar, run_aggT w hu, ha, load, Sem.run, h0]
      cases ha : aggT P t with
      | true =>
        rw [ha] at h
        simp only [cond_true, Option.some.injEq] at h; subst h
        obtain ⟨v', h3, h4⟩ := hst _ (.inl ⟨ha, rfl⟩)
        exact ⟨v' :: vs, by rw [List.mapM_cons, Sem.run_bind, h3]; simp only [Sem.run_bind, h1, Result.andThen_ok, Sem.run_pure], by simp only [SRepL]; exact ⟨h4, h2⟩⟩
      | false =>
        rw [ha] at h
        simp only [cond_false] at h
        split at h
        · rename_i x
          simp only [Option.some.injEq] at h; subst h
          obtain ⟨v', h3, h4⟩ := hst x (.inr ⟨ha, rfl⟩)
          exact ⟨v' :: vs, by rw [List.mapM_cons, Sem.run_bind, h3]; simp only [Sem.run_bind, h1, Result.andThen_ok, Sem.run_pure], by simp only [SRepL]; exact ⟨h4, h2⟩⟩
        · simp at h
    · simp at h

theorem number_mem : ∀ {l : List SV} {i : Nat} {p : Nat × SV}, p ∈ number l i → i ≤ p.1 ∧ l[p.1 - i]? = some p.2
  | [], i, p, h => by simp [number] at h
  | x :: r, i, p, h => by
    have tail : p ∈ number r (i + 1) → i ≤ p.1 ∧ (x :: r)[p.1 - i]? = some p.2 := fun h => by
      obtain ⟨h1, h2⟩ := number_mem h
      refine ⟨by omega, ?_⟩
      rw [show p.1 - i = (p.1 - (i + 1)) + 1 by omega]; simpa using h2
    simp only [number] at h
    split at h
    · exact tail h
    · rcases List.mem_cons.1 h with rfl | h
      · simp
      · exact tail h

theorem number_uniq : ∀ {l : List SV} {i : Nat}, Uniq (number l i)
  | [], i => by simp [number, Uniq]
  | x :: r, i => by
    simp only [number]
    split
    · exact number_uniq
    · exact List.pairwise_cons.2 ⟨fun p hp => by have := (number_mem hp).1; simp; omega, number_uniq⟩

theorem tup1_sound {cx : Cx} {w : World} {l : List SV} {vs : List Value} (h : SRepL cx w l vs) : SRep cx w (tup1 l) (if h : (⟨vs⟩ : Array Value).size = 1 then (⟨vs⟩ : Array Value)[0] else .tuple ⟨vs⟩) := by
  match l, vs, h with
  | [], [], h => simp only [tup1, SRep]; exact ⟨[], rfl, h⟩
  | [x], [v], h => simp only [SRepL] at h; simpa [tup1] using h.1
  | x :: y :: r, v :: u :: vs, h => simp only [tup1, SRep]; exact ⟨v :: u :: vs, by simp, h⟩
  | [], _ :: _, h => simp [SRepL] at h
  | _ :: _, [], h => simp [SRepL] at h
  | [x], v :: u :: vs, h => simp [SRepL] at h
  | x :: y :: r, [v], h => simp [SRepL] at h

/-- A function, run from a symbolic heap. -/
theorem fn_calls {env : Env (SV × SH)} (he : EnvOK P env) (hmix : P.follows .mixedOrders = true) {g : Nat} {fn : Func} (hf : P.funcs[g]? = some fn) {C : CF} (hC : coF P fn = some C) {args : List SV} {h h' : SH} {r : SV}
    (hrun : sxFn env A C args h (fun r h => some (r, h)) = some (r, h')) (cx : Cx) (w : World) (vals : List Value) (hg : Gam cx h w) (ha : SRepL cx w args vals) :
    Calls P g ⟨vals⟩ w fun e w' => ∃ v cx', e = .returned v ∧ Grow A.p cx w cx' w' ∧ SRep cx' w' r v ∧ Gam cx' h' w' := by
  unfold coF at hC
  split at hC
  · rename_i c hb
    split at hC
    · rename_i cc hcc
      obtain ⟨hchk, hC⟩ := cond_some hC
      simp only [Bool.and_eq_true] at hchk
      simp only [Option.some.injEq] at hC; subst hC
      simp only [sxFn] at hrun
      obtain ⟨hlen, hrun⟩ := cond_some hrun
      have hlen := nbeq.1 hlen
      have hnt := Nat.le_of_ble_eq_true hchk.1
      have hal := ha.length
      have hsz : ((⟨vals⟩ : Array Value) ++ Array.replicate (fn.ntmps - (⟨vals⟩ : Array Value).size) undef).size = fn.ntmps := by simp; omega
      refine calls_of_wp hf hb (sx_sound he hmix c cc 0 _ _ hcc hrun _ cx w _ hsz number_uniq hg (fun i x hx => ?_) fun e s' cx' w' a' h1 h2 h3 h4 h5 h6 => ?_)
      · obtain ⟨_, h2⟩ := number_mem hx
        simp only [Nat.sub_zero] at h2
        obtain ⟨v, h3, h4⟩ := ha.get h2
        have hil := (List.getElem?_eq_some_iff.1 h3).1
        refine ⟨by rw [hsz]; omega, ?_⟩
        rw [Array.getD_eq_getD_getElem?, Array.getElem?_append_left (by simpa using hil)]
        simp only [List.getElem?_toArray, h3, Option.getD_some]
        exact h4
      · have fin : ∀ l, rets s' (coRes P fn.results.toList) = some l → some (tup1 l, s'.h) = some (r, h') →
            a'.defers = [] ∧ ∃ v, (results fn a'.tmps).run P w' = .ok v w' ∧ ∃ v' cx', (Ending.returned v) = .returned v' ∧ Grow A.p cx w cx' w' ∧ SRep cx' w' r v' ∧ Gam cx' h' w' := by
          intro l hl hz
          obtain ⟨vs, k1, k2⟩ := rets_sound h5 h6 hchk.2 hl
          simp only [Option.some.injEq, Prod.mk.injEq] at hz
          obtain ⟨rfl, rfl⟩ := hz
          refine ⟨h2.defers, _, ?_, _, cx', rfl, h4, tup1_sound k2, h5⟩
          have e1 : fn.results = fn.results.toList.toArray := by simp
          unfold results
          rw [e1, List.mapM_toArray, Sem.run_bind, Sem.run_map]
          refine (congrArg (fun z => Result.andThen (Result.andThen z fun a w' => Result.ok a.toArray w') fun a w' => Sem.run P (pure (if h : a.size = 1 then a[0] else Value.tuple a)) w') k1).trans ?_
          rfl
        cases e with
        | exit i => simp at h1
        | norm =>
          simp only at h1
          split at h1
          · rename_i l hl; exact fin l hl h1
          · simp at h1
        | ret =>
          simp only at h1
          split at h1
          · rename_i l hl; exact fin l hl h1
          · simp at h1
    · simp at hC
  · simp at hC
end
end Go.Sx
