/- Functions. -/
import Derived.Test.YtppkbofmgjkboaaSxCode
import Derived.WalkKit
import Derived.ProofKit
import Derived.OpenShut
import Derived.ReadAgain
set_option linter.all false
set_option linter.unusedVariables false
set_option linter.unusedSimpArgs false
set_option linter.unnecessarySimpa false
namespace Go.Sx

section
variable {P : Program} {A : Ann} {Ω : Type} {env : Env Ω} {out : Ω}

theorem rets_sound {cx : Cx} {w : World} {s : SS} {tm : Array Value} (hg : Gam cx s.h w) (ht : TRep cx w s.t tm) : ∀ {rs : List ResultVar} {l : List SV}, resOk P rs = true → rets s (coRes P rs) = some l →
    ∃ vs, (rs.mapM (fun | .tmp t => pure (tm.getD t undef) | .cell a t => do loadVar t (← asAddr (tm.getD a undef)) : ResultVar → Sem Value)).run P w = .ok vs w ∧ SRepL cx w l vs
  | [], l, _, h => by
    simp only [coRes, rets, Option.some.injEq] at h; subst h
    exact ⟨[], by simp, by simp [SRepL]⟩
  | .tmp t :: r, l, hok, h => by
    simp only [coRes, rets] at h
    split at h
    · rename_i l' hl
      simp only [Option.some.injEq] at h; subst h
      obtain ⟨vs, h1, h2⟩ := rets_sound hg ht (by simpa [resOk] using hok) hl
      exact ⟨tm.getD t undef :: vs, by simp only [List.mapM_cons, Sem.run_bind, h1, Result.andThen_ok, Sem.run_pure], by simp only [SRepL]; exact ⟨SRep.lk t ht, h2⟩⟩
    · simp at h
  | .cell a t :: r, l, hok, h => by
    simp only [resOk, Bool.and_eq_true] at hok
    simp only [coRes, rets] at h
    split at h
    · rename_i c l' hc hl
      obtain ⟨vs, h1, h2⟩ := rets_sound hg ht hok.2 hl
      have hst : ∀ v, ((aggT P t = true ∧ v = .agg c) ∨ (aggT P t = false ∧ c = [v])) → ∃ v', (do loadVar t (← asAddr (tm.getD a undef)) : Sem Value).run P w = .ok v' w ∧ SRep cx w v v' := by
        intro v hv
        have hu := okT_ne hok.1
        obtain ⟨ad', c', hp, hlen, hr, hcell⟩ := ld_sound hg.seen (SRep.lk a ht) hc
        simp only [Sem.run_bind, hp, asAddr, Sem.run_pure, Result.andThen_ok]
        rcases hv with ⟨ha, rfl⟩ | ⟨ha, rfl⟩
        · refine ⟨.agg ⟨c'⟩, ?_, by simp only [SRep]; exact ⟨c', rfl, hr⟩⟩
          have hln : szT P t = c'.length := by rw [← hr.length, hlen]; simp [ldT, ha]
          have := run_loadCells_list (P := P) (w := w) ad' c' hcell
          simp [loadVar, run_aggT w hu, ha, run_szT w (info_of_uT hu).2, hln, this]
        · have hln := hr.length
          match c', hln, hr, hcell with
          | [v'], _, hr, hcell =>
            refine ⟨v', ?_, by simp only [SRepL] at hr; exact hr.1⟩
            have h0 := hcell 0 v' rfl
            have : (ad'.add 0) = ad' := by simp [Addr.add]
            rw [this] at h0
            simp [loadVar, run_aggT w hu, ha, load, Sem.run, h0]
      cases ha : aggT P t with
      | true =>
        rw [ha] at h
        simp only [cond_true, Option.some.injEq] at h; subst h
        obtain ⟨v', h3, h4⟩ := hst _ (.inl ⟨ha, rfl⟩)
        exact ⟨v' :: vs, by rw [List.mapM_cons, Sem.run_bind, h3]; simp only [Sem.run_bind, h1, Result.andThen_ok, Sem.run_pure], by simp only [SRepL]; exact ⟨h4, h2⟩⟩
      | false =>
        rw [ha] at h
        simp only [cond_false] at h
        split at h
        · rename_i x
          simp only [Option.some.injEq] at h; subst h
          obtain ⟨v', h3, h4⟩ := hst x (.inr ⟨ha, rfl⟩)
          exact ⟨v' :: vs, by rw [List.mapM_cons, Sem.run_bind, h3]; simp only [Sem.run_bind, h1, Result.andThen_ok, Sem.run_pure], by simp only [SRepL]; exact ⟨h4, h2⟩⟩
        · simp at h
    · simp at h

theorem number_mem : ∀ {l : List SV} {i : Nat} {p : Nat × SV}, p ∈ number l i → i ≤ p.1 ∧ l[p.1 - i]? = some p.2
  | [], i, p, h => by simp [number] at h
  | x :: r, i, p, h => by
    have tail : p ∈ number r (i + 1) → i ≤ p.1 ∧ (x :: r)[p.1 - i]? = some p.2 := fun h => by
      obtain ⟨h1, h2⟩ := number_mem h
      refine ⟨by omega, ?_⟩
      rw [show p.1 - i = (p.1 - (i + 1)) + 1 by omega]; simpa using h2
    simp only [number] at h
    split at h
    · exact tail h
    · rcases List.mem_cons.1 h with rfl | h
      · simp
      · exact tail h

theorem number_uniq : ∀ {l : List SV} {i : Nat}, Uniq (number l i)
  | [], i => by simp [number, Uniq]
  | x :: r, i => by
    simp only [number]
    split
    · exact number_uniq
    · exact List.pairwise_cons.2 ⟨fun p hp => by have := (number_mem hp).1; simp; omega, number_uniq⟩

theorem tup1_sound {cx : Cx} {w : World} {l : List SV} {vs : List Value} (h : SRepL cx w l vs) : SRep cx w (tup1 l) (if h : (⟨vs⟩ : Array Value).size = 1 then (⟨vs⟩ : Array Value)[0] else .tuple ⟨vs⟩) := by
  match l, vs, h with
  | [], [], h => simp only [tup1, SRep]; exact ⟨[], rfl, h⟩
  | [x], [v], h => simp only [SRepL] at h; simpa [tup1] using h.1
  | x :: y :: r, v :: u :: vs, h => simp only [tup1, SRep]; exact ⟨v :: u :: vs, by simp, h⟩
  | [], _ :: _, h => simp [SRepL] at h
  | _ :: _, [], h => simp [SRepL] at h
  | [x], v :: u :: vs, h => simp [SRepL] at h
  | x :: y :: r, [v], h => simp [SRepL] at h

/-- A function, run from a symbolic heap. -/
theorem fn_calls {env : Env (SV × SH)} (he : EnvOK P env) (hmix : P.follows .mixedOrders = true) {g : Nat} {fn : Func} (hf : P.funcs[g]? = some fn) {C : CF} (hC : coF P fn = some C) {args : List SV} {h h' : SH} {r : SV}
    (hrun : sxFn env A C args h (fun r h => some (r, h)) = some (r, h')) (cx : Cx) (w : World) (vals : List Value) (hg : Gam cx h w) (ha : SRepL cx w args vals) :
    Calls P g ⟨vals⟩ w fun e w' => ∃ v cx', e = .returned v ∧ Grow A.p cx w cx' w' ∧ SRep cx' w' r v ∧ Gam cx' h' w' := by
  unfold coF at hC
  split at hC
  · rename_i c hb
    split at hC
    · rename_i cc hcc
      obtain ⟨hchk, hC⟩ := cond_some hC
      simp only [Bool.and_eq_true] at hchk
      simp only [Option.some.injEq] at hC; subst hC
      simp only [sxFn] at hrun
      obtain ⟨hlen, hrun⟩ := cond_some hrun
      have hlen := nbeq.1 hlen
      have hnt := Nat.le_of_ble_eq_true hchk.1
      have hal := ha.length
      have hsz : ((⟨vals⟩ : Array Value) ++ Array.replicate (fn.ntmps - (⟨vals⟩ : Array Value).size) undef).size = fn.ntmps := by simp; omega
      refine calls_of_wp hf hb (sx_sound he hmix c cc 0 _ _ hcc hrun _ cx w _ hsz number_uniq hg (fun i x hx => ?_) fun e s' cx' w' a' h1 h2 h3 h4 h5 h6 => ?_)
      · obtain ⟨_, h2⟩ := number_mem hx
        simp only [Nat.sub_zero] at h2
        obtain ⟨v, h3, h4⟩ := ha.get h2
        have hil := (List.getElem?_eq_some_iff.1 h3).1
        refine ⟨by rw [hsz]; omega, ?_⟩
        rw [Array.getD_eq_getD_getElem?, Array.getElem?_append_left (by simpa using hil)]
        simp only [List.getElem?_toArray, h3, Option.getD_some]
        exact h4
      · have fin : ∀ l, rets s' (coRes P fn.results.toList) = some l → some (tup1 l, s'.h) = some (r, h') →
            a'.defers = [] ∧ ∃ v, (results fn a'.tmps).run P w' = .ok v w' ∧ ∃ v' cx', (Ending.returned v) = .returned v' ∧ Grow A.p cx w cx' w' ∧ SRep cx' w' r v' ∧ Gam cx' h' w' := by
          intro l hl hz
          obtain ⟨vs, k1, k2⟩ := rets_sound h5 h6 hchk.2 hl
          simp only [Option.some.injEq, Prod.mk.injEq] at hz
          obtain ⟨rfl, rfl⟩ := hz
          refine ⟨h2.defers, _, ?_, _, cx', rfl, h4, tup1_sound k2, h5⟩
          have e1 : fn.results = fn.results.toList.toArray := by simp
          unfold results
          rw [e1, List.mapM_toArray, Sem.run_bind, Sem.run_map]
          refine (congrArg (fun z => Result.andThen (Result.andThen z fun a w' => Result.ok a.toArray w') fun a w' => Sem.run P (pure (if h : a.size = 1 then a[0] else Value.tuple a)) w') k1).trans ?_
          rfl
        cases e with
        | exit i => simp at h1
        | norm =>
          simp only at h1
          split at h1
          · rename_i l hl; exact fin l hl h1
          · simp at h1
        | ret =>
          simp only at h1
          split at h1
          · rename_i l hl; exact fin l hl h1
          · simp at h1
    · simp at hC
  · simp at hC
end
end Go.Sx

/- The interpreter reaches one end, whatever follows: it is parametric in its continuation. -/
namespace Go.Sx

section
variable {Ω Ω' : Type} {out : Ω}

theorem caseIx_par {V : Type} {i : Int} {g : Nat → (V → Option Ω) → Option Ω} {g' : Nat → (V → Option Ω') → Option Ω'} {k : V → Option Ω} (hg : ∀ j, g j k = some out → ∃ v, k v = some out ∧ ∀ k', g' j k' = k' v) :
    ∀ (n j : Nat), caseIx i (fun j => g j k) n j = some out → ∃ v, k v = some out ∧ ∀ k', caseIx i (fun j => g' j k') n j = k' v
  | 0, j, h => by simp [caseIx] at h
  | n + 1, j, h => by
    simp only [caseIx] at h ⊢
    rcases br_some h with ⟨e, h⟩ | ⟨e, h⟩
    · obtain ⟨v, h1, h2⟩ := hg j h
      exact ⟨v, h1, fun k' => by rw [e]; exact h2 k'⟩
    · obtain ⟨v, h1, h2⟩ := caseIx_par hg n (j + 1) h
      exact ⟨v, h1, fun k' => by rw [e]; exact h2 k'⟩

theorem cmp_par {o : BinOp} {x y : Int} {k : Bool → Option Ω} (h : cmp o x y k = some out) : ∃ v, k v = some out ∧ ∀ k' : Bool → Option Ω', cmp o x y k' = k' v := by
  cases o <;> simp only [cmp, reduceCtorEq] at h ⊢
  all_goals exact ⟨_, h, fun _ => rfl⟩

theorem arith_par {o : BinOp} {ka : IntKind} {x y : Int} {k : Int → Option Ω} (h : arith o ka x y k = some out) : ∃ v, k v = some out ∧ ∀ k' : Int → Option Ω', arith o ka x y k' = k' v := by
  cases o <;> simp only [arith, reduceCtorEq] at h ⊢
  case quo => rcases br_some h with ⟨_, h⟩ | ⟨e, h⟩
              · cases h
              · exact ⟨_, h, fun _ => by rw [e]; rfl⟩
  case rem => rcases br_some h with ⟨_, h⟩ | ⟨e, h⟩
              · cases h
              · exact ⟨_, h, fun _ => by rw [e]; rfl⟩
  all_goals exact ⟨_, h, fun _ => rfl⟩

theorem bop_par {o : BinOp} {a b : SV} {k : SV → Option Ω} (h : bop o a b k = some out) : ∃ v, k v = some out ∧ ∀ k' : SV → Option Ω', bop o a b k' = k' v := by
  unfold bop at h ⊢
  split at h
  · split at h
    · rcases br_some h with ⟨_, h⟩ | ⟨e, h⟩
      · cases h
      · exact ⟨_, h, fun _ => by simp only [e]; rfl⟩
    · rcases br_some h with ⟨_, h⟩ | ⟨e, h⟩
      · cases h
      · exact ⟨_, h, fun _ => by simp only [e]; rfl⟩
    · obtain ⟨e, h⟩ := cond_some h
      cases hc : isCmp o with
      | true =>
        simp only [hc, cond_true] at h
        obtain ⟨v, h1, h2⟩ := cmp_par (Ω' := Ω') h
        exact ⟨_, h1, fun k' => by simp only [e, cond_true, h2]⟩
      | false =>
        simp only [hc, cond_false] at h
        obtain ⟨v, h1, h2⟩ := arith_par (Ω' := Ω') h
        exact ⟨_, h1, fun k' => by simp only [e, cond_true, cond_false, h2]⟩
  · split at h
    · rcases br_some h with ⟨e, h⟩ | ⟨_, h⟩
      · exact ⟨_, h, fun _ => by simp only [e]; rfl⟩
      · cases h
    · cases h
  · cases h

theorem unop_par {o : UnOp} {a : SV} {k : SV → Option Ω} (h : unop o a k = some out) : ∃ v, k v = some out ∧ ∀ k' : SV → Option Ω', unop o a k' = k' v := by
  unfold unop at h ⊢
  split at h
  · exact ⟨_, h, fun _ => rfl⟩
  · exact ⟨_, h, fun _ => rfl⟩
  · cases h

theorem ixArr_par {n sz : Nat} {x : SV} {i : Int} {k : SV → Option Ω} (h : ixArr n sz x i k = some out) : ∃ v, k v = some out ∧ ∀ k' : SV → Option Ω', ixArr n sz x i k' = k' v := by
  unfold ixArr at h ⊢
  refine caseIx_par (g := fun j k => match addO x (j * sz) with | some p => k p | none => none) (g' := fun j k => match addO x (j * sz) with | some p => k p | none => none) (fun j hj => ?_) n 0 h
  split at hj
  · rename_i p e
    exact ⟨_, hj, fun _ => rfl⟩
  · cases hj

theorem ixAgg_par {n sz : Nat} {a : Bool} {x : SV} {i : Int} {k : SV → Option Ω} (h : ixAgg n sz a x i k = some out) : ∃ v, k v = some out ∧ ∀ k' : SV → Option Ω', ixAgg n sz a x i k' = k' v := by
  unfold ixAgg at h ⊢
  split at h
  · rename_i c
    refine caseIx_par (g := fun j k => bif a || Nat.blt (j * sz) c.length then k (partS a sz (j * sz) c) else none) (g' := fun j k => bif a || Nat.blt (j * sz) c.length then k (partS a sz (j * sz) c) else none) (fun j hj => ?_) n 0 h
    obtain ⟨e, hj⟩ := cond_some hj
    exact ⟨_, hj, fun _ => by simp only [e, cond_true]⟩
  · cases h

theorem ixStr_par {x : SV} {i : Int} {k : SV → Option Ω} (h : ixStr x i k = some out) : ∃ v, k v = some out ∧ ∀ k' : SV → Option Ω', ixStr x i k' = k' v := by
  unfold ixStr at h ⊢
  split at h
  · rcases br_some h with ⟨e, h⟩ | ⟨_, h⟩
    · exact ⟨_, h, fun _ => by simp only [e]; rfl⟩
    · cases h
  · cases h

theorem ixSl_par {hp : SH} {sz : Nat} {x : SV} {i : Int} {k : SV → Option Ω} (h : ixSl hp sz x i k = some out) : ∃ v, k v = some out ∧ ∀ k' : SV → Option Ω', ixSl hp sz x i k' = k' v := by
  unfold ixSl at h ⊢
  split at h
  · obtain ⟨e, h⟩ := cond_some h
    rcases br_some h with ⟨e2, h⟩ | ⟨_, h⟩
    · exact ⟨_, h, fun _ => by simp only [e, e2]; rfl⟩
    · cases h
  · obtain ⟨e, h⟩ := cond_some h
    rcases br_some h with ⟨e2, h⟩ | ⟨_, h⟩
    · exact ⟨_, h, fun _ => by simp only [e, e2]; rfl⟩
    · cases h
  · split at h
    · rename_i hg
      obtain ⟨e, h⟩ := cond_some h
      rcases br_some h with ⟨e2, h⟩ | ⟨_, h⟩
      · exact ⟨_, h, fun _ => by simp only [e, e2]; rfl⟩
      · cases h
    · rename_i hg
      obtain ⟨e, h⟩ := cond_some h
      rcases br_some h with ⟨e2, h⟩ | ⟨_, h⟩
      · exact ⟨_, h, fun _ => by simp only [e, e2]; rfl⟩
      · cases h
    · cases h
  · rename_i l o sz' n c
    obtain ⟨e, h⟩ := cond_some h
    obtain ⟨v, h1, h2⟩ := caseIx_par (i := i) (g := fun j (k : SV → Option Ω) => k (.ptr l (o + j * sz'))) (g' := fun j (k : SV → Option Ω') => k (.ptr l (o + j * sz'))) (k := k) (fun j hj => ⟨_, hj, fun _ => rfl⟩) n 0 h
    exact ⟨v, h1, fun k' => by simp only [e, cond_true]; exact h2 k'⟩
  · cases h

theorem slcS_par {z : Nat} {x : SV} {a b c : Option SV} {k : SV → Option Ω} (h : slcS z x a b c k = some out) : ∃ v, k v = some out ∧ ∀ k' : SV → Option Ω', slcS z x a b c k' = k' v := by
  unfold slcS at h ⊢
  split at h
  · split at h
    · rename_i e1 e2 e3
      obtain ⟨e, h⟩ := cond_some h
      rcases br_some h with ⟨e4, h⟩ | ⟨_, h⟩
      · exact ⟨_, h, fun _ => by simp only [e, e4]; rfl⟩
      · cases h
    · cases h
  · split at h
    · rename_i e1 e2 e3
      obtain ⟨e, h⟩ := cond_some h
      rcases br_some h with ⟨e4, h⟩ | ⟨_, h⟩
      · exact ⟨_, h, fun _ => by simp only [e, e4]; rfl⟩
      · cases h
    · cases h
  · split at h
    · rename_i e1 e2 e3
      obtain ⟨e, h⟩ := cond_some h
      rcases br_some h with ⟨e4, h⟩ | ⟨_, h⟩
      · exact ⟨_, h, fun _ => by simp only [e, e4]; rfl⟩
      · cases h
    · cases h
  · cases h

theorem findS_par {V : Type} {q : Value} {kn : (V → Option Ω) → Option Ω} {kn' : (V → Option Ω') → Option Ω'} {f : SV → V} {k : V → Option Ω} (hn : kn k = some out → ∃ v, k v = some out ∧ ∀ k', kn' k' = k' v) :
    ∀ {es : List (Value × SV)}, findS q (kn k) (fun x => k (f x)) es = some out → ∃ v, k v = some out ∧ ∀ k', findS q (kn' k') (fun x => k' (f x)) es = k' v
  | [], h => by simp only [findS] at h ⊢; exact hn h
  | (p, x) :: r, h => by
    simp only [findS] at h ⊢
    split at h
    · rename_i b e
      rcases br_some h with ⟨e2, h⟩ | ⟨e2, h⟩
      · exact ⟨_, h, fun k' => by simp only [e2]; rfl⟩
      · obtain ⟨v, h1, h2⟩ := findS_par hn (es := r) h
        exact ⟨v, h1, fun k' => by simp only [e2]; exact h2 k'⟩
    · cases h
end
end Go.Sx

/- The interpreter is parametric in its continuation, second part: operations, regions, code, functions. -/
namespace Go.Sx

/-- Two environments that tell the same of each callee. -/
def EnvPar {Ω Ω' : Type} (env : Env Ω) (env' : Env Ω') : Prop :=
  ∀ g sp, env g = some sp → ∃ sp', env' g = some sp' ∧ ∀ args h k out, sp args h k = some out → ∃ r m sc h', k r m sc h' = some out ∧ ∀ k', sp' args h k' = k' r m sc h'

section
variable {Ω Ω' : Type} {out : Ω} {env : Env Ω} {env' : Env Ω'} {A : Ann}

theorem putOwn_par {s : SS} {a : SV} {o : SO} {k : SV → List Nat → SS → Option Ω} (h : putOwn A s a o k = some out) : ∃ v m s', k v m s' = some out ∧ ∀ k' : SV → List Nat → SS → Option Ω', putOwn A s a o k' = k' v m s' := by
  unfold putOwn at h ⊢
  split at h
  · obtain ⟨e, h⟩ := cond_some h; exact ⟨_, _, _, h, fun _ => by simp only [e, cond_true]⟩
  · obtain ⟨e, h⟩ := cond_some h; exact ⟨_, _, _, h, fun _ => by simp only [e, cond_true]⟩
  · exact ⟨_, _, _, h, fun _ => rfl⟩

theorem appS_par {s : SS} {e sz b : Nat} {kd : Option IntKind} {x y : SV} {k : SV → List Nat → SS → Option Ω} (h : appS A s e sz b kd x y k = some out) : ∃ v m s', k v m s' = some out ∧ ∀ k' : SV → List Nat → SS → Option Ω', appS A s e sz b kd x y k' = k' v m s' := by
  unfold appS at h ⊢
  obtain ⟨e1, h⟩ := cond_some h
  simp only [e1, cond_true]
  split at h
  · split at h
    · rcases br_some h with ⟨e4, h⟩ | ⟨_, h⟩
      · obtain ⟨v, m, s', h1, h2⟩ := putOwn_par (Ω' := Ω') h
        exact ⟨v, m, s', h1, fun k' => by simp only [e4]; exact h2 k'⟩
      · cases h
    · cases h
  · split at h
    · rcases br_some h with ⟨e4, h⟩ | ⟨_, h⟩
      · obtain ⟨v, m, s', h1, h2⟩ := putOwn_par (Ω' := Ω') h
        exact ⟨v, m, s', h1, fun k' => by simp only [e4]; exact h2 k'⟩
      · cases h
    · cases h

theorem lift_par {s : SS} {F : (SV → Option Ω) → Option Ω} {F' : (SV → Option Ω') → Option Ω'} {k : SV → List Nat → SS → Option Ω} (hF : ∀ k : SV → Option Ω, F k = some out → ∃ v, k v = some out ∧ ∀ k', F' k' = k' v) (h : F (fun r => k r [] s) = some out) :
    ∃ v m s', k v m s' = some out ∧ ∀ k' : SV → List Nat → SS → Option Ω', F' (fun r => k' r [] s) = k' v m s' := by
  obtain ⟨v, h1, h2⟩ := hF _ h
  exact ⟨v, [], s, h1, fun k' => h2 _⟩

theorem sop_par (he : EnvPar env env') {op : CO} {s : SS} {k : SV → List Nat → SS → Option Ω} (h : sop env A op s k = some out) : ∃ v m s', k v m s' = some out ∧ ∀ k' : SV → List Nat → SS → Option Ω', sop env' A op s k' = k' v m s' := by
  cases op <;> simp only [sop] at h ⊢
  case mv => exact ⟨_, _, _, h, fun _ => rfl⟩
  case pick =>
    split at h
    · exact ⟨_, _, _, h, fun _ => rfl⟩
    · rcases br_some h with ⟨e, h⟩ | ⟨e, h⟩
      · exact ⟨_, _, _, h, fun _ => by simp only [e]; rfl⟩
      · exact ⟨_, _, _, h, fun _ => by simp only [e]; rfl⟩
    · cases h
  case ld n a x =>
    split at h
    · cases a with
      | true => exact ⟨_, _, _, h, fun _ => rfl⟩
      | false =>
        simp only [cond_false] at h ⊢
        split at h
        · exact ⟨_, _, _, h, fun _ => rfl⟩
        · cases h
    · cases h
  case st =>
    split at h
    · obtain ⟨e, h⟩ := cond_some h
      simp only [e, cond_true]
      split at h
      · exact ⟨_, _, _, h, fun _ => rfl⟩
      · cases h
    · cases h
  case bin => exact lift_par (F := fun k => bop _ _ _ k) (F' := fun k => bop _ _ _ k) (fun _ h => bop_par h) h
  case un => exact lift_par (F := fun k => unop _ _ k) (F' := fun k => unop _ _ k) (fun _ h => unop_par h) h
  case slc => exact lift_par (F := fun k => slcS _ _ _ _ _ k) (F' := fun k => slcS _ _ _ _ _ k) (fun _ h => slcS_par h) h
  case app => exact appS_par h
  case ixa =>
    split at h
    · exact lift_par (F := fun k => ixArr _ _ _ _ k) (F' := fun k => ixArr _ _ _ _ k) (fun _ h => ixArr_par h) h
    · cases h
  case ixs =>
    split at h
    · exact lift_par (F := fun k => ixSl _ _ _ _ k) (F' := fun k => ixSl _ _ _ _ k) (fun _ h => ixSl_par h) h
    · cases h
  case ixg =>
    split at h
    · exact lift_par (F := fun k => ixAgg _ _ _ _ _ k) (F' := fun k => ixAgg _ _ _ _ _ k) (fun _ h => ixAgg_par h) h
    · cases h
  case ixc =>
    split at h
    · exact lift_par (F := fun k => ixStr _ _ k) (F' := fun k => ixStr _ _ k) (fun _ h => ixStr_par h) h
    · cases h
  case mks =>
    split at h
    · rcases br_some h with ⟨e, h⟩ | ⟨_, h⟩
      · simp only [e]
        split at h
        · split at h
          · exact ⟨_, _, _, h, fun _ => rfl⟩
          · cases h
        · split at h
          · exact ⟨_, _, _, h, fun _ => rfl⟩
          · cases h
      · cases h
    · cases h
  case call =>
    split at h
    · split at h
      · rename_i hg
        obtain ⟨sp', h1, h2⟩ := he _ _ hg
        obtain ⟨r, m, sc, h', h3, h4⟩ := h2 _ _ _ _ h
        obtain ⟨e, h3⟩ := cond_some h3
        exact ⟨_, _, _, h3, fun k' => by simp only [h1, h4, e, cond_true]⟩
      · cases h
    · cases h
  case mn =>
    split at h
    · obtain ⟨e, h⟩ := cond_some h; exact ⟨_, _, _, h, fun _ => by simp only [e, cond_true]⟩
    · cases h
  case mx =>
    split at h
    · obtain ⟨e, h⟩ := cond_some h; exact ⟨_, _, _, h, fun _ => by simp only [e, cond_true]⟩
    · cases h
  case lku kk z ok m q =>
    split at h
    · exact ⟨_, _, _, h, fun _ => rfl⟩
    · split at h
      · split at h
        · obtain ⟨e1, h⟩ := cond_some h
          rcases br_some h with ⟨e, h⟩ | ⟨_, h⟩
          · exact ⟨_, _, _, h, fun _ => by simp only [e1, e, cond_true]; rfl⟩
          · cases h
        · cases h
      · split at h
        · rcases br_some h with ⟨e, h⟩ | ⟨_, h⟩
          · exact ⟨_, _, _, h, fun _ => by simp only [e]; rfl⟩
          · cases h
        · cases h
      · rename_i q' _ _ _ es _
        exact lift_par (F := fun k => findS _ (k (two ok z false)) (fun x => k (two ok x true)) es) (F' := fun k => findS _ (k (two ok z false)) (fun x => k (two ok x true)) es)
          (fun k h => findS_par (kn := fun k => k (two ok z false)) (kn' := fun k => k (two ok z false)) (f := fun x => two ok x true) (fun h => ⟨_, h, fun _ => rfl⟩) h) h
      · cases h
    · rename_i ks xs q' _ _
      exact lift_par (F := fun k => findS _ (k (two ok z false)) (fun x => k (two ok x true)) (ks.zip xs)) (F' := fun k => findS _ (k (two ok z false)) (fun x => k (two ok x true)) (ks.zip xs))
        (fun k h => findS_par (kn := fun k => k (two ok z false)) (kn' := fun k => k (two ok z false)) (f := fun x => two ok x true) (fun h => ⟨_, h, fun _ => rfl⟩) h) h
    · cases h
  case upd kk m q x =>
    split at h
    · split at h
      · obtain ⟨e1, h⟩ := cond_some h
        rcases br_some h with ⟨e, h⟩ | ⟨_, h⟩
        · exact ⟨_, _, _, h, fun _ => by simp only [e1, e, cond_true]; rfl⟩
        · cases h
      · rcases br_some h with ⟨e, h⟩ | ⟨_, h⟩
        · exact ⟨_, _, _, h, fun _ => by simp only [e]; rfl⟩
        · cases h
      · obtain ⟨e, h⟩ := cond_some h; exact ⟨_, _, _, h, fun _ => by simp only [e, cond_true]⟩
      · cases h
    · cases h
  case del kk m q =>
    split at h
    · split at h
      · rcases br_some h with ⟨e, h⟩ | ⟨_, h⟩
        · exact ⟨_, _, _, h, fun _ => by simp only [e]; rfl⟩
        · cases h
      · rcases br_some h with ⟨e, h⟩ | ⟨_, h⟩
        · exact ⟨_, _, _, h, fun _ => by simp only [e]; rfl⟩
        · cases h
      · cases h
    · cases h
  all_goals (repeat' (split at h))
  all_goals first
    | exact ⟨_, _, _, h, fun _ => rfl⟩
    | (cases h; done)
    | (obtain ⟨e, h⟩ := cond_some h; exact ⟨_, _, _, h, fun _ => by simp only [e, cond_true]⟩)
    | skip

theorem sreg_par (he : EnvPar env env') : ∀ {cs : List CR} {s : SS} {k : SS → Option Ω}, sreg env A cs s k = some out → ∃ s', k s' = some out ∧ ∀ k' : SS → Option Ω', sreg env' A cs s k' = k' s'
  | [], s, k, h => by simp only [sreg] at h ⊢; exact ⟨s, h, fun _ => rfl⟩
  | o :: r, s, k, h => by
    have run : ∀ (s1 : SS), sop env A o.op s1 (fun v _ s' => sreg env A r ⟨putD o.dst v s'.t, s'.h⟩ k) = some out → ∃ s', k s' = some out ∧ ∀ k' : SS → Option Ω', sop env' A o.op s1 (fun v _ s' => sreg env' A r ⟨putD o.dst v s'.t, s'.h⟩ k') = k' s' := by
      intro s1 h1
      obtain ⟨v, m, s2, h2, h3⟩ := sop_par (Ω' := Ω') he h1
      obtain ⟨s', h4, h5⟩ := sreg_par he h2
      exact ⟨s', h4, fun k' => by rw [h3]; exact h5 k'⟩
    simp only [sreg] at h ⊢
    split at h
    · exact run s h
    · split at h
      · rename_i d want _ _ b hb
        rcases br_some h with ⟨rfl, h⟩ | ⟨rfl, h⟩
        · cases want with
          | true =>
            obtain ⟨s', h1, h2⟩ := run _ h
            exact ⟨s', h1, fun k' => h2 k'⟩
          | false =>
            obtain ⟨s', h1, h2⟩ := sreg_par he h
            exact ⟨s', h1, fun k' => h2 k'⟩
        · cases want with
          | true =>
            obtain ⟨s', h1, h2⟩ := sreg_par he h
            exact ⟨s', h1, fun k' => h2 k'⟩
          | false =>
            obtain ⟨s', h1, h2⟩ := run _ h
            exact ⟨s', h1, fun k' => h2 k'⟩
      · obtain ⟨s', h1, h2⟩ := sreg_par he h
        exact ⟨s', h1, fun k' => h2 k'⟩
      · cases h

theorem dop_par (he : EnvPar env env') {o : CR} {i : Nat} {lg : Log} {req : Nat} {s : SS} {n : SV → Log → Nat → SS → Option Ω} (h : dop env A o i lg req s n = some out) :
    ∃ v lg' req' s', n v lg' req' s' = some out ∧ ∀ n' : SV → Log → Nat → SS → Option Ω', dop env' A o i lg req s n' = n' v lg' req' s' := by
  unfold dop at h ⊢
  split at h
  · obtain ⟨v, m, s', h1, h2⟩ := sop_par (Ω' := Ω') he h
    exact ⟨_, _, _, _, h1, fun n' => h2 _⟩
  · obtain ⟨e, h⟩ := cond_some h
    obtain ⟨v, m, s', h1, h2⟩ := sop_par (Ω' := Ω') he h
    exact ⟨_, _, _, _, h1, fun n' => by simp only [e, cond_true]; exact h2 _⟩
  · obtain ⟨v, m, s', h1, h2⟩ := sop_par (Ω' := Ω') he h
    obtain ⟨e, h1⟩ := cond_some h1
    exact ⟨_, _, _, _, h1, fun n' => by rw [h2]; simp only [e, cond_true]⟩
  · split at h
    · split at h
      · split at h
        · rename_i hg
          obtain ⟨sp', g1, g2⟩ := he _ _ hg
          cases hpu : nmem _ A.pu with
          | true =>
            rw [hpu, cond_true] at h
            cases hmt : mentT (fun _ => true) (keepT (opsOf o.op) s.t) with
            | true => rw [hmt] at h; cases h
            | false =>
              rw [hmt, cond_false] at h
              obtain ⟨r, m, sc, h', h3, h4⟩ := g2 _ _ _ _ h
              split at h3
              · cases hv : ment (fun _ => true) r with
                | true => rw [hv] at h3; cases h3
                | false =>
                  rw [hv, cond_false] at h3
                  exact ⟨_, _, _, _, h3, fun n' => by simp only [g1, h4, hv, cond_true, cond_false]⟩
              · cases h3
          | false =>
          rw [hpu, cond_false] at h
          obtain ⟨r, m, sc, h', h3, h4⟩ := g2 _ _ _ _ h
          simp only [cond_false]
          split at h3
          · obtain ⟨e, h3⟩ := cond_some h3
            exact ⟨_, _, _, _, h3, fun n' => by simp only [g1, h4, e, cond_true]⟩
          · obtain ⟨e, h3⟩ := cond_some h3
            exact ⟨_, _, _, _, h3, fun n' => by simp only [g1, h4, e, cond_true]⟩
        · cases h
      · cases h
    · obtain ⟨e, h⟩ := cond_some h
      obtain ⟨v, m, s', h1, h2⟩ := sop_par (Ω' := Ω') he h
      exact ⟨_, _, _, _, h1, fun n' => by simp only [e, cond_true]; exact h2 _⟩

theorem sregD_par (he : EnvPar env env') : ∀ {cs : List CR} {i : Nat} {lg : Log} {req : Nat} {s : SS} {k : SS → Option Ω}, sregD env A cs i lg req s k = some out → ∃ s', k s' = some out ∧ ∀ k' : SS → Option Ω', sregD env' A cs i lg req s k' = k' s'
  | [], i, lg, req, s, k, h => by simp only [sregD] at h ⊢; exact ⟨s, h, fun _ => rfl⟩
  | o :: r, i, lg, req, s, k, h => by
    have run : ∀ (s1 : SS), dop env A o i lg req s1 (fun v lg req s' => sregD env A r (i + 1) lg req ⟨putD o.dst v s'.t, s'.h⟩ k) = some out → ∃ s', k s' = some out ∧ ∀ k' : SS → Option Ω', dop env' A o i lg req s1 (fun v lg req s' => sregD env' A r (i + 1) lg req ⟨putD o.dst v s'.t, s'.h⟩ k') = k' s' := by
      intro s1 h1
      obtain ⟨v, lg', req', s2, h2, h3⟩ := dop_par (Ω' := Ω') he h1
      obtain ⟨s', h4, h5⟩ := sregD_par he h2
      exact ⟨s', h4, fun k' => by rw [h3]; exact h5 k'⟩
    simp only [sregD] at h ⊢
    obtain ⟨e, h⟩ := cond_some h
    simp only [e, cond_true]
    split at h
    · exact run s h
    · split at h
      · rename_i d want _ _ b hb
        rcases br_some h with ⟨rfl, h⟩ | ⟨rfl, h⟩
        · cases want with
          | true =>
            obtain ⟨s', h1, h2⟩ := run _ h
            exact ⟨s', h1, fun k' => h2 k'⟩
          | false =>
            obtain ⟨s', h1, h2⟩ := sregD_par he h
            exact ⟨s', h1, fun k' => h2 k'⟩
        · cases want with
          | true =>
            obtain ⟨s', h1, h2⟩ := sregD_par he h
            exact ⟨s', h1, fun k' => h2 k'⟩
          | false =>
            obtain ⟨s', h1, h2⟩ := run _ h
            exact ⟨s', h1, fun k' => h2 k'⟩
      · obtain ⟨s', h1, h2⟩ := sregD_par he h
        exact ⟨s', h1, fun k' => h2 k'⟩
      · cases h

theorem iter_par {lv : List Nat} {n0 : Nat} {f : SS → (SE → SS → Option Ω) → Option Ω} {f' : SS → (SE → SS → Option Ω') → Option Ω'}
    (hf : ∀ s k, f s k = some out → ∃ e s', k e s' = some out ∧ ∀ k', f' s k' = k' e s') : ∀ (n : Nat) {s : SS} {k : SE → SS → Option Ω}, iter lv n0 f n s k = some out → ∃ e s', k e s' = some out ∧ ∀ k' : SE → SS → Option Ω', iter lv n0 f' n s k' = k' e s'
  | 0, s, k, h => by simp [iter] at h
  | n + 1, s, k, h => by
    simp only [iter] at h ⊢
    obtain ⟨e, s1, h1, h2⟩ := hf _ _ h
    cases e with
    | norm =>
      obtain ⟨e, s2, h3, h4⟩ := iter_par hf n h1
      exact ⟨e, s2, h3, fun k' => by rw [h2]; exact h4 k'⟩
    | exit i => exact ⟨_, _, h1, fun k' => by rw [h2]⟩
    | ret => exact ⟨_, _, h1, fun k' => by rw [h2]⟩

theorem sx_par (he : EnvPar env env') : ∀ (c : CC) {id : Nat} {s : SS} {k : SE → SS → Option Ω}, sx env A c id s k = some out → ∃ e s', k e s' = some out ∧ ∀ k' : SE → SS → Option Ω', sx env' A c id s k' = k' e s' := by
  intro c
  induction c with
  | skip => intro id s k h; simp only [sx] at h ⊢; exact ⟨_, _, h, fun _ => rfl⟩
  | reg draw ops =>
    intro id s k h
    simp only [sx] at h ⊢
    cases draw with
    | true =>
      simp only [cond_true] at h ⊢
      obtain ⟨s', h1, h2⟩ := sregD_par (Ω' := Ω') he h
      exact ⟨_, _, h1, fun k' => h2 _⟩
    | false =>
      simp only [cond_false] at h ⊢
      obtain ⟨s', h1, h2⟩ := sreg_par (Ω' := Ω') he h
      exact ⟨_, _, h1, fun k' => h2 _⟩
  | seq a b iha ihb =>
    intro id s k h
    simp only [sx] at h ⊢
    obtain ⟨e, s1, h1, h2⟩ := iha h
    cases e with
    | norm =>
      obtain ⟨e, s2, h3, h4⟩ := ihb h1
      exact ⟨e, s2, h3, fun k' => by rw [h2]; exact h4 k'⟩
    | exit i => exact ⟨_, _, h1, fun k' => by rw [h2]⟩
    | ret => exact ⟨_, _, h1, fun k' => by rw [h2]⟩
  | cond n a b iha ihb =>
    intro id s k h
    simp only [sx] at h ⊢
    split at h
    · rcases br_some h with ⟨rfl, h⟩ | ⟨rfl, h⟩
      · obtain ⟨e, s1, h1, h2⟩ := iha h
        exact ⟨e, s1, h1, fun k' => h2 k'⟩
      · obtain ⟨e, s1, h1, h2⟩ := ihb h
        exact ⟨e, s1, h1, fun k' => h2 k'⟩
    · cases h
  | block bid a iha =>
    intro id s k h
    simp only [sx] at h ⊢
    obtain ⟨e, s1, h1, h2⟩ := iha h
    cases e with
    | norm => exact ⟨_, _, h1, fun k' => by rw [h2]⟩
    | exit i =>
      dsimp only at h1
      cases hb : Nat.beq i bid with
      | true => rw [hb] at h1; exact ⟨_, _, h1, fun k' => by rw [h2]; simp only [hb, cond_true]⟩
      | false => rw [hb] at h1; exact ⟨_, _, h1, fun k' => by rw [h2]; simp only [hb, cond_false]⟩
    | ret => exact ⟨_, _, h1, fun k' => by rw [h2]⟩
  | loop a iha =>
    intro id s k h
    simp only [sx] at h ⊢
    exact iter_par (fun s k h => iha h) big h
  | exit i => intro id s k h; simp only [sx] at h ⊢; exact ⟨_, _, h, fun _ => rfl⟩
  | ret => intro id s k h; simp only [sx] at h ⊢; exact ⟨_, _, h, fun _ => rfl⟩
  | bad => intro id s k h; simp [sx] at h

theorem sxFn_par (he : EnvPar env env') {C : CF} {args : List SV} {h : SH} {k : SV → SH → Option Ω} (hr : sxFn env A C args h k = some out) : ∃ r h', k r h' = some out ∧ ∀ k' : SV → SH → Option Ω', sxFn env' A C args h k' = k' r h' := by
  simp only [sxFn] at hr ⊢
  obtain ⟨e0, hr⟩ := cond_some hr
  obtain ⟨e, s', h1, h2⟩ := sx_par (Ω' := Ω') he _ hr
  have fin : (match rets s' C.res with | some l => k (tup1 l) s'.h | none => none) = some out →
      ∃ r h', k r h' = some out ∧ ∀ k' : SV → SH → Option Ω', (match rets s' C.res with | some l => k' (tup1 l) s'.h | none => none) = k' r h' := by
    intro h
    split at h
    · exact ⟨_, _, h, fun _ => rfl⟩
    · cases h
  cases e with
  | exit i => cases h1
  | norm =>
    obtain ⟨r, h', h3, h4⟩ := fin h1
    exact ⟨r, h', h3, fun k' => by simp only [e0, cond_true]; rw [h2]; exact h4 k'⟩
  | ret =>
    obtain ⟨r, h', h3, h4⟩ := fin h1
    exact ⟨r, h', h3, fun k' => by simp only [e0, cond_true]; rw [h2]; exact h4 k'⟩
end
end Go.Sx

/- A callee's body run in place: its spec is its code, on that part of the heap which its arguments reach. -/
namespace Go.Sx

def unmask (m : List Nat) : Nat → SH → SH → SH
  | _, [], h' => h'
  | i, o :: r, [] => (bif nmem i m then .dead else o) :: unmask m (i + 1) r []
  | i, o :: r, o' :: r' => (bif nmem i m then o' else o) :: unmask m (i + 1) r r'

/-- What neither the result nor the locs of m reach is given up. -/
def trim (n0 : Nat) (r : SV) (m : List Nat) (h : SH) : SH :=
  let ks := clos h 100000 (locsD r ++ m) []
  let h2 := fadeH ks n0 0 h
  let n1 := max n0 (topOf ks)
  bif ment (Nat.ble n1) r || mentH (Nat.ble n1) (h2.take n1) then h2 else h2.take n1

/-- The rows among these locs. -/
def rowsIn (h : SH) : List Nat → List Nat
  | [] => []
  | l :: r => match hget h l with
    | .rowi .. | .row .. => l :: rowsIn h r
    | _ => rowsIn h r

/-- Those beyond mention none of these locs. -/
def aside (m ap : List Nat) : Nat → SH → Bool
  | _, [] => true
  | i, o :: r => (nmem i m || !(mentO (fun l => nmem l ap) o)) && aside m ap (i + 1) r

def inlAp (w : Bool) (m : List Nat) (h : SH) : List Nat := bif w then rowsIn h m else []

/-- The spec of a function whose body is run in place; w: it may append to rows that it reaches. -/
def inl {Ω : Type} (env : Env Ω) (A : Ann) (C : CF) (w : Bool) : Spec Ω := fun args h k =>
  let m := clos h 100000 (locsDL args) []
  let ap := inlAp w m h
  bif aside m ap 0 h then
    sxFn env { A with n0 := h.length, ap := ap } C args (maskH m 0 h) fun r h' => bif Nat.ble h.length (trim h.length r m h').length then k r m ap (unmask m 0 h (trim h.length r m h')) else none
  else none

theorem trim_sound {cx : Cx} {w : World} {r : SV} {v : Value} {m : List Nat} {n0 : Nat} {h : SH} (hg : Gam cx h w) (hr : SRep cx w r v) :
    ∃ cx', Gam cx' (trim n0 r m h) w ∧ SRep cx' w r v ∧ ∀ {p : Nat → Bool} {cx1 : Cx} {w1 : World}, cx1.n ≤ n0 → Grow p cx1 w1 cx w → Grow p cx1 w1 cx' w := by
  unfold trim
  dsimp only
  generalize clos h 100000 (locsD r ++ m) [] = ks
  obtain ⟨f1, f2⟩ := @fadeH_spec ks n0 h 0
  have hg2 := hg.fade f1 f2
  generalize fadeH ks n0 0 h = h2 at *
  generalize hn : max n0 (topOf ks) = n1
  cases hb : (ment (Nat.ble n1) r || mentH (Nat.ble n1) (h2.take n1)) with
  | true => exact ⟨cx, hg2, hr, fun _ g => g⟩
  | false =>
    rw [Bool.or_eq_false_iff] at hb
    refine ⟨{ cx with n := min n1 cx.n }, ⟨by simp [hg2.n], fun l => ?_, fun l hl => hg2.lt l (liv_take hl), fun l hl => hg2.own l (liv_take hl), fun l m hl hm => hg2.inj l m (liv_take hl) (liv_take hm), hg2.fzlt, hg2.dj⟩, SRep.cut r v hb.1 hr, fun hle g => ⟨g.fz, g.same, g.size, fun l hl hp => ?_, g.fr, g.io⟩⟩
    · have h1 := mentH_get hb.2 l
      simp only [cond_false]
      rw [hget_take] at h1 ⊢
      split
      · rename_i h; rw [if_pos h] at h1; exact ORep.cut h1 (hg2.obj l)
      · trivial
    · obtain ⟨h1, h2⟩ := g.loc l hl hp
      exact ⟨by simp only; omega, h2⟩

theorem unmask_get {m : List Nat} : ∀ {h h' : SH} {i l : Nat}, hget (unmask m i h h') l = if l < h.length ∧ nmem (i + l) m = false then hget h l else hget h' l
  | [], h', i, l => by simp [unmask]
  | o :: r, [], i, 0 => by
    simp only [unmask, hget, List.getD_cons_zero, Nat.add_zero, List.length_cons]
    cases nmem i m <;> simp
  | o :: r, [], i, l + 1 => by
    have := @unmask_get m r [] (i + 1) l
    simp only [unmask, hget, List.getD_cons_succ, List.length_cons] at this ⊢
    rw [this, show i + 1 + l = i + (l + 1) by omega]
    simp
  | o :: r, o' :: r', i, 0 => by
    simp only [unmask, hget, List.getD_cons_zero, Nat.add_zero, List.length_cons]
    cases nmem i m <;> simp
  | o :: r, o' :: r', i, l + 1 => by
    have := @unmask_get m r r' (i + 1) l
    simp only [unmask, hget, List.getD_cons_succ, List.length_cons] at this ⊢
    rw [this, show i + 1 + l = i + (l + 1) by omega]
    simp

theorem unmask_length {m : List Nat} : ∀ {h h' : SH} {i : Nat}, (unmask m i h h').length = max h.length h'.length
  | [], h', i => by simp [unmask]
  | o :: r, [], i => by simp [unmask, unmask_length (h := r) (h' := []) (i := i + 1)]
  | o :: r, o' :: r', i => by simp [unmask, unmask_length (h := r) (h' := r') (i := i + 1)]

theorem maskH_length {m : List Nat} : ∀ {h : SH} {i : Nat}, (maskH m i h).length = h.length
  | [], _ => rfl
  | o :: r, i => by simp [maskH, maskH_length (h := r)]

theorem maskH_eq {m : List Nat} : ∀ {h : SH} {i l : Nat}, hget (maskH m i h) l = if nmem (i + l) m = true then hget h l else .dead
  | [], i, l => by simp [maskH, hget]
  | o :: r, i, 0 => by
    simp only [maskH, hget, List.getD_cons_zero, Nat.add_zero]
    cases nmem i m <;> rfl
  | o :: r, i, l + 1 => by
    have := @maskH_eq m r (i + 1) l
    simp only [hget, maskH, List.getD_cons_succ] at this ⊢
    rw [this, show i + 1 + l = i + (l + 1) by omega]

theorem aside_get {m ap : List Nat} : ∀ {h : SH} {i l : Nat}, aside m ap i h = true → l < h.length → nmem (i + l) m = false → mentO (fun l => nmem l ap) (hget h l) = false
  | [], i, l, _, hl, _ => by simp at hl
  | o :: r, i, 0, h, _, hm => by
    simp only [aside, Bool.and_eq_true, Bool.or_eq_true] at h
    rw [Nat.add_zero] at hm
    rcases h.1 with h1 | h1
    · rw [hm] at h1; cases h1
    · simpa [hget] using h1
  | o :: r, i, l + 1, h, hl, hm => by
    simp only [aside, Bool.and_eq_true] at h
    have := aside_get (h := r) (i := i + 1) (l := l) h.2 (by simpa using hl) (by rw [show i + 1 + l = i + (l + 1) by omega]; exact hm)
    simpa [hget] using this

theorem rowsIn_sub {h : SH} : ∀ {m : List Nat} {l : Nat}, l ∈ rowsIn h m → l ∈ m
  | [], l, hl => by simp [rowsIn] at hl
  | x :: r, l, hl => by
    simp only [rowsIn] at hl
    split at hl
    · rcases List.mem_cons.1 hl with rfl | hl
      · simp
      · exact List.mem_cons_of_mem _ (rowsIn_sub hl)
    · rcases List.mem_cons.1 hl with rfl | hl
      · simp
      · exact List.mem_cons_of_mem _ (rowsIn_sub hl)
    · exact List.mem_cons_of_mem _ (rowsIn_sub hl)

theorem inlAp_sub {w : Bool} {m : List Nat} {h : SH} {l : Nat} (hl : l ∈ inlAp w m h) : l ∈ m := by
  cases w with
  | true => exact rowsIn_sub hl
  | false => simp [inlAp] at hl

 mutual
theorem SRep.frm {cx : Cx} {w : World} {f : Nat → Prop} : ∀ (x : SV) (u : Value), SRep cx w x u → SRep { cx with fr := f } w x u
  | .d x, u, h | .ptr l o, u, h | .pe l i o, u, h | .rp sz g o, u, h | .own l, u, h | .cs l o sz n c, u, h | .mp l, u, h | .top, u, h => by simp only [SRep] at h ⊢; try exact h
  | .fn q a b, u, h => by
    simp only [SRep] at h ⊢
    obtain ⟨a', b', e, ha, hb⟩ := h
    exact ⟨a', b', e, SRepL.frm a a' ha, SRepL.frm b b' hb⟩
  | .agg c, u, h | .tup c, u, h => by
    simp only [SRep] at h ⊢
    obtain ⟨c', e, hc⟩ := h
    exact ⟨c', e, SRepL.frm c c' hc⟩
  | .md ks c, u, h => by
    simp only [SRep] at h ⊢
    obtain ⟨b, e, c', vs, eu, hb, hw, hl, hk, hc⟩ := h
    exact ⟨b, e, c', vs, eu, hb, hw, hl, hk, SRepL.frm c vs hc⟩
  | .rc c o, u, h => by
    simp only [SRep] at h ⊢
    obtain ⟨b, vs, eu, hb, hw, hc⟩ := h
    exact ⟨b, vs, eu, hb, hw, SRepL.frm c vs hc⟩
theorem SRepL.frm {cx : Cx} {w : World} {f : Nat → Prop} : ∀ (c : List SV) (c' : List Value), SRepL cx w c c' → SRepL { cx with fr := f } w c c'
  | [], [], _ => by simp only [SRepL]
  | x :: r, v :: vs, h => by simp only [SRepL] at h ⊢; exact ⟨SRep.frm x v h.1, SRepL.frm r vs h.2⟩
  | [], _ :: _, h => by simp [SRepL] at h
  | _ :: _, [], h => by simp [SRepL] at h
end

theorem SRepE.frm {cx : Cx} {w : World} {f : Nat → Prop} : ∀ (c : List (Value × SV)) (c' : List (Value × Value)), SRepE cx w c c' → SRepE { cx with fr := f } w c c'
  | [], [], _ => by simp only [SRepE]
  | (q, x) :: r, (q', v) :: vs, h => by simp only [SRepE] at h ⊢; exact ⟨h.1, SRep.frm x v h.2.1, SRepE.frm r vs h.2.2⟩
  | [], _ :: _, h => by simp [SRepE] at h
  | _ :: _, [], h => by simp [SRepE] at h

theorem ORep.frm {cx : Cx} {w : World} {f : Nat → Prop} {l : Nat} {o : SO} (h : ORep cx w l o) : ORep { cx with fr := f } w l o := by
  cases o with
  | cells t c => obtain ⟨t', c', h1, h2⟩ := h; exact ⟨t', c', h1, h2.frm⟩
  | maps es => obtain ⟨e, c, h1, h2⟩ := h; exact ⟨e, c, h1, h2.frm⟩
  | _ => exact h

section
variable {P : Program} {A : Ann} {Ω : Type}

theorem inl_ok {env : Env Ω} {env' : Env (SV × SH)} (he : EnvOK P env') (hp : EnvPar env env') (hmix : P.follows .mixedOrders = true) {g : Nat} {fn : Func} (hf : P.funcs[g]? = some fn) (hname : (fn.name == "runtime.NumGoroutine") = false) {C : CF} (hC : coF P fn = some C) (w : Bool) :
    SpecOK P g (inl env A C w) := by
  have hbody : ∃ c, fn.body = some c := by
    unfold coF at hC
    split at hC
    · rename_i c hb; exact ⟨c, hb⟩
    · cases hC
  obtain ⟨c, hb⟩ := hbody
  refine ⟨fun args w => ?_, fun args h k out hs => ?_⟩
  · have h1 : fn.name ≠ "runtime.NumGoroutine" := by simpa using hname
    simp [callFunc, hf, h1, hb]
  · unfold inl at hs
    generalize hm : clos h 100000 (locsDL args) [] = m at hs
    dsimp only at hs
    generalize hap : inlAp w m h = ap at hs
    have hsub : ∀ l, nmem l m = false → nmem l ap = false := fun l hl => nmem_iff.2 fun h1 => nmem_iff.1 hl (by rw [← hap] at h1; exact inlAp_sub h1)
    obtain ⟨hasd, hs⟩ := cond_some hs
    obtain ⟨r, h', h1, h2⟩ := sxFn_par hp hs
    obtain ⟨hle, h1⟩ := cond_some h1
    have hle := Nat.le_of_ble_eq_true hle
    generalize htr : trim h.length r m h' = ht at h1 hle
    refine ⟨r, m, ap, _, h1, ⟨by rw [unmask_length]; omega, fun l hl hlm => ?_⟩, fun cx w0 vals hg ha => ?_⟩
    · rw [unmask_get, if_pos ⟨hl, by rw [Nat.zero_add]; exact hlm⟩]
    let fr' : Nat → Prop := fun b => cx.fr b ∨ ∃ l, nmem l m = false ∧ liv cx h l ∧ b = cx.th l
    have hml : ∀ l, hget (maskH m 0 h) l = if nmem l m = true then hget h l else .dead := fun l => by rw [maskH_eq, Nat.zero_add]
    have hlivm : ∀ l, liv { cx with fr := fr' } (maskH m 0 h) l → nmem l m = true ∧ liv cx h l := fun l hl => by
      unfold liv at hl
      rw [hml] at hl
      cases hb : nmem l m with
      | true => rw [hb, if_pos rfl] at hl; exact ⟨rfl, hl⟩
      | false => rw [hb, if_neg (by simp)] at hl; exact hl.elim
    have hgs : Gam { cx with fr := fr' } (maskH m 0 h) w0 := by
      refine ⟨by simp only [maskH_length]; exact hg.n, fun l => ?_, fun l hl => hg.lt l (hlivm l hl).2, fun l hl hhd => ?_, fun l l' hl hl' e => hg.inj l l' (hlivm l hl).2 (hlivm l' hl').2 e, fun b hb => ?_, fun b hb hf => ?_⟩
      · rw [hml]; split
        · exact (hg.obj l).frm
        · trivial
      · rcases hhd with h3 | h3 | ⟨l', h3, h4, h5⟩
        · exact hg.own l (hlivm l hl).2 (.inl h3)
        · exact hg.own l (hlivm l hl).2 (.inr h3)
        · have := hg.inj l l' (hlivm l hl).2 h4 h5
          subst this
          rw [(hlivm l hl).1] at h3; cases h3
      · rcases hb with h3 | h3 | ⟨l', h3, h4, h5⟩
        · exact hg.fzlt b (.inl h3)
        · exact hg.fzlt b (.inr h3)
        · rw [h5]; exact hg.lt l' h4
      · rcases hf with h3 | ⟨l', h3, h4, h5⟩
        · exact hg.dj b hb h3
        · subst h5; exact hg.own l' h4 (.inl hb)
    have hcalls := fn_calls (A := { A with n0 := h.length, ap := ap }) he hmix hf hC (h2 fun r h => some (r, h)) _ w0 vals hgs ha.frm
    refine hcalls.mono fun e w' ⟨v, cxq, e1, grq, hrq, hGq⟩ => ?_
    obtain ⟨cxs, hG, hr, hgrow⟩ := trim_sound (n0 := h.length) (m := m) hGq hrq
    have gr := hgrow (by simp only [hg.n]; exact Nat.le_refl _) grq
    rw [htr] at hG
    clear hGq hrq grq hgrow htr
    have hfr : cxs.fr = fr' := gr.fr
    have hp0 : ∀ l, l < h.length → nmem l ap = false → ({ A with n0 := h.length, ap := ap } : Ann).p l = false := fun l hl h3 => by
      simp only [Ann.p, Ann.ok, h3, Bool.or_false]
      cases hb : Nat.ble h.length l with
      | false => rfl
      | true => have := Nat.le_of_ble_eq_true hb; omega
    have gr' : Grow (fun l => nmem l ap) cx w0 { cxs with fr := cx.fr } w' := ⟨gr.fz, fun b hb => gr.same b (hb.imp id .inl), gr.size, fun l hl hpl => gr.loc l hl (hp0 l (hg.n ▸ hl) hpl), rfl, gr.io⟩
    have hul : ∀ l, hget (unmask m 0 h ht) l = if l < h.length ∧ nmem l m = false then hget h l else hget ht l := fun l => by rw [unmask_get, Nat.zero_add]
    have hold : ∀ l, l < h.length ∧ nmem l m = false → liv { cxs with fr := cx.fr } (unmask m 0 h ht) l → liv cx h l ∧ cxs.th l = cx.th l ∧ fr' (cx.th l) := fun l hc hl => by
      obtain ⟨_, k2, _, _, k5, _⟩ := gr'.loc l (by rw [hg.n]; exact hc.1) (hsub l hc.2)
      have hl' : liv cx h l := by
        unfold liv at hl ⊢
        rw [hul, if_pos hc] at hl
        simp only at k5
        rw [k5] at hl
        exact hl
      exact ⟨hl', k2, .inr ⟨l, hc.2, hl', rfl⟩⟩
    have hnew : ∀ l, ¬ (l < h.length ∧ nmem l m = false) → liv { cxs with fr := cx.fr } (unmask m 0 h ht) l → liv cxs ht l := fun l hc hl => by
      unfold liv at hl ⊢
      rw [hul, if_neg hc] at hl
      exact hl
    refine ⟨v, { cxs with fr := cx.fr }, e1, gr', hr.frm, ⟨?_, fun l => ?_, fun l hl => ?_, fun l hl hhd => ?_, fun l l' hl hl' e => ?_, fun b hb => ?_, fun b hb hf => ?_⟩⟩
    · simp only [unmask_length]; rw [hG.n]; omega
    · rw [hul]
      split
      · rename_i hc
        have hsame : liv cx h l → w'.heap[cx.th l]? = w0.heap[cx.th l]? := fun hl => gr.same _ (.inr (.inr ⟨l, hc.2, hl, rfl⟩))
        refine ORep.mono gr' (by rw [hg.n]; exact hc.1) (hsub l hc.2) _ (aside_get (i := 0) hasd hc.1 (by rw [Nat.zero_add]; exact hc.2)) ⟨fun xs t k e hn => hsame ?_, fun t sz n f e hn => hsame ?_, fun h1 h2 h3 => hsame ?_⟩ (hg.obj l)
        · simp [liv, e, hn]
        · simp [liv, e, hn]
        · cases ho : hget h l with
          | dead => exact absurd ho h3
          | rowi t k xs => exact absurd ho (h1 xs t k)
          | row t sz n f => exact absurd ho (h2 t sz n f)
          | _ => simp [liv, ho]
      · exact (hG.obj l).frm
    · by_cases hc : l < h.length ∧ nmem l m = false
      · obtain ⟨k1, k2, _⟩ := hold l hc hl
        simp only [k2]
        exact Nat.lt_of_lt_of_le (hg.lt l k1) gr.size
      · exact hG.lt l (hnew l hc hl)
    · by_cases hc : l < h.length ∧ nmem l m = false
      · obtain ⟨k1, k2, k3⟩ := hold l hc hl
        rcases hhd with h3 | h3
        · simp only [k2] at h3
          exact hG.dj _ h3 (hfr ▸ k3)
        · simp only [k2] at h3
          exact hg.own l k1 (.inr h3)
      · refine hG.own l (hnew l hc hl) ?_
        rcases hhd with h3 | h3
        · exact .inl h3
        · exact .inr (hfr ▸ .inl h3)
    · by_cases hc : l < h.length ∧ nmem l m = false <;> by_cases hc' : l' < h.length ∧ nmem l' m = false
      · obtain ⟨k1, k2, _⟩ := hold l hc hl
        obtain ⟨j1, j2, _⟩ := hold l' hc' hl'
        simp only [k2, j2] at e
        exact hg.inj l l' k1 j1 e
      · obtain ⟨k1, k2, k3⟩ := hold l hc hl
        simp only [k2] at e
        exact absurd (.inr (by rw [hfr, ← e]; exact k3)) (hG.own l' (hnew l' hc' hl'))
      · obtain ⟨k1, k2, k3⟩ := hold l' hc' hl'
        simp only [k2] at e
        exact absurd (.inr (by rw [hfr, e]; exact k3)) (hG.own l (hnew l hc hl))
      · exact hG.inj l l' (hnew l hc hl) (hnew l' hc' hl') e
    · rcases hb with h3 | h3
      · exact hG.fzlt b (.inl h3)
      · exact hG.fzlt b (.inr (hfr ▸ .inl h3))
    · exact hG.dj b hb (hfr ▸ .inl hf)

theorem inl_par {Ω' : Type} {env : Env Ω} {env' : Env Ω'} (hp : EnvPar env env') {C : CF} {w : Bool} (args : List SV) (h : SH) (k : SV → List Nat → List Nat → SH → Option Ω) (out : Ω) (hs : inl env A C w args h k = some out) :
    ∃ r m sc h', k r m sc h' = some out ∧ ∀ k', inl env' A C w args h k' = k' r m sc h' := by
  unfold inl at hs ⊢
  dsimp only at hs ⊢
  obtain ⟨e1, hs⟩ := cond_some hs
  obtain ⟨r, h', h1, h2⟩ := sxFn_par (Ω' := Ω') hp hs
  obtain ⟨e2, h1⟩ := cond_some h1
  exact ⟨_, _, _, _, h1, fun k' => by simp only [e1, cond_true]; rw [h2]; simp only [e2, cond_true]⟩
end
end Go.Sx

/- From a run on symbolic arguments to a law's statement. -/
namespace Go.Sx

/-- Nothing is owned; all that stands is data. -/
def cx0 (w : World) : Cx := { n := 0, th := fun _ => 0, ln := fun _ => 0, cp := fun _ => 0, nl := fun _ => false, rs := fun _ => 0, fz := fun b => b < w.heap.size, fr := fun _ => False }

theorem gam0 (w : World) : Gam (cx0 w) [] w := by
  refine ⟨rfl, fun l => ?_, fun l hl => ?_, fun l hl => ?_, fun l m hl => ?_, fun b hb => ?_, fun b _ hf => hf⟩
  · simp [hget, ORep]
  · simp [liv, hget] at hl
  · simp [liv, hget] at hl
  · simp [liv, hget] at hl
  · rcases hb with hb | hb
    · exact hb
    · exact hb.elim

theorem same_of_grow {p : Nat → Bool} {w w' : World} {cx' : Cx} (g : Grow p (cx0 w) w cx' w') : ∀ b, b < w.heap.size → w'.heap[b]? = w.heap[b]? := fun b hb => g.same b (.inl hb)

theorem grown_of {p : Nat → Bool} {w w' : World} {cx' : Cx} (g : Grow p (cx0 w) w cx' w') : RowKit.Grown w w' := by
  refine ⟨⟨g.io.os, g.io.out, fun i hi => ?_⟩, g.io.frz, g.size⟩
  rw [same_of_grow g i hi]
  have := (World.keptBut_refl w (fun _ => False)).2.2 i hi
  exact this

/-- A law that runs to true on symbolic arguments which its arguments meet. -/
theorem law_calls {P : Program} {A : Ann} {env : Env (SV × SH)} (he : EnvOK P env) (hmix : P.follows .mixedOrders = true) {g : Nat} {fn : Func} (hf : P.funcs[g]? = some fn) {C : CF} (hC : coF P fn = some C) {args : List SV} {h' : SH}
    (hrun : sxFn env A C args [] (fun r h => some (r, h)) = some (.d (.v (.bool true)), h')) {w : World} {vals : List Value} (ha : SRepL (cx0 w) w args vals) :
    Calls P g ⟨vals⟩ w fun e w' => e = .returned (.bool true) ∧ RowKit.Grown w w' ∧ ∀ b, b < w.heap.size → w'.heap[b]? = w.heap[b]? := by
  refine (fn_calls he hmix hf hC hrun (cx0 w) w vals (gam0 w) ha).mono fun e w' ⟨v, cx', e1, gr, hr, _⟩ => ?_
  rw [bool_of hr] at e1
  exact ⟨e1, grown_of gr, same_of_grow gr⟩

theorem place_lt {H : Type} {enc : TypeId × Value → H} {P : Program} {w : World} {ts : List TypeId} {vs : List Value} {ds : List (DataW H)} {ps : List MemPlace} : DataW.TrodAll enc P w 0 (fun _ => true) true ts vs ds ps → ∀ p ∈ ps, p.block < w.heap.size := by
  intro h
  induction ts generalizing vs ds ps with
  | nil =>
    cases vs <;> cases ds <;> simp [DataW.TrodAll] at h
    subst h; simp
  | cons t ts ih =>
    cases vs <;> cases ds <;> simp [DataW.TrodAll] at h
    obtain ⟨p, ⟨n, hp⟩, q, hq, rfl⟩ := h
    intro x hx
    rcases List.mem_append.1 hx with hx | hx
    · exact DataW.trod_lt n _ _ _ hp x hx
    · exact ih hq x hx

theorem trodAll_carry {H : Type} {enc : TypeId × Value → H} {P : Program} {w w' : World} {sp : Nat → Bool} {ts : List TypeId} {vs : List Value} {ds : List (DataW H)} {ps : List MemPlace} (h : DataW.TrodAll enc P w 0 sp true ts vs ds ps)
    (hs : ∀ p ∈ ps, w.sameAt w' p) : DataW.TrodAll enc P w' 0 sp true ts vs ds ps := by
  induction ts generalizing vs ds ps with
  | nil => cases vs <;> cases ds <;> simp [DataW.TrodAll] at h ⊢; exact h
  | cons t ts ih =>
    cases vs <;> cases ds <;> simp [DataW.TrodAll] at h ⊢
    obtain ⟨p, ⟨n, hp⟩, q, hq, rfl⟩ := h
    exact ⟨p, ⟨n, DataW.trod_carry n _ _ _ hp fun x hx => hs x (by simp [hx])⟩, q, ih hq fun x hx => hs x (by simp [hx]), rfl⟩

/-- The arguments read afterwards as they did. -/
theorem args_again {H : Type} {enc : TypeId × Value → H} {P : Program} (hl : laidOutB P = true) (hm : mapsRowed P = true) (hz : ∀ t e, t < P.types.size → P.underlying t = some (.slice e) → 0 < P.cellsOf e)
    {w w' : World} {ts : List TypeId} (hts : ∀ t ∈ ts, t < P.types.size) {vs : List Value} {ds : List (DataW H)} {ps : List MemPlace} (h : DataW.TrodAll enc P w 0 (fun _ => true) true ts vs ds ps)
    (hsame : ∀ b, b < w.heap.size → w'.heap[b]? = w.heap[b]?) {sp : Nat → Bool} (hsp : ∀ p ∈ ps, sp p.block = true) : DataW.TrodAll enc P w' 0 sp true ts vs ds ps := by
  refine trodAll_carry (DataW.TrodAll.respare (kids_rows hl hm) hz hts h hsp) fun p hp => ?_
  have := place_lt h p hp
  cases p with
  | cell b off => simp only [World.sameAt, World.cell?]; rw [hsame b this]
  | map b => exact hsame b this
end Go.Sx
