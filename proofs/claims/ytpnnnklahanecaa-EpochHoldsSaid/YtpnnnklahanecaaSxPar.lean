/- The interpreter reaches one end, whatever follows: it is parametric in its continuation. -/
import Derived.Test.YtpnnnklahanecaaSxFun
set_option linter.unusedVariables false
set_option linter.unusedSimpArgs false
namespace Go.Sx

section
variable {Ω Ω' : Type} {out : Ω}

theorem caseIx_par {V : Type} {i : Int} {g : Nat → (V → Option Ω) → Option Ω} {g' : Nat → (V → Option Ω') → Option Ω'} {k : V → Option Ω} (hg : ∀ j, g j k = some out → ∃ v, k v = some out ∧ ∀ k', g' j k' = k' v) :
    ∀ (n j : Nat), caseIx i (fun j => g j k) n j = some out → ∃ v, k v = some out ∧ ∀ k', caseIx i (fun j => g' j k') n j = k' v
  | 0, j, h => by simp [caseIx] at h
  | n + 1, j, h => by
    simp only [caseIx] at h ⊢
    rcases br_some h with ⟨e, h⟩ | ⟨e, h⟩
    · obtain ⟨v, h1, h2⟩ := hg j h
      exact ⟨v, h1, fun k' => by rw [e]; exact h2 k'⟩
    · obtain ⟨v, h1, h2⟩ := caseIx_par hg n (j + 1) h
      exact ⟨v, h1, fun k' => by rw [e]; exact h2 k'⟩

theorem cmp_par {o : BinOp} {x y : Int} {k : Bool → Option Ω} (h : cmp o x y k = some out) : ∃ v, k v = some out ∧ ∀ k' : Bool → Option Ω', cmp o x y k' = k' v := by
  cases o <;> simp only [cmp, reduceCtorEq] at h ⊢
  all_goals exact ⟨_, h, fun _ => rfl⟩

theorem arith_par {o : BinOp} {ka : IntKind} {x y : Int} {k : Int → Option Ω} (h : arith o ka x y k = some out) : ∃ v, k v = some out ∧ ∀ k' : Int → Option Ω', arith o ka x y k' = k' v := by
  cases o <;> simp only [arith, reduceCtorEq] at h ⊢
  case quo => rcases br_some h with ⟨_, h⟩ | ⟨e, h⟩
              · cases h
              · exact ⟨_, h, fun _ => by rw [e]; rfl⟩
  case rem => rcases br_some h with ⟨_, h⟩ | ⟨e, h⟩
              · cases h
              · exact ⟨_, h, fun _ => by rw [e]; rfl⟩
  all_goals exact ⟨_, h, fun _ => rfl⟩

theorem bop_par {o : BinOp} {a b : SV} {k : SV → Option Ω} (h : bop o a b k = some out) : ∃ v, k v = some out ∧ ∀ k' : SV → Option Ω', bop o a b k' = k' v := by
  unfold bop at h ⊢
  split at h
  · split at h
    · rcases br_some h with ⟨_, h⟩ | ⟨e, h⟩
      · cases h
      · exact ⟨_, h, fun _ => by simp only [e]; rfl⟩
    · rcases br_some h with ⟨_, h⟩ | ⟨e, h⟩
      · cases h
      · exact ⟨_, h, fun _ => by simp only [e]; rfl⟩
    · obtain ⟨e, h⟩ := cond_some h
      cases hc : isCmp o with
      | true =>
        simp only [hc, cond_true] at h
        obtain ⟨v, h1, h2⟩ := cmp_par (Ω' := Ω') h
        exact ⟨_, h1, fun k' => by simp only [e, cond_true, h2]⟩
      | false =>
        simp only [hc, cond_false] at h
        obtain ⟨v, h1, h2⟩ := arith_par (Ω' := Ω') h
        exact ⟨_, h1, fun k' => by simp only [e, cond_true, cond_false, h2]⟩
  · split at h
    · rcases br_some h with ⟨e, h⟩ | ⟨_, h⟩
      · exact ⟨_, h, fun _ => by simp only [e]; rfl⟩
      · cases h
    · cases h
  · cases h

theorem unop_par {o : UnOp} {a : SV} {k : SV → Option Ω} (h : unop o a k = some out) : ∃ v, k v = some out ∧ ∀ k' : SV → Option Ω', unop o a k' = k' v := by
  unfold unop at h ⊢
  split at h
  · exact ⟨_, h, fun _ => rfl⟩
  · exact ⟨_, h, fun _ => rfl⟩
  · cases h

theorem ixArr_par {n sz : Nat} {x : SV} {i : Int} {k : SV → Option Ω} (h : ixArr n sz x i k = some out) : ∃ v, k v = some out ∧ ∀ k' : SV → Option Ω', ixArr n sz x i k' = k' v := by
  unfold ixArr at h ⊢
  refine caseIx_par (g := fun j k => match addO x (j * sz) with | some p => k p | none => none) (g' := fun j k => match addO x (j * sz) with | some p => k p | none => none) (fun j hj => ?_) n 0 h
  split at hj
  · rename_i p e
    exact ⟨_, hj, fun _ => rfl⟩
  · cases hj

theorem ixAgg_par {n sz : Nat} {a : Bool} {x : SV} {i : Int} {k : SV → Option Ω} (h : ixAgg n sz a x i k = some out) : ∃ v, k v = some out ∧ ∀ k' : SV → Option Ω', ixAgg n sz a x i k' = k' v := by
  unfold ixAgg at h ⊢
  split at h
  · rename_i c
    refine caseIx_par (g := fun j k => bif a || Nat.blt (j * sz) c.length then k (partS a sz (j * sz) c) else none) (g' := fun j k => bif a || Nat.blt (j * sz) c.length then k (partS a sz (j * sz) c) else none) (fun j hj => ?_) n 0 h
    obtain ⟨e, hj⟩ := cond_some hj
    exact ⟨_, hj, fun _ => by simp only [e, cond_true]⟩
  · cases h

theorem ixStr_par {x : SV} {i : Int} {k : SV → Option Ω} (h : ixStr x i k = some out) : ∃ v, k v = some out ∧ ∀ k' : SV → Option Ω', ixStr x i k' = k' v := by
  unfold ixStr at h ⊢
  split at h
  · rcases br_some h with ⟨e, h⟩ | ⟨_, h⟩
    · exact ⟨_, h, fun _ => by simp only [e]; rfl⟩
    · cases h
  · cases h

theorem ixSl_par {hp : SH} {sz : Nat} {x : SV} {i : Int} {k : SV → Option Ω} (h : ixSl hp sz x i k = some out) : ∃ v, k v = some out ∧ ∀ k' : SV → Option Ω', ixSl hp sz x i k' = k' v := by
  unfold ixSl at h ⊢
  split at h
  · obtain ⟨e, h⟩ := cond_some h
    rcases br_some h with ⟨e2, h⟩ | ⟨_, h⟩
    · exact ⟨_, h, fun _ => by simp only [e, e2]; rfl⟩
    · cases h
  · obtain ⟨e, h⟩ := cond_some h
    rcases br_some h with ⟨e2, h⟩ | ⟨_, h⟩
    · exact ⟨_, h, fun _ => by simp only [e, e2]; rfl⟩
    · cases h
  · split at h
    · rename_i hg
      obtain ⟨e, h⟩ := cond_some h
      rcases br_some h with ⟨e2, h⟩ | ⟨_, h⟩
      · exact ⟨_, h, fun _ => by simp only [e, e2]; rfl⟩
      · cases h
    · rename_i hg
      obtain ⟨e, h⟩ := cond_some h
      rcases br_some h with ⟨e2, h⟩ | ⟨_, h⟩
      · exact ⟨_, h, fun _ => by simp only [e, e2]; rfl⟩
      · cases h
    · cases h
  · rename_i l o sz' n c
    obtain ⟨e, h⟩ := cond_some h
    obtain ⟨v, h1, h2⟩ := caseIx_par (i := i) (g := fun j (k : SV → Option Ω) => k (.ptr l (o + j * sz'))) (g' := fun j (k : SV → Option Ω') => k (.ptr l (o + j * sz'))) (k := k) (fun j hj => ⟨_, hj, fun _ => rfl⟩) n 0 h
    exact ⟨v, h1, fun k' => by simp only [e, cond_true]; exact h2 k'⟩
  · cases h

theorem slcS_par {z : Nat} {x : SV} {a b c : Option SV} {k : SV → Option Ω} (h : slcS z x a b c k = some out) : ∃ v, k v = some out ∧ ∀ k' : SV → Option Ω', slcS z x a b c k' = k' v := by
  unfold slcS at h ⊢
  split at h
  · split at h
    · rename_i e1 e2 e3
      obtain ⟨e, h⟩ := cond_some h
      rcases br_some h with ⟨e4, h⟩ | ⟨_, h⟩
      · exact ⟨_, h, fun _ => by simp only [e, e4]; rfl⟩
      · cases h
    · cases h
  · split at h
    · rename_i e1 e2 e3
      obtain ⟨e, h⟩ := cond_some h
      rcases br_some h with ⟨e4, h⟩ | ⟨_, h⟩
      · exact ⟨_, h, fun _ => by simp only [e, e4]; rfl⟩
      · cases h
    · cases h
  · split at h
    · rename_i e1 e2 e3
      obtain ⟨e, h⟩ := cond_some h
      rcases br_some h with ⟨e4, h⟩ | ⟨_, h⟩
      · exact ⟨_, h, fun _ => by simp only [e, e4]; rfl⟩
      · cases h
    · cases h
  · cases h

theorem findS_par {V : Type} {q : Value} {kn : (V → Option Ω) → Option Ω} {kn' : (V → Option Ω') → Option Ω'} {f : SV → V} {k : V → Option Ω} (hn : kn k = some out → ∃ v, k v = some out ∧ ∀ k', kn' k' = k' v) :
    ∀ {es : List (Value × SV)}, findS q (kn k) (fun x => k (f x)) es = some out → ∃ v, k v = some out ∧ ∀ k', findS q (kn' k') (fun x => k' (f x)) es = k' v
  | [], h => by simp only [findS] at h ⊢; exact hn h
  | (p, x) :: r, h => by
    simp only [findS] at h ⊢
    split at h
    · rename_i b e
      rcases br_some h with ⟨e2, h⟩ | ⟨e2, h⟩
      · exact ⟨_, h, fun k' => by simp only [e2]; rfl⟩
      · obtain ⟨v, h1, h2⟩ := findS_par hn (es := r) h
        exact ⟨v, h1, fun k' => by simp only [e2]; exact h2 k'⟩
    · cases h
end
end Go.Sx
