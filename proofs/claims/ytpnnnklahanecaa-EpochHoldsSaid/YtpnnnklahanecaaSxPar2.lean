/- The interpreter is parametric in its continuation, second part: operations, regions, code, functions. -/
import Derived.Test.YtpnnnklahanecaaSxPar
set_option linter.unusedVariables false
set_option linter.unusedSimpArgs false
namespace Go.Sx

/-- Two environments that tell the same of each callee. -/
def EnvPar {Ω Ω' : Type} (env : Env Ω) (env' : Env Ω') : Prop :=
  ∀ g sp, env g = some sp → ∃ sp', env' g = some sp' ∧ ∀ args h k out, sp args h k = some out → ∃ r m sc h', k r m sc h' = some out ∧ ∀ k', sp' args h k' = k' r m sc h'

section
variable {Ω Ω' : Type} {out : Ω} {env : Env Ω} {env' : Env Ω'} {A : Ann}

theorem putOwn_par {s : SS} {a : SV} {o : SO} {k : SV → List Nat → SS → Option Ω} (h : putOwn A s a o k = some out) : ∃ v m s', k v m s' = some out ∧ ∀ k' : SV → List Nat → SS → Option Ω', putOwn A s a o k' = k' v m s' := by
  unfold putOwn at h ⊢
  split at h
  · obtain ⟨e, h⟩ := cond_some h; exact ⟨_, _, _, h, fun _ => by simp only [e, cond_true]⟩
  · obtain ⟨e, h⟩ := cond_some h; exact ⟨_, _, _, h, fun _ => by simp only [e, cond_true]⟩
  · exact ⟨_, _, _, h, fun _ => rfl⟩

theorem appS_par {s : SS} {e sz b : Nat} {kd : Option IntKind} {x y : SV} {k : SV → List Nat → SS → Option Ω} (h : appS A s e sz b kd x y k = some out) : ∃ v m s', k v m s' = some out ∧ ∀ k' : SV → List Nat → SS → Option Ω', appS A s e sz b kd x y k' = k' v m s' := by
  unfold appS at h ⊢
  obtain ⟨e1, h⟩ := cond_some h
  simp only [e1, cond_true]
  split at h
  · split at h
    · rcases br_some h with ⟨e4, h⟩ | ⟨_, h⟩
      · obtain ⟨v, m, s', h1, h2⟩ := putOwn_par (Ω' := Ω') h
        exact ⟨v, m, s', h1, fun k' => by simp only [e4]; exact h2 k'⟩
      · cases h
    · cases h
  · split at h
    · rcases br_some h with ⟨e4, h⟩ | ⟨_, h⟩
      · obtain ⟨v, m, s', h1, h2⟩ := putOwn_par (Ω' := Ω') h
        exact ⟨v, m, s', h1, fun k' => by simp only [e4]; exact h2 k'⟩
      · cases h
    · cases h

theorem lift_par {s : SS} {F : (SV → Option Ω) → Option Ω} {F' : (SV → Option Ω') → Option Ω'} {k : SV → List Nat → SS → Option Ω} (hF : ∀ k : SV → Option Ω, F k = some out → ∃ v, k v = some out ∧ ∀ k', F' k' = k' v) (h : F (fun r => k r [] s) = some out) :
    ∃ v m s', k v m s' = some out ∧ ∀ k' : SV → List Nat → SS → Option Ω', F' (fun r => k' r [] s) = k' v m s' := by
  obtain ⟨v, h1, h2⟩ := hF _ h
  exact ⟨v, [], s, h1, fun k' => h2 _⟩

theorem sop_par (he : EnvPar env env') {op : CO} {s : SS} {k : SV → List Nat → SS → Option Ω} (h : sop env A op s k = some out) : ∃ v m s', k v m s' = some out ∧ ∀ k' : SV → List Nat → SS → Option Ω', sop env' A op s k' = k' v m s' := by
  cases op <;> simp only [sop] at h ⊢
  case mv => exact ⟨_, _, _, h, fun _ => rfl⟩
  case pick =>
    split at h
    · exact ⟨_, _, _, h, fun _ => rfl⟩
    · rcases br_some h with ⟨e, h⟩ | ⟨e, h⟩
      · exact ⟨_, _, _, h, fun _ => by simp only [e]; rfl⟩
      · exact ⟨_, _, _, h, fun _ => by simp only [e]; rfl⟩
    · cases h
  case ld n a x =>
    split at h
    · cases a with
      | true => exact ⟨_, _, _, h, fun _ => rfl⟩
      | false =>
        simp only [cond_false] at h ⊢
        split at h
        · exact ⟨_, _, _, h, fun _ => rfl⟩
        · cases h
    · cases h
  case st =>
    split at h
    · obtain ⟨e, h⟩ := cond_some h
      simp only [e, cond_true]
      split at h
      · exact ⟨_, _, _, h, fun _ => rfl⟩
      · cases h
    · cases h
  case bin => exact lift_par (F := fun k => bop _ _ _ k) (F' := fun k => bop _ _ _ k) (fun _ h => bop_par h) h
  case un => exact lift_par (F := fun k => unop _ _ k) (F' := fun k => unop _ _ k) (fun _ h => unop_par h) h
  case slc => exact lift_par (F := fun k => slcS _ _ _ _ _ k) (F' := fun k => slcS _ _ _ _ _ k) (fun _ h => slcS_par h) h
  case app => exact appS_par h
  case ixa =>
    split at h
    · exact lift_par (F := fun k => ixArr _ _ _ _ k) (F' := fun k => ixArr _ _ _ _ k) (fun _ h => ixArr_par h) h
    · cases h
  case ixs =>
    split at h
    · exact lift_par (F := fun k => ixSl _ _ _ _ k) (F' := fun k => ixSl _ _ _ _ k) (fun _ h => ixSl_par h) h
    · cases h
  case ixg =>
    split at h
    · exact lift_par (F := fun k => ixAgg _ _ _ _ _ k) (F' := fun k => ixAgg _ _ _ _ _ k) (fun _ h => ixAgg_par h) h
    · cases h
  case ixc =>
    split at h
    · exact lift_par (F := fun k => ixStr _ _ k) (F' := fun k => ixStr _ _ k) (fun _ h => ixStr_par h) h
    · cases h
  case mks =>
    split at h
    · rcases br_some h with ⟨e, h⟩ | ⟨_, h⟩
      · simp only [e]
        split at h
        · split at h
          · exact ⟨_, _, _, h, fun _ => rfl⟩
          · cases h
        · split at h
          · exact ⟨_, _, _, h, fun _ => rfl⟩
          · cases h
      · cases h
    · cases h
  case call =>
    split at h
    · split at h
      · rename_i hg
        obtain ⟨sp', h1, h2⟩ := he _ _ hg
        obtain ⟨r, m, sc, h', h3, h4⟩ := h2 _ _ _ _ h
        obtain ⟨e, h3⟩ := cond_some h3
        exact ⟨_, _, _, h3, fun k' => by simp only [h1, h4, e, cond_true]⟩
      · cases h
    · cases h
  case mn =>
    split at h
    · obtain ⟨e, h⟩ := cond_some h; exact ⟨_, _, _, h, fun _ => by simp only [e, cond_true]⟩
    · cases h
  case mx =>
    split at h
    · obtain ⟨e, h⟩ := cond_some h; exact ⟨_, _, _, h, fun _ => by simp only [e, cond_true]⟩
    · cases h
  case lku z ok m q =>
    split at h
    · split at h
      · exact ⟨_, _, _, h, fun _ => rfl⟩
      · exact ⟨_, _, _, h, fun _ => rfl⟩
      · rename_i q' _ _ _ es _
        exact lift_par (F := fun k => findS _ (k (two ok z false)) (fun x => k (two ok x true)) es) (F' := fun k => findS _ (k (two ok z false)) (fun x => k (two ok x true)) es)
          (fun k h => findS_par (kn := fun k => k (two ok z false)) (kn' := fun k => k (two ok z false)) (f := fun x => two ok x true) (fun h => ⟨_, h, fun _ => rfl⟩) h) h
      · cases h
    · cases h
  all_goals (repeat' (split at h))
  all_goals first
    | exact ⟨_, _, _, h, fun _ => rfl⟩
    | (cases h; done)
    | (obtain ⟨e, h⟩ := cond_some h; exact ⟨_, _, _, h, fun _ => by simp only [e, cond_true]⟩)
    | skip

theorem sreg_par (he : EnvPar env env') : ∀ {cs : List CR} {s : SS} {k : SS → Option Ω}, sreg env A cs s k = some out → ∃ s', k s' = some out ∧ ∀ k' : SS → Option Ω', sreg env' A cs s k' = k' s'
  | [], s, k, h => by simp only [sreg] at h ⊢; exact ⟨s, h, fun _ => rfl⟩
  | o :: r, s, k, h => by
    have run : ∀ (s1 : SS), sop env A o.op s1 (fun v _ s' => sreg env A r ⟨putD o.dst v s'.t, s'.h⟩ k) = some out → ∃ s', k s' = some out ∧ ∀ k' : SS → Option Ω', sop env' A o.op s1 (fun v _ s' => sreg env' A r ⟨putD o.dst v s'.t, s'.h⟩ k') = k' s' := by
      intro s1 h1
      obtain ⟨v, m, s2, h2, h3⟩ := sop_par (Ω' := Ω') he h1
      obtain ⟨s', h4, h5⟩ := sreg_par he h2
      exact ⟨s', h4, fun k' => by rw [h3]; exact h5 k'⟩
    simp only [sreg] at h ⊢
    split at h
    · exact run s h
    · split at h
      · rename_i d want _ _ b hb
        rcases br_some h with ⟨rfl, h⟩ | ⟨rfl, h⟩
        · cases want with
          | true =>
            obtain ⟨s', h1, h2⟩ := run _ h
            exact ⟨s', h1, fun k' => h2 k'⟩
          | false =>
            obtain ⟨s', h1, h2⟩ := sreg_par he h
            exact ⟨s', h1, fun k' => h2 k'⟩
        · cases want with
          | true =>
            obtain ⟨s', h1, h2⟩ := sreg_par he h
            exact ⟨s', h1, fun k' => h2 k'⟩
          | false =>
            obtain ⟨s', h1, h2⟩ := run _ h
            exact ⟨s', h1, fun k' => h2 k'⟩
      · obtain ⟨s', h1, h2⟩ := sreg_par he h
        exact ⟨s', h1, fun k' => h2 k'⟩
      · cases h

theorem dop_par (he : EnvPar env env') {o : CR} {i : Nat} {lg : Log} {req : Nat} {s : SS} {n : SV → Log → Nat → SS → Option Ω} (h : dop env A o i lg req s n = some out) :
    ∃ v lg' req' s', n v lg' req' s' = some out ∧ ∀ n' : SV → Log → Nat → SS → Option Ω', dop env' A o i lg req s n' = n' v lg' req' s' := by
  unfold dop at h ⊢
  split at h
  · obtain ⟨v, m, s', h1, h2⟩ := sop_par (Ω' := Ω') he h
    exact ⟨_, _, _, _, h1, fun n' => h2 _⟩
  · obtain ⟨e, h⟩ := cond_some h
    obtain ⟨v, m, s', h1, h2⟩ := sop_par (Ω' := Ω') he h
    exact ⟨_, _, _, _, h1, fun n' => by simp only [e, cond_true]; exact h2 _⟩
  · obtain ⟨v, m, s', h1, h2⟩ := sop_par (Ω' := Ω') he h
    obtain ⟨e, h1⟩ := cond_some h1
    exact ⟨_, _, _, _, h1, fun n' => by rw [h2]; simp only [e, cond_true]⟩
  · split at h
    · split at h
      · split at h
        · rename_i hg
          obtain ⟨sp', g1, g2⟩ := he _ _ hg
          cases hpu : nmem _ A.pu with
          | true =>
            rw [hpu, cond_true] at h
            cases hmt : mentT (fun _ => true) (keepT (opsOf o.op) s.t) with
            | true => rw [hmt] at h; cases h
            | false =>
              rw [hmt, cond_false] at h
              obtain ⟨r, m, sc, h', h3, h4⟩ := g2 _ _ _ _ h
              split at h3
              · cases hv : ment (fun _ => true) r with
                | true => rw [hv] at h3; cases h3
                | false =>
                  rw [hv, cond_false] at h3
                  exact ⟨_, _, _, _, h3, fun n' => by simp only [g1, h4, hv, cond_true, cond_false]⟩
              · cases h3
          | false =>
          rw [hpu, cond_false] at h
          obtain ⟨r, m, sc, h', h3, h4⟩ := g2 _ _ _ _ h
          simp only [cond_false]
          split at h3
          · obtain ⟨e, h3⟩ := cond_some h3
            exact ⟨_, _, _, _, h3, fun n' => by simp only [g1, h4, e, cond_true]⟩
          · obtain ⟨e, h3⟩ := cond_some h3
            exact ⟨_, _, _, _, h3, fun n' => by simp only [g1, h4, e, cond_true]⟩
        · cases h
      · cases h
    · obtain ⟨e, h⟩ := cond_some h
      obtain ⟨v, m, s', h1, h2⟩ := sop_par (Ω' := Ω') he h
      exact ⟨_, _, _, _, h1, fun n' => by simp only [e, cond_true]; exact h2 _⟩

theorem sregD_par (he : EnvPar env env') : ∀ {cs : List CR} {i : Nat} {lg : Log} {req : Nat} {s : SS} {k : SS → Option Ω}, sregD env A cs i lg req s k = some out → ∃ s', k s' = some out ∧ ∀ k' : SS → Option Ω', sregD env' A cs i lg req s k' = k' s'
  | [], i, lg, req, s, k, h => by simp only [sregD] at h ⊢; exact ⟨s, h, fun _ => rfl⟩
  | o :: r, i, lg, req, s, k, h => by
    have run : ∀ (s1 : SS), dop env A o i lg req s1 (fun v lg req s' => sregD env A r (i + 1) lg req ⟨putD o.dst v s'.t, s'.h⟩ k) = some out → ∃ s', k s' = some out ∧ ∀ k' : SS → Option Ω', dop env' A o i lg req s1 (fun v lg req s' => sregD env' A r (i + 1) lg req ⟨putD o.dst v s'.t, s'.h⟩ k') = k' s' := by
      intro s1 h1
      obtain ⟨v, lg', req', s2, h2, h3⟩ := dop_par (Ω' := Ω') he h1
      obtain ⟨s', h4, h5⟩ := sregD_par he h2
      exact ⟨s', h4, fun k' => by rw [h3]; exact h5 k'⟩
    simp only [sregD] at h ⊢
    obtain ⟨e, h⟩ := cond_some h
    simp only [e, cond_true]
    split at h
    · exact run s h
    · split at h
      · rename_i d want _ _ b hb
        rcases br_some h with ⟨rfl, h⟩ | ⟨rfl, h⟩
        · cases want with
          | true =>
            obtain ⟨s', h1, h2⟩ := run _ h
            exact ⟨s', h1, fun k' => h2 k'⟩
          | false =>
            obtain ⟨s', h1, h2⟩ := sregD_par he h
            exact ⟨s', h1, fun k' => h2 k'⟩
        · cases want with
          | true =>
            obtain ⟨s', h1, h2⟩ := sregD_par he h
            exact ⟨s', h1, fun k' => h2 k'⟩
          | false =>
            obtain ⟨s', h1, h2⟩ := run _ h
            exact ⟨s', h1, fun k' => h2 k'⟩
      · obtain ⟨s', h1, h2⟩ := sregD_par he h
        exact ⟨s', h1, fun k' => h2 k'⟩
      · cases h

theorem iter_par {lv : List Nat} {n0 : Nat} {f : SS → (SE → SS → Option Ω) → Option Ω} {f' : SS → (SE → SS → Option Ω') → Option Ω'}
    (hf : ∀ s k, f s k = some out → ∃ e s', k e s' = some out ∧ ∀ k', f' s k' = k' e s') : ∀ (n : Nat) {s : SS} {k : SE → SS → Option Ω}, iter lv n0 f n s k = some out → ∃ e s', k e s' = some out ∧ ∀ k' : SE → SS → Option Ω', iter lv n0 f' n s k' = k' e s'
  | 0, s, k, h => by simp [iter] at h
  | n + 1, s, k, h => by
    simp only [iter] at h ⊢
    obtain ⟨e, s1, h1, h2⟩ := hf _ _ h
    cases e with
    | norm =>
      obtain ⟨e, s2, h3, h4⟩ := iter_par hf n h1
      exact ⟨e, s2, h3, fun k' => by rw [h2]; exact h4 k'⟩
    | exit i => exact ⟨_, _, h1, fun k' => by rw [h2]⟩
    | ret => exact ⟨_, _, h1, fun k' => by rw [h2]⟩

theorem sx_par (he : EnvPar env env') : ∀ (c : CC) {id : Nat} {s : SS} {k : SE → SS → Option Ω}, sx env A c id s k = some out → ∃ e s', k e s' = some out ∧ ∀ k' : SE → SS → Option Ω', sx env' A c id s k' = k' e s' := by
  intro c
  induction c with
  | skip => intro id s k h; simp only [sx] at h ⊢; exact ⟨_, _, h, fun _ => rfl⟩
  | reg draw ops =>
    intro id s k h
    simp only [sx] at h ⊢
    cases draw with
    | true =>
      simp only [cond_true] at h ⊢
      obtain ⟨s', h1, h2⟩ := sregD_par (Ω' := Ω') he h
      exact ⟨_, _, h1, fun k' => h2 _⟩
    | false =>
      simp only [cond_false] at h ⊢
      obtain ⟨s', h1, h2⟩ := sreg_par (Ω' := Ω') he h
      exact ⟨_, _, h1, fun k' => h2 _⟩
  | seq a b iha ihb =>
    intro id s k h
    simp only [sx] at h ⊢
    obtain ⟨e, s1, h1, h2⟩ := iha h
    cases e with
    | norm =>
      obtain ⟨e, s2, h3, h4⟩ := ihb h1
      exact ⟨e, s2, h3, fun k' => by rw [h2]; exact h4 k'⟩
    | exit i => exact ⟨_, _, h1, fun k' => by rw [h2]⟩
    | ret => exact ⟨_, _, h1, fun k' => by rw [h2]⟩
  | cond n a b iha ihb =>
    intro id s k h
    simp only [sx] at h ⊢
    split at h
    · rcases br_some h with ⟨rfl, h⟩ | ⟨rfl, h⟩
      · obtain ⟨e, s1, h1, h2⟩ := iha h
        exact ⟨e, s1, h1, fun k' => h2 k'⟩
      · obtain ⟨e, s1, h1, h2⟩ := ihb h
        exact ⟨e, s1, h1, fun k' => h2 k'⟩
    · cases h
  | block bid a iha =>
    intro id s k h
    simp only [sx] at h ⊢
    obtain ⟨e, s1, h1, h2⟩ := iha h
    cases e with
    | norm => exact ⟨_, _, h1, fun k' => by rw [h2]⟩
    | exit i =>
      dsimp only at h1
      cases hb : Nat.beq i bid with
      | true => rw [hb] at h1; exact ⟨_, _, h1, fun k' => by rw [h2]; simp only [hb, cond_true]⟩
      | false => rw [hb] at h1; exact ⟨_, _, h1, fun k' => by rw [h2]; simp only [hb, cond_false]⟩
    | ret => exact ⟨_, _, h1, fun k' => by rw [h2]⟩
  | loop a iha =>
    intro id s k h
    simp only [sx] at h ⊢
    exact iter_par (fun s k h => iha h) big h
  | exit i => intro id s k h; simp only [sx] at h ⊢; exact ⟨_, _, h, fun _ => rfl⟩
  | ret => intro id s k h; simp only [sx] at h ⊢; exact ⟨_, _, h, fun _ => rfl⟩

theorem sxFn_par (he : EnvPar env env') {C : CF} {args : List SV} {h : SH} {k : SV → SH → Option Ω} (hr : sxFn env A C args h k = some out) : ∃ r h', k r h' = some out ∧ ∀ k' : SV → SH → Option Ω', sxFn env' A C args h k' = k' r h' := by
  simp only [sxFn] at hr ⊢
  obtain ⟨e0, hr⟩ := cond_some hr
  obtain ⟨e, s', h1, h2⟩ := sx_par (Ω' := Ω') he _ hr
  have fin : (match rets s' C.res with | some l => k (tup1 l) s'.h | none => none) = some out →
      ∃ r h', k r h' = some out ∧ ∀ k' : SV → SH → Option Ω', (match rets s' C.res with | some l => k' (tup1 l) s'.h | none => none) = k' r h' := by
    intro h
    split at h
    · exact ⟨_, _, h, fun _ => rfl⟩
    · cases h
  cases e with
  | exit i => cases h1
  | norm =>
    obtain ⟨r, h', h3, h4⟩ := fin h1
    exact ⟨r, h', h3, fun k' => by simp only [e0, cond_true]; rw [h2]; exact h4 k'⟩
  | ret =>
    obtain ⟨r, h', h3, h4⟩ := fin h1
    exact ⟨r, h', h3, fun k' => by simp only [e0, cond_true]; rw [h2]; exact h4 k'⟩
end
end Go.Sx
