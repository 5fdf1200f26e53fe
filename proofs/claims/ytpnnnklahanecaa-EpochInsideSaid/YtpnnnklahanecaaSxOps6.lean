/- Operations, sixth part: equality, lengths, min and max. -/
import Derived.Test.YtpnnnklahanecaaSxOps5
namespace Go.Sx

section
variable {P : Program} {A : Ann} {o : Oper} {s : SS} {Ω : Type} {k : SV → List Nat → SS → Option Ω} {out : Ω}

theorem eqS_top (e : EqT) (x : SV) : eqS e .top x = none := by cases e <;> simp [eqS]
theorem eqS_top' (e : EqT) (x : SV) : eqS e x .top = none := by
  cases e <;> cases x <;> simp [eqS]

theorem partS_some {e : EqT} {cx : Cx} {w : World} {c d : List SV} {c' : List Value} (hr : SRepL cx w c c') {ft : TypeId} {off : Nat} {r : Bool}
    (h : eqS e (partS (aggT P ft) (szT P ft) off c) (partS (aggT P ft) (szT P ft) off d) = some r ∨ eqS e (partS (aggT P ft) (szT P ft) off d) (partS (aggT P ft) (szT P ft) off c) = some r) : aggT P ft = false → off < c'.length := by
  intro ha
  rcases Nat.lt_or_ge off c'.length with hl | hl
  · exact hl
  · have hcl := hr.length
    have : c.getD off .top = .top := by rw [List.getD_eq_getElem?_getD, List.getElem?_eq_none (by omega)]; rfl
    simp only [partS, ha, cond_false, this] at h
    rw [eqS_top, eqS_top'] at h
    simp at h

theorem eqT_valid : ∀ {d : Nat} {t : TypeId} {e : EqT}, eqT P d t = some e → uT P t ≠ .invalid
  | 0, _, _, h => by simp [eqT] at h
  | d + 1, t, e, h => by intro e'; simp [eqT, e'] at h

theorem eqFs_shape {f : TypeId → Option EqT} : ∀ {fs : List Field} {e : EqT}, eqFs P f fs = some e → ∀ {x y : SV} {c : Bool}, eqS e x y = some c → ∃ xs ys, x = .agg xs ∧ y = .agg ys
  | [], e, h, x, y, c, h' => by
    simp only [eqFs, Option.some.injEq] at h; subst h
    cases x <;> cases y <;> simp [eqS] at h' <;> exact ⟨_, _, rfl, rfl⟩
  | q :: fs, e, h, x, y, c, h' => by
    simp only [eqFs] at h
    cases hn : (q.name == "_") with
    | true => simp only [hn, cond_true] at h; exact eqFs_shape h h'
    | false =>
      simp only [hn, cond_false] at h
      split at h
      · simp only [Option.some.injEq] at h; subst h
        cases x <;> cases y <;> simp [eqS] at h' <;> exact ⟨_, _, rfl, rfl⟩
      · simp at h

theorem eqFields_run {D d : Nat} (ih : ∀ (t : TypeId) (e : EqT) (x y : SV) (u v : Value) (c : Bool) (cx : Cx) (w : World), eqT P d t = some e → eqS e x y = some c → SRep cx w x u → SRep cx w y v → (Op.equalIn D t u v).run P w = .ok c w)
    {cx : Cx} {w : World} {xs ys : List SV} {us vs : List Value} (hx : SRepL cx w xs us) (hy : SRepL cx w ys vs) :
    ∀ (fs : List Field) (e : EqT) (c : Bool), eqFs P (eqT P d) fs = some e → eqS e (.agg xs) (.agg ys) = some c → (Op.eqFields D ⟨us⟩ ⟨vs⟩ fs).run P w = .ok c w
  | [], e, c, h, h' => by
    simp only [eqFs, Option.some.injEq] at h; subst h
    simp only [eqS, Option.some.injEq] at h'; subst h'
    simp [Op.eqFields]
  | f :: fs, e, c, h, h' => by
    simp only [eqFs] at h
    cases hn : (f.name == "_") with
    | true =>
      simp only [hn, cond_true] at h
      have : f.name = "_" := by simpa using hn
      simp only [Op.eqFields, this, ne_eq, not_true_eq_false, if_false]
      exact eqFields_run ih hx hy fs e c h h'
    | false =>
      simp only [hn, cond_false] at h
      have hne : f.name ≠ "_" := by simpa using hn
      split at h
      · rename_i e1 l1 he1 hl1
        simp only [Option.some.injEq] at h; subst h
        simp only [eqS] at h'
        split at h'
        · rename_i p q hp hq
          simp only [Option.some.injEq] at h'; subst h'
          obtain ⟨v1, hv1, hs1⟩ := partS_sound (P := P) hx (eqT_valid he1) (partS_some hx (.inl hp))
          obtain ⟨v2, hv2, hs2⟩ := partS_sound (P := P) hy (eqT_valid he1) (partS_some hy (.inr hp))
          have h3 := ih f.type e1 _ _ v1 v2 p cx w he1 hp hs1 hs2
          have h4 := eqFields_run ih hx hy fs l1 q hl1 hq
          simp only [Op.eqFields, hne, ne_eq, not_false_eq_true, if_true, Sem.run_bind, hv1, hv2, h3, Result.andThen_ok]
          cases p <;> simp [h4]
        · simp at h'
      · simp at h

theorem base_ptr {D : Nat} {t el : TypeId} {x y : SV} {u v : Value} {c : Bool} {cx : Cx} {w : World} (hu : (underlying t).run P w = .ok (.pointer el) w) (h : eqS .ptr x y = some c) (hx : SRep cx w x u) (hy : SRep cx w y v) :
    (Op.equalIn (D + 1) t u v).run P w = .ok c w := by
  unfold eqS at h
  split at h <;> (try contradiction)
  all_goals (simp only [Option.some.injEq] at h; subst h; simp only [SRep, DRep] at hx hy)
  · simp [Op.equalIn, hu, hx.1, hy.1]
  · simp [Op.equalIn, hu, hx.2, hy.1]
  · simp [Op.equalIn, hu, hx.1, hy.2]
  · simp [Op.equalIn, hu, hx.2.1, hy.1]
  · simp [Op.equalIn, hu, hx.1, hy.2.1]
  · obtain ⟨b, o', hx, _⟩ := hx; simp [Op.equalIn, hu, hx, hy.1]
  · obtain ⟨b, o', hy, _⟩ := hy; simp [Op.equalIn, hu, hx.1, hy]

theorem base_slc {D : Nat} {t el : TypeId} {x y : SV} {u v : Value} {c : Bool} {cx : Cx} {w : World} (hu : (underlying t).run P w = .ok (.slice el) w) (h : eqS .slc x y = some c) (hx : SRep cx w x u) (hy : SRep cx w y v) :
    (Op.equalIn (D + 1) t u v).run P w = .ok c w := by
  unfold eqS at h
  split at h <;> (try contradiction)
  all_goals (simp only [Option.some.injEq] at h; subst h; simp only [SRep, DRep] at hx hy)
  · simp [Op.equalIn, hu, hx.1, hy.1]
  · simp [Op.equalIn, hu, hx.1, hy.1]
  · obtain ⟨a, c', e, _, h⟩ := hx
    obtain ⟨b, o, e1, _⟩ := h (by simp)
    simp [Op.equalIn, hu, e, e1, hy.1]
  · obtain ⟨a, c', e, _, h⟩ := hx
    obtain ⟨b, o, e1, _⟩ := h (by simp)
    simp [Op.equalIn, hu, e, e1, hy.1]

theorem base_fnc {D : Nat} {t : TypeId} {a b : Array TypeId} {va : Bool} {x y : SV} {u v : Value} {c : Bool} {cx : Cx} {w : World} (hu : (underlying t).run P w = .ok (.func a b va) w) (h : eqS .fnc x y = some c) (hx : SRep cx w x u) (hy : SRep cx w y v) :
    (Op.equalIn (D + 1) t u v).run P w = .ok c w := by
  unfold eqS at h
  split at h <;> (try contradiction)
  all_goals (simp only [Option.some.injEq] at h; subst h; simp only [SRep, DRep] at hx hy)
  simp [Op.equalIn, hu, hx.1, hy.1]

theorem base_mp {D : Nat} {t a b : TypeId} {x y : SV} {u v : Value} {c : Bool} {cx : Cx} {w : World} (hu : (underlying t).run P w = .ok (.map a b) w) (h : eqS .mp x y = some c) (hx : SRep cx w x u) (hy : SRep cx w y v) :
    (Op.equalIn (D + 1) t u v).run P w = .ok c w := by
  unfold eqS at h
  split at h <;> (try contradiction)
  all_goals (simp only [Option.some.injEq] at h; subst h; simp only [SRep, DRep] at hx hy)
  · simp [Op.equalIn, hu, hx.1, hy.1]
  · simp [Op.equalIn, hu, hx.2, hy.1]

theorem base_bool {D : Nat} {t : TypeId} {x y : SV} {u v : Value} {c : Bool} {cx : Cx} {w : World} (hu : (underlying t).run P w = .ok .bool w) (h : eqS .bool x y = some c) (hx : SRep cx w x u) (hy : SRep cx w y v) :
    (Op.equalIn (D + 1) t u v).run P w = .ok c w := by
  unfold eqS at h
  split at h <;> (try contradiction)
  all_goals (simp only [Option.some.injEq] at h; subst h; simp only [SRep, DRep] at hx hy)
  simp [Op.equalIn, hu, hx.1, hy.1]

theorem base_str {D : Nat} {t : TypeId} {x y : SV} {u v : Value} {c : Bool} {cx : Cx} {w : World} (hu : (underlying t).run P w = .ok .string w) (h : eqS .str x y = some c) (hx : SRep cx w x u) (hy : SRep cx w y v) :
    (Op.equalIn (D + 1) t u v).run P w = .ok c w := by
  unfold eqS at h
  split at h <;> (try contradiction)
  all_goals (simp only [Option.some.injEq] at h; subst h; simp only [SRep, DRep] at hx hy)
  simp [Op.equalIn, hu, hx.1, hy.1]

theorem base_int {D : Nat} {t : TypeId} {kt : IntKind} {x y : SV} {u v : Value} {c : Bool} {cx : Cx} {w : World} (hu : (underlying t).run P w = .ok (.int kt) w) (h : eqS .int x y = some c) (hx : SRep cx w x u) (hy : SRep cx w y v) :
    (Op.equalIn (D + 1) t u v).run P w = .ok c w := by
  unfold eqS at h
  split at h <;> (try contradiction)
  have hk := cond_some h
  have := kEq_eq hk.1
  have hk := hk.2
  simp only [Option.some.injEq] at hk
  have h1 := int_of hx; have h2 := int_of hy
  subst h1; subst h2; subst hk; subst this
  simp [Op.equalIn, hu]

theorem eqS_run : ∀ (d D : Nat), d ≤ D → ∀ (t : TypeId) (e : EqT) (x y : SV) (u v : Value) (c : Bool) (cx : Cx) (w : World), eqT P d t = some e → eqS e x y = some c → SRep cx w x u → SRep cx w y v → (Op.equalIn D t u v).run P w = .ok c w
  | 0, _, _, t, e, x, y, u, v, c, cx, w, h, _, _, _ => by simp [eqT] at h
  | d + 1, 0, hD, _, _, _, _, _, _, _, _, _, _, _, _, _ => by omega
  | d + 1, D + 1, hD, t, e, x, y, u, v, c, cx, w, h, h', hx, hy => by
    have hv := eqT_valid h
    have hu := run_uT w hv
    simp only [eqT] at h
    split at h <;> (try (simp at h; done))
    case h_8 fs he =>
      obtain ⟨hs, hfs⟩ : P.stoodInHeld t = false ∧ eqFs P (eqT P d) fs.toList = some e := by
        cases hq : P.stoodInHeld t with
        | true => simp [hq] at h
        | false => simp only [hq, cond_false] at h; exact ⟨rfl, h⟩
      obtain ⟨xs, ys, rfl, rfl⟩ := eqFs_shape hfs h'
      simp only [SRep] at hx hy
      obtain ⟨us, rfl, hx⟩ := hx
      obtain ⟨vs, rfl, hy⟩ := hy
      have hund : P.underlying t = some (.struct fs) := by rw [← he]; exact (info_of_uT hv).1
      have hfo : P.fieldsOf t = fs := by simp [Program.fieldsOf, hund]
      rw [run_equalIn_struct w D t ⟨us⟩ ⟨vs⟩ (by rw [hfo]; exact hund) hs, hfo]
      exact eqFields_run (fun t e x y u v c cx w => eqS_run d D (by omega) t e x y u v c cx w) hx hy _ e c hfs h'
    all_goals
      rename_i he
      simp only [Option.some.injEq] at h; subst h
      rw [he] at hu
    · exact base_bool hu h' hx hy
    · exact base_int hu h' hx hy
    · exact base_str hu h' hx hy
    · exact base_ptr hu h' hx hy
    · exact base_slc hu h' hx hy
    · exact base_fnc hu h' hx hy
    · exact base_mp hu h' hx hy

/-- binOp at '==' and '!=' over what eqS compares. -/
theorem binOp_eq {t : TypeId} {e : EqT} {x y : SV} {u v : Value} {c : Bool} {cx : Cx} {w : World} (ht : eqT P 20 t = some e) (h : eqS e x y = some c) (hx : SRep cx w x u) (hy : SRep cx w y v) :
    (binOp .eql t u v).run P w = .ok (.bool c) w ∧ (binOp .neq t u v).run P w = .ok (.bool (!c)) w := by
  have hr := eqS_run 20 10000 (by omega) t e x y u v c cx w ht h hx hy
  have key : (Op.equal t u v).run P w = .ok c w := hr
  unfold eqS at h
  split at h <;> (try (simp at h; done))
  case h_2 =>
    have h1 := int_of hx; have h2 := int_of hy
    have hk := cond_some h
    have := kEq_eq hk.1
    have hk := hk.2
    simp only [Option.some.injEq] at hk
    subst h1; subst h2; subst this; subst c
    constructor
    · simp [binOp, Op.intCmp]
    · simp [binOp, Op.intCmp, bne]
  case h_3 =>
    have h1 := str_of hx; have h2 := str_of hy
    simp only [Option.some.injEq] at h
    subst h1; subst h2; subst h
    constructor
    · simp [binOp, Op.stringOp, beq_toListBytes]
    · simp [binOp, Op.stringOp, beq_toListBytes]
  all_goals (simp only [SRep, DRep] at hx hy)
  all_goals first
    | (obtain ⟨a, c', hx, _, h9⟩ := hx; obtain ⟨b9, o9, h10, _⟩ := h9 (by simp); rw [hx, h10, hy.1] at key ⊢; (try generalize List.length _ = mm at key ⊢); constructor <;> (simp only [binOp]; simp [key]); done)
    | (rw [hx.1, hy.1] at key ⊢; constructor <;> (simp only [binOp]; simp [key]); done)
    | (rw [hx.2, hy.1] at key ⊢; constructor <;> (simp only [binOp]; simp [key]); done)
    | (rw [hx.1, hy.2] at key ⊢; constructor <;> (simp only [binOp]; simp [key]); done)
    | (rw [hx.2.1, hy.1] at key ⊢; constructor <;> (simp only [binOp]; simp [key]); done)
    | (rw [hx.1, hy.2.1] at key ⊢; constructor <;> (simp only [binOp]; simp [key]); done)
    | (obtain ⟨b, o', hx, _⟩ := hx; rw [hx, hy.1] at key ⊢; constructor <;> (simp only [binOp]; simp [key]); done)
    | (obtain ⟨b, o', hy, _⟩ := hy; rw [hx.1, hy] at key ⊢; constructor <;> (simp only [binOp]; simp [key]); done)
    | (obtain ⟨b, hx, _⟩ := hx; obtain ⟨d, hy, _⟩ := hy; rw [hx, hy] at key ⊢; constructor <;> (simp only [binOp]; simp [key]); done)

theorem run_guard {op : BinOp} {t : TypeId} {x y : Operand} {p q : Value} {w : World} (hg : P.eqGuardType P.depth t = false) (hne : ¬ p = .nilIface) : (eqGuard op t x y p q).run P w = .ok () w := by
  by_cases ha : ∃ c, p = .agg c
  · obtain ⟨c, rfl⟩ := ha
    by_cases hb : ∃ d, q = .agg d
    · obtain ⟨d, rfl⟩ := hb; exact run_eqGuard_agg w op t x y c d hg
    · cases q <;> first | exact absurd ⟨_, rfl⟩ hb | (simp only [eqGuard]; split <;> rfl)
  · cases p <;> first | exact absurd rfl hne | exact absurd ⟨_, rfl⟩ ha | (simp only [eqGuard]; split <;> rfl)

theorem snd_eq {t u : TypeId} {neg : Bool} {x y : Operand} {x' y' : CA} {e : EqT} (ho : o.op = .binOp (bif neg then .neq else .eql) t x y u) (hx : coA x = some x') (hy : coA y = some y')
    (he : eqT P 20 t = some e) (hg : P.eqGuardType P.depth t = false) {env : Env Ω} (h : sop env A (.eq e neg x' y') s k = some out) : PlainV P o s k out := by
  simp only [sop] at h
  split at h
  · rename_i c hc
    refine ⟨_, h, fun cx w a hG ht => ⟨_, ?_, SRep.bool⟩⟩
    obtain ⟨h1, h2⟩ := binOp_eq (P := P) he hc (eval_coA hx ht) (eval_coA hy ht)
    have hne : ¬ (a.eval x = .nilIface) := by
      intro e'
      have hv := eval_coA hx ht
      rw [e'] at hv
      generalize ev s.t x' = q at hv hc
      cases q with
      | d q =>
        cases q <;> simp only [SRep, DRep] at hv
        · obtain ⟨rfl, _⟩ := hv
          cases e <;> simp [eqS] at hc
        · obtain ⟨_, _, hv, _⟩ := hv; simp at hv
        · obtain ⟨_, _, hv, _⟩ := hv; simp at hv
      | rp sz f o => simp only [SRep] at hv; obtain ⟨_, _, hv, _⟩ := hv; simp at hv
      | top => rw [eqS_top] at hc; simp at hc
      | fn g a b => simp only [SRep] at hv; obtain ⟨_, _, hv, _⟩ := hv; simp at hv
      | agg c => simp only [SRep] at hv; obtain ⟨_, hv, _⟩ := hv; simp at hv
      | tup c => simp only [SRep] at hv; obtain ⟨_, hv, _⟩ := hv; simp at hv
      | _ => simp [SRep] at hv
    have hgu : ∀ op, (eqGuard op t x y (a.eval x) (a.eval y)).run P w = .ok () w := fun op => run_guard hg hne
    cases neg with
    | true => simp [execOp, ho, hgu, h2]
    | false => simp [execOp, ho, hgu, h1]
  · simp at h
end
end Go.Sx
