/- Operations, fifth part: fields, indexes, lengths, comparisons. -/
import Derived.Test.YtljmncdlehinnaaSxOps4
set_option linter.unusedVariables false
set_option linter.unusedSimpArgs false
namespace Go.Sx

section
variable {P : Program} {A : Ann} {o : Oper} {s : SS} {Ω : Type} {k : SV → List Nat → SS → Option Ω} {out : Ω}

theorem okT_ne {t : TypeId} (h : okT P t = true) : uT P t ≠ .invalid := by
  intro e; simp [okT, e] at h

theorem snd_fld {t : TypeId} {x : Operand} {x' : CA} {f : Nat} {fd : Field} (ho : o.op = .field t x f) (hx : coA x = some x') (hf : fldT P t f = some fd) (hk : okT P fd.type = true)
    {env : Env Ω} (h : sop env A (.fld fd.offset (szT P fd.type) (aggT P fd.type) x') s k = some out) : PlainV P o s k out := by
  simp only [sop] at h
  split at h
  · rename_i c e
    obtain ⟨hl, h⟩ := cond_some h
    refine ⟨_, h, fun cx w a hg ht => ?_⟩
    have h1 := eval_coA hx ht
    rw [e] at h1
    simp only [SRep] at h1
    obtain ⟨c', e1, hr⟩ := h1
    have hcl := hr.length
    obtain ⟨v, hv, hsv⟩ := partS_sound (P := P) hr (ft := fd.type) (off := fd.offset) (okT_ne hk) (fun ha => by
      rw [ha, Bool.false_or] at hl; have := Nat.le_of_ble_eq_true hl; omega)
    refine ⟨v, ?_, hsv⟩
    unfold fldT at hf
    split at hf
    · rename_i fs hu
      have : fs[f]? = some fd := by simpa using hf
      simp [execOp, ho, e1, Instr.field, run_uT w (t := t) (by rw [hu]; simp), hu, this, asAgg, hv]
    · simp at hf
  · simp at h

theorem caseIx_some {i : Int} {f : Nat → Option Ω} : ∀ {n j : Nat}, caseIx i f n j = some out → ∃ m, j ≤ m ∧ m < j + n ∧ i = (m : Int) ∧ f m = some out
  | 0, j, h => by simp [caseIx] at h
  | n + 1, j, h => by
    simp only [caseIx] at h
    rcases br_some h with ⟨e, h⟩ | ⟨_, h⟩
    · exact ⟨j, Nat.le_refl _, by omega, by simpa using e, h⟩
    · obtain ⟨m, h1, h2, h3, h4⟩ := caseIx_some h
      exact ⟨m, by omega, by omega, h3, h4⟩

theorem snd_ixa {t e : TypeId} {n : Nat} {x i : Operand} {x' i' : CA} (ho : o.op = .indexAddr t x i) (hx : coA x = some x') (hi : coA i = some i') (hu : uT P t = .array n e) (hz : szT P e ≠ 0)
    {env : Env Ω} (h : sop env A (.ixa n (szT P e) x' i') s k = some out) : PlainV P o s k out := by
  simp only [sop] at h
  split at h
  · rename_i kd j ei
    have hh := caseIx_some h
    clear h
    obtain ⟨m, _, hm, rfl, h⟩ := hh
    simp only [Nat.zero_add] at hm
    split at h
    · rename_i p hp
      refine ⟨_, h, fun cx w a hg ht => ?_⟩
      obtain ⟨ad', h1, h2⟩ := addO_sound hp (eval_coA hx ht)
      have h3 := int_of (ei ▸ eval_coA hi ht)
      refine ⟨_, ?_, h2⟩
      simp [execOp, ho, h1, h3, Instr.indexAt, asIntOf, run_uT w (t := t) (by rw [hu]; simp), hu, Instr.sureAddr, run_szT w (t := e) (by obtain ⟨i, hi, _⟩ := info_of_sz hz; exact ⟨i, hi⟩), hm]
    · simp at h
  · simp at h

theorem inB_spec {i : Int} {n : Nat} (h : inB i n = true) : 0 ≤ i ∧ i.toNat < n ∧ i < (n : Int) ∧ ((i.toNat : Nat) : Int) = i := by
  simp only [inB, Bool.and_eq_true, decide_eq_true_eq] at h
  omega

theorem run_indexAt_slice {t e : TypeId} (hu : uT P t = .slice e) (hz : szT P e ≠ 0) (w : World) (a : Addr) (len cap : Nat) (kd : IntKind) (j : Int) (h0 : 0 ≤ j) (h1 : j < (len : Int)) :
    (Instr.indexAt t (.slice (some a) len cap) (.int kd j)).run P w = .ok (.pointer (some (a.add (j.toNat * szT P e)))) w := by
  simp [Instr.indexAt, asIntOf, run_uT w (t := t) (by rw [hu]; simp), hu, run_szT w (t := e) (by obtain ⟨i, hi, _⟩ := info_of_sz hz; exact ⟨i, hi⟩), h0, h1]

theorem run_ixs {t e : TypeId} {x i : Operand} (ho : o.op = .indexAddr t x i) (hu : uT P t = .slice e) (hz : szT P e ≠ 0) {w : World} {a : Act} {ad : Addr} {len cap : Nat} {kd : IntKind} {j : Int}
    (hx : a.eval x = .slice (some ad) len cap) (hi : a.eval i = .int kd j) (h0 : 0 ≤ j) (h1 : j < (len : Int)) : (execOp a.eval o).run P w = .ok (.value (.pointer (some (ad.add (j.toNat * szT P e))))) w := by
  simp [execOp, ho, hx, hi, run_indexAt_slice hu hz w _ _ _ _ _ h0 h1]

theorem snd_ixs {t e : TypeId} {x i : Operand} {x' i' : CA} (ho : o.op = .indexAddr t x i) (hx : coA x = some x') (hi : coA i = some i') (hu : uT P t = .slice e) (hz : szT P e ≠ 0)
    {env : Env Ω} (h : sop env A (.ixs (szT P e) x' i') s k = some out) : PlainV P o s k out := by
  simp only [sop] at h
  split at h
  · rename_i kd j ei
    simp only [ixSl] at h
    split at h
    · rename_i k1 l ex
      obtain ⟨h1, h⟩ := cond_some h
      have h1 := Nat.eq_of_beq_eq_true h1
      rcases br_some h with ⟨hb, h⟩ | ⟨_, h⟩
      · obtain ⟨b0, b1, b2, b3⟩ := inB_spec hb
        refine ⟨_, h, fun cx w a hg ht => ?_⟩
        have h3 := int_of (ei ▸ eval_coA hi ht)
        have hv := eval_coA hx ht
        rw [ex] at hv
        simp only [SRep, DRep] at hv
        obtain ⟨ad', c, ea, hc, hl⟩ := hv
        obtain ⟨b, o', rfl, hf, hcell⟩ := hl (by intro e; simp [e] at b1)
        refine ⟨_, run_ixs ho hu hz ea h3 b0 b2, ?_⟩
        simp only [SRep, h1, Nat.mul_one, addr_add]
        refine ⟨b, o' + j.toNat, by simp, hf, fun i hi => ⟨_, ?_, by simp only [DRep]; exact ⟨rfl, trivial⟩⟩⟩
        have : i = 0 := by omega
        subst this; exact hcell _ b1
      · simp at h
    · rename_i sz' n f ex
      obtain ⟨h1, h⟩ := cond_some h
      have h1 := Nat.eq_of_beq_eq_true h1
      rcases br_some h with ⟨hb, h⟩ | ⟨_, h⟩
      · obtain ⟨b0, b1, b2, b3⟩ := inB_spec hb
        refine ⟨_, h, fun cx w a hg ht => ?_⟩
        have h3 := int_of (ei ▸ eval_coA hi ht)
        have hv := eval_coA hx ht
        rw [ex] at hv
        simp only [SRep, DRep] at hv
        obtain ⟨ad', c, ea, hc, hl⟩ := hv
        obtain ⟨b, o', rfl, hf, hcell⟩ := hl (by omega)
        refine ⟨_, run_ixs ho hu hz ea h3 b0 b2, ?_⟩
        simp only [SRep, h1, addr_add]
        refine ⟨b, o' + j.toNat * sz', by simp, hf, fun i hi => ?_⟩
        obtain ⟨x, h5, h6⟩ := hcell _ b1 i hi
        exact ⟨x, by rw [Nat.add_assoc]; exact h5, h6⟩
      · simp at h
    · rename_i l ex
      have own : ∀ (cx : Cx) (w : World) (a : Act), Seen cx s.h w → TRep cx w s.t a.tmps → cx.rs l = szT P e → 0 ≤ j → j < (cx.ln l : Int) → cx.nl l = false →
          ∃ v', (execOp a.eval o).run P w = .ok (.value v') w ∧ SRep cx w (.pe l j.toNat 0) v' := by
        intro cx w a hg ht hrs b0 b2 hnl
        have h3 := int_of (ei ▸ eval_coA hi ht)
        have hv := eval_coA hx ht
        rw [ex] at hv
        simp only [SRep] at hv
        obtain ⟨hn, ea⟩ := hv
        rw [hnl] at ea
        refine ⟨_, run_ixs ho hu hz ea h3 b0 b2, ?_⟩
        simp only [SRep, addr_add, hrs]
        exact ⟨hn, by simp, by omega, hnl⟩
      split at h
      · rename_i t' k1 xs hget'
        obtain ⟨h1, h⟩ := cond_some h
        have h1 := Nat.eq_of_beq_eq_true h1
        rcases br_some h with ⟨hb, h⟩ | ⟨_, h⟩
        · obtain ⟨b0, b1, b2, b3⟩ := inB_spec hb
          refine ⟨_, h, fun cx w a hg ht => ?_⟩
          have hO := hg.obj l
          rw [hget'] at hO
          obtain ⟨hln, hrs, hcp, hnl, _⟩ := hO
          refine own cx w a hg ht (by rw [hrs, h1]) b0 (by rw [hln]; exact b2) ?_
          cases hq : cx.nl l with
          | false => rfl
          | true => have := hnl hq; omega
        · simp at h
      · rename_i t' sz' n f hget'
        obtain ⟨h1, h⟩ := cond_some h
        have h1 := Nat.eq_of_beq_eq_true h1
        rcases br_some h with ⟨hb, h⟩ | ⟨_, h⟩
        · obtain ⟨b0, b1, b2, b3⟩ := inB_spec hb
          refine ⟨_, h, fun cx w a hg ht => ?_⟩
          have hO := hg.obj l
          rw [hget'] at hO
          obtain ⟨hln, hrs, hcp, hnl, _⟩ := hO
          refine own cx w a hg ht (by rw [hrs, h1]) b0 (by rw [hln]; exact b2) ?_
          cases hq : cx.nl l with
          | false => rfl
          | true => have := hnl hq; omega
        · simp at h
      · simp at h
    · rename_i l o' sz' n c ex
      have h0 := cond_some h
      clear h
      have h1 := Nat.eq_of_beq_eq_true h0.1
      have hh := caseIx_some h0.2
      obtain ⟨m, _, hm, rfl, h⟩ := hh
      refine ⟨_, h, fun cx w a hg ht => ?_⟩
      have h3 := int_of (ei ▸ eval_coA hi ht)
      have hv := eval_coA hx ht
      rw [ex] at hv
      simp only [SRep] at hv
      obtain ⟨hn, ea⟩ := hv
      refine ⟨_, run_ixs ho hu hz ea h3 (by omega) (by omega), ?_⟩
      simp only [SRep, addr_add, h1]
      exact ⟨hn, by simp⟩
    · simp at h
  · simp at h

theorem snd_ixg {t e : TypeId} {n : Nat} {x i : Operand} {x' i' : CA} (ho : o.op = .index t x i) (hx : coA x = some x') (hi : coA i = some i') (hu : uT P t = .array n e) (hz : szT P e ≠ 0) (hk : okT P e = true)
    {env : Env Ω} (h : sop env A (.ixg n (szT P e) (aggT P e) x' i') s k = some out) : PlainV P o s k out := by
  simp only [sop] at h
  split at h
  · rename_i kd j ei
    simp only [ixAgg] at h
    split at h
    · rename_i c ec
      have hh := caseIx_some h
      clear h
      obtain ⟨m, _, hm, rfl, h⟩ := hh
      obtain ⟨hl, h⟩ := cond_some h
      refine ⟨_, h, fun cx w a hg ht => ?_⟩
      have h3 := int_of (ei ▸ eval_coA hi ht)
      have h1 := eval_coA hx ht
      rw [ec] at h1
      simp only [SRep] at h1
      obtain ⟨c', e1, hr⟩ := h1
      have hcl := hr.length
      obtain ⟨v, hv, hsv⟩ := partS_sound (P := P) hr (ft := e) (off := m * szT P e) (okT_ne hk) (fun ha => by
        rw [ha, Bool.false_or] at hl; have := Nat.le_of_ble_eq_true hl; omega)
      have hm' : m < n := by omega
      exact ⟨v, by simp [execOp, ho, e1, h3, Instr.index, asIntOf, run_uT w (t := t) (by rw [hu]; simp), hu, run_szT w (t := e) (by obtain ⟨i, hi, _⟩ := info_of_sz hz; exact ⟨i, hi⟩), hm', hv], hsv⟩
    · simp at h
  · simp at h

theorem snd_ixc {t : TypeId} {x i : Operand} {x' i' : CA} (ho : o.op = .index t x i) (hx : coA x = some x') (hi : coA i = some i') (hu : uT P t = .string)
    {env : Env Ω} (h : sop env A (.ixc x' i') s k = some out) : PlainV P o s k out := by
  simp only [sop] at h
  split at h
  · rename_i kd j ei
    simp only [ixStr] at h
    split at h
    · rename_i str es
      rcases br_some h with ⟨hb, h⟩ | ⟨_, h⟩
      · obtain ⟨b0, b1, b2, b3⟩ := inB_spec hb
        refine ⟨_, h, fun cx w a hg ht => ⟨_, ?_, SRep.int⟩⟩
        have h3 := int_of (ei ▸ eval_coA hi ht)
        have h1 := str_of (es ▸ eval_coA hx ht)
        have hg : str[j.toNat]? = some (str.data.toList.getD j.toNat 0) := by
          have : j.toNat < str.data.size := b1
          rw [List.getD_eq_getElem?_getD]
          simp only [Array.getElem?_toList, Array.getElem?_eq_getElem this, Option.getD_some]
          rw [getElem?_pos str j.toNat b1]; rfl
        simp [execOp, ho, h1, h3, Instr.index, asIntOf, run_uT w (t := t) (by rw [hu]; simp), hu, b0, hg]
      · simp at h
    · simp at h
  · simp at h

theorem snd_ext {x : Operand} {x' : CA} {i : Nat} (ho : o.op = .extract x i) (hx : coA x = some x') {env : Env Ω} (h : sop env A (.ext i x') s k = some out) : PlainV P o s k out := by
  simp only [sop] at h
  split at h
  · rename_i c ec
    obtain ⟨hi, h⟩ := cond_some h
    have hi : i < c.length := Nat.le_of_ble_eq_true hi
    · refine ⟨_, h, fun cx w a hg ht => ?_⟩
      have h1 := eval_coA hx ht
      rw [ec] at h1
      simp only [SRep] at h1
      obtain ⟨c', e1, hr⟩ := h1
      obtain ⟨v, hv, hsv⟩ := hr.get (List.getElem?_eq_getElem hi)
      refine ⟨v, by simp [execOp, ho, e1, Instr.extract, hv], ?_⟩
      rw [List.getD_eq_getElem?_getD, List.getElem?_eq_getElem hi]; exact hsv
  · simp at h
end
end Go.Sx

/- Operations, sixth part: equality, lengths, min and max. -/
namespace Go.Sx

section
variable {P : Program} {A : Ann} {o : Oper} {s : SS} {Ω : Type} {k : SV → List Nat → SS → Option Ω} {out : Ω}

theorem eqS_top (e : EqT) (x : SV) : eqS e .top x = none := by cases e <;> simp [eqS]
theorem eqS_top' (e : EqT) (x : SV) : eqS e x .top = none := by
  cases e <;> cases x <;> simp [eqS]

theorem partS_some {e : EqT} {cx : Cx} {w : World} {c d : List SV} {c' : List Value} (hr : SRepL cx w c c') {ft : TypeId} {off : Nat} {r : Bool}
    (h : eqS e (partS (aggT P ft) (szT P ft) off c) (partS (aggT P ft) (szT P ft) off d) = some r ∨ eqS e (partS (aggT P ft) (szT P ft) off d) (partS (aggT P ft) (szT P ft) off c) = some r) : aggT P ft = false → off < c'.length := by
  intro ha
  rcases Nat.lt_or_ge off c'.length with hl | hl
  · exact hl
  · have hcl := hr.length
    have : c.getD off .top = .top := by rw [List.getD_eq_getElem?_getD, List.getElem?_eq_none (by omega)]; rfl
    simp only [partS, ha, cond_false, this] at h
    rw [eqS_top, eqS_top'] at h
    simp at h

theorem eqT_valid : ∀ {d : Nat} {t : TypeId} {e : EqT}, eqT P d t = some e → uT P t ≠ .invalid
  | 0, _, _, h => by simp [eqT] at h
  | d + 1, t, e, h => by intro e'; simp [eqT, e'] at h

theorem eqFs_shape {f : TypeId → Option EqT} : ∀ {fs : List Field} {e : EqT}, eqFs P f fs = some e → ∀ {x y : SV} {c : Bool}, eqS e x y = some c → ∃ xs ys, x = .agg xs ∧ y = .agg ys
  | [], e, h, x, y, c, h' => by
    simp only [eqFs, Option.some.injEq] at h; subst h
    cases x <;> cases y <;> simp [eqS] at h' <;> exact ⟨_, _, rfl, rfl⟩
  | q :: fs, e, h, x, y, c, h' => by
    simp only [eqFs] at h
    cases hn : (q.name == "_") with
    | true => simp only [hn, cond_true] at h; exact eqFs_shape h h'
    | false =>
      simp only [hn, cond_false] at h
      split at h
      · simp only [Option.some.injEq] at h; subst h
        cases x <;> cases y <;> simp [eqS] at h' <;> exact ⟨_, _, rfl, rfl⟩
      · simp at h

theorem eqFields_run {D d : Nat} (ih : ∀ (t : TypeId) (e : EqT) (x y : SV) (u v : Value) (c : Bool) (cx : Cx) (w : World), eqT P d t = some e → eqS e x y = some c → SRep cx w x u → SRep cx w y v → (Op.equalIn D t u v).run P w = .ok c w)
    {cx : Cx} {w : World} {xs ys : List SV} {us vs : List Value} (hx : SRepL cx w xs us) (hy : SRepL cx w ys vs) :
    ∀ (fs : List Field) (e : EqT) (c : Bool), eqFs P (eqT P d) fs = some e → eqS e (.agg xs) (.agg ys) = some c → (Op.eqFields D ⟨us⟩ ⟨vs⟩ fs).run P w = .ok c w
  | [], e, c, h, h' => by
    simp only [eqFs, Option.some.injEq] at h; subst h
    simp only [eqS, Option.some.injEq] at h'; subst h'
    simp [Op.eqFields]
  | f :: fs, e, c, h, h' => by
    simp only [eqFs] at h
    cases hn : (f.name == "_") with
    | true =>
      simp only [hn, cond_true] at h
      have : f.name = "_" := by simpa using hn
      simp only [Op.eqFields, this, ne_eq, not_true_eq_false, if_false]
      exact eqFields_run ih hx hy fs e c h h'
    | false =>
      simp only [hn, cond_false] at h
      have hne : f.name ≠ "_" := by simpa using hn
      split at h
      · rename_i e1 l1 he1 hl1
        simp only [Option.some.injEq] at h; subst h
        simp only [eqS] at h'
        split at h'
        · rename_i p q hp hq
          simp only [Option.some.injEq] at h'; subst h'
          obtain ⟨v1, hv1, hs1⟩ := partS_sound (P := P) hx (eqT_valid he1) (partS_some hx (.inl hp))
          obtain ⟨v2, hv2, hs2⟩ := partS_sound (P := P) hy (eqT_valid he1) (partS_some hy (.inr hp))
          have h3 := ih f.type e1 _ _ v1 v2 p cx w he1 hp hs1 hs2
          have h4 := eqFields_run ih hx hy fs l1 q hl1 hq
          simp only [Op.eqFields, hne, ne_eq, not_false_eq_true, if_true, Sem.run_bind, hv1, hv2, h3, Result.andThen_ok]
          cases p <;> simp [h4]
        · simp at h'
      · simp at h

theorem base_ptr {D : Nat} {t el : TypeId} {x y : SV} {u v : Value} {c : Bool} {cx : Cx} {w : World} (hu : (underlying t).run P w = .ok (.pointer el) w) (h : eqS .ptr x y = some c) (hx : SRep cx w x u) (hy : SRep cx w y v) :
    (Op.equalIn (D + 1) t u v).run P w = .ok c w := by
  unfold eqS at h
  split at h <;> (try contradiction)
  all_goals (simp only [Option.some.injEq] at h; subst h; simp only [SRep, DRep] at hx hy)
  · simp [Op.equalIn, hu, hx.1, hy.1]
  · simp [Op.equalIn, hu, hx.2, hy.1]
  · simp [Op.equalIn, hu, hx.1, hy.2]
  · simp [Op.equalIn, hu, hx.2.1, hy.1]
  · simp [Op.equalIn, hu, hx.1, hy.2.1]
  · obtain ⟨b, o', hx, _⟩ := hx; simp [Op.equalIn, hu, hx, hy.1]
  · obtain ⟨b, o', hy, _⟩ := hy; simp [Op.equalIn, hu, hx.1, hy]

theorem base_slc {D : Nat} {t el : TypeId} {x y : SV} {u v : Value} {c : Bool} {cx : Cx} {w : World} (hu : (underlying t).run P w = .ok (.slice el) w) (h : eqS .slc x y = some c) (hx : SRep cx w x u) (hy : SRep cx w y v) :
    (Op.equalIn (D + 1) t u v).run P w = .ok c w := by
  unfold eqS at h
  split at h <;> (try contradiction)
  all_goals (simp only [Option.some.injEq] at h; subst h; simp only [SRep, DRep] at hx hy)
  · simp [Op.equalIn, hu, hx.1, hy.1]
  · simp [Op.equalIn, hu, hx.1, hy.1]
  · obtain ⟨a, c', e, _, h⟩ := hx
    obtain ⟨b, o, e1, _⟩ := h (by simp)
    simp [Op.equalIn, hu, e, e1, hy.1]
  · obtain ⟨a, c', e, _, h⟩ := hx
    obtain ⟨b, o, e1, _⟩ := h (by simp)
    simp [Op.equalIn, hu, e, e1, hy.1]

theorem base_fnc {D : Nat} {t : TypeId} {a b : Array TypeId} {va : Bool} {x y : SV} {u v : Value} {c : Bool} {cx : Cx} {w : World} (hu : (underlying t).run P w = .ok (.func a b va) w) (h : eqS .fnc x y = some c) (hx : SRep cx w x u) (hy : SRep cx w y v) :
    (Op.equalIn (D + 1) t u v).run P w = .ok c w := by
  unfold eqS at h
  split at h <;> (try contradiction)
  all_goals (simp only [Option.some.injEq] at h; subst h; simp only [SRep, DRep] at hx hy)
  simp [Op.equalIn, hu, hx.1, hy.1]

theorem base_mp {D : Nat} {t a b : TypeId} {x y : SV} {u v : Value} {c : Bool} {cx : Cx} {w : World} (hu : (underlying t).run P w = .ok (.map a b) w) (h : eqS .mp x y = some c) (hx : SRep cx w x u) (hy : SRep cx w y v) :
    (Op.equalIn (D + 1) t u v).run P w = .ok c w := by
  unfold eqS at h
  split at h <;> (try contradiction)
  all_goals (simp only [Option.some.injEq] at h; subst h; simp only [SRep, DRep] at hx hy)
  · simp [Op.equalIn, hu, hx.1, hy.1]
  · simp [Op.equalIn, hu, hx.2, hy.1]

theorem base_bool {D : Nat} {t : TypeId} {x y : SV} {u v : Value} {c : Bool} {cx : Cx} {w : World} (hu : (underlying t).run P w = .ok .bool w) (h : eqS .bool x y = some c) (hx : SRep cx w x u) (hy : SRep cx w y v) :
    (Op.equalIn (D + 1) t u v).run P w = .ok c w := by
  unfold eqS at h
  split at h <;> (try contradiction)
  all_goals (simp only [Option.some.injEq] at h; subst h; simp only [SRep, DRep] at hx hy)
  simp [Op.equalIn, hu, hx.1, hy.1]

theorem base_str {D : Nat} {t : TypeId} {x y : SV} {u v : Value} {c : Bool} {cx : Cx} {w : World} (hu : (underlying t).run P w = .ok .string w) (h : eqS .str x y = some c) (hx : SRep cx w x u) (hy : SRep cx w y v) :
    (Op.equalIn (D + 1) t u v).run P w = .ok c w := by
  unfold eqS at h
  split at h <;> (try contradiction)
  all_goals (simp only [Option.some.injEq] at h; subst h; simp only [SRep, DRep] at hx hy)
  simp [Op.equalIn, hu, hx.1, hy.1]

theorem base_int {D : Nat} {t : TypeId} {kt : IntKind} {x y : SV} {u v : Value} {c : Bool} {cx : Cx} {w : World} (hu : (underlying t).run P w = .ok (.int kt) w) (h : eqS .int x y = some c) (hx : SRep cx w x u) (hy : SRep cx w y v) :
    (Op.equalIn (D + 1) t u v).run P w = .ok c w := by
  unfold eqS at h
  split at h <;> (try contradiction)
  have hk := cond_some h
  have := kEq_eq hk.1
  have hk := hk.2
  simp only [Option.some.injEq] at hk
  have h1 := int_of hx; have h2 := int_of hy
  subst h1; subst h2; subst hk; subst this
  simp [Op.equalIn, hu]

theorem eqS_run : ∀ (d D : Nat), d ≤ D → ∀ (t : TypeId) (e : EqT) (x y : SV) (u v : Value) (c : Bool) (cx : Cx) (w : World), eqT P d t = some e → eqS e x y = some c → SRep cx w x u → SRep cx w y v → (Op.equalIn D t u v).run P w = .ok c w
  | 0, _, _, t, e, x, y, u, v, c, cx, w, h, _, _, _ => by simp [eqT] at h
  | d + 1, 0, hD, _, _, _, _, _, _, _, _, _, _, _, _, _ => by omega
  | d + 1, D + 1, hD, t, e, x, y, u, v, c, cx, w, h, h', hx, hy => by
    have hv := eqT_valid h
    have hu := run_uT w hv
    simp only [eqT] at h
    split at h <;> (try (simp at h; done))
    case h_8 fs he =>
      obtain ⟨hs, hfs⟩ : P.stoodInHeld t = false ∧ eqFs P (eqT P d) fs.toList = some e := by
        cases hq : P.stoodInHeld t with
        | true => simp [hq] at h
        | false => simp only [hq, cond_false] at h; exact ⟨rfl, h⟩
      obtain ⟨xs, ys, rfl, rfl⟩ := eqFs_shape hfs h'
      simp only [SRep] at hx hy
      obtain ⟨us, rfl, hx⟩ := hx
      obtain ⟨vs, rfl, hy⟩ := hy
      have hund : P.underlying t = some (.struct fs) := by rw [← he]; exact (info_of_uT hv).1
      have hfo : P.fieldsOf t = fs := by simp [Program.fieldsOf, hund]
      rw [run_equalIn_struct w D t ⟨us⟩ ⟨vs⟩ (by rw [hfo]; exact hund) hs, hfo]
      exact eqFields_run (fun t e x y u v c cx w => eqS_run d D (by omega) t e x y u v c cx w) hx hy _ e c hfs h'
    all_goals
      rename_i he
      simp only [Option.some.injEq] at h; subst h
      rw [he] at hu
    · exact base_bool hu h' hx hy
    · exact base_int hu h' hx hy
    · exact base_str hu h' hx hy
    · exact base_ptr hu h' hx hy
    · exact base_slc hu h' hx hy
    · exact base_fnc hu h' hx hy
    · exact base_mp hu h' hx hy

/-- binOp at '==' and '!=' over what eqS compares. -/
theorem binOp_eq {t : TypeId} {e : EqT} {x y : SV} {u v : Value} {c : Bool} {cx : Cx} {w : World} (ht : eqT P 20 t = some e) (h : eqS e x y = some c) (hx : SRep cx w x u) (hy : SRep cx w y v) :
    (binOp .eql t u v).run P w = .ok (.bool c) w ∧ (binOp .neq t u v).run P w = .ok (.bool (!c)) w := by
  have hr := eqS_run 20 10000 (by omega) t e x y u v c cx w ht h hx hy
  have key : (Op.equal t u v).run P w = .ok c w := hr
  unfold eqS at h
  split at h <;> (try (simp at h; done))
  case h_2 =>
    have h1 := int_of hx; have h2 := int_of hy
    have hk := cond_some h
    have := kEq_eq hk.1
    have hk := hk.2
    simp only [Option.some.injEq] at hk
    subst h1; subst h2; subst this; subst c
    constructor
    · simp [binOp, Op.intCmp]
    · simp [binOp, Op.intCmp, bne]
  case h_3 =>
    have h1 := str_of hx; have h2 := str_of hy
    simp only [Option.some.injEq] at h
    subst h1; subst h2; subst h
    constructor
    · simp [binOp, Op.stringOp, beq_toListBytes]
    · simp [binOp, Op.stringOp, beq_toListBytes]
  all_goals (simp only [SRep, DRep] at hx hy)
  all_goals first
    | (obtain ⟨a, c', hx, _, h9⟩ := hx; obtain ⟨b9, o9, h10, _⟩ := h9 (by simp); rw [hx, h10, hy.1] at key ⊢; (try generalize List.length _ = mm at key ⊢); constructor <;> (simp only [binOp]; simp [key]); done)
    | (rw [hx.1, hy.1] at key ⊢; constructor <;> (simp only [binOp]; simp [key]); done)
    | (rw [hx.2, hy.1] at key ⊢; constructor <;> (simp only [binOp]; simp [key]); done)
    | (rw [hx.1, hy.2] at key ⊢; constructor <;> (simp only [binOp]; simp [key]); done)
    | (rw [hx.2.1, hy.1] at key ⊢; constructor <;> (simp only [binOp]; simp [key]); done)
    | (rw [hx.1, hy.2.1] at key ⊢; constructor <;> (simp only [binOp]; simp [key]); done)
    | (obtain ⟨b, o', hx, _⟩ := hx; rw [hx, hy.1] at key ⊢; constructor <;> (simp only [binOp]; simp [key]); done)
    | (obtain ⟨b, o', hy, _⟩ := hy; rw [hx.1, hy] at key ⊢; constructor <;> (simp only [binOp]; simp [key]); done)
    | (obtain ⟨b, hx, _⟩ := hx; obtain ⟨d, hy, _⟩ := hy; rw [hx, hy] at key ⊢; constructor <;> (simp only [binOp]; simp [key]); done)

theorem run_guard {op : BinOp} {t : TypeId} {x y : Operand} {p q : Value} {w : World} (hg : P.eqGuardType P.depth t = false) (hne : ¬ p = .nilIface) : (eqGuard op t x y p q).run P w = .ok () w := by
  by_cases ha : ∃ c, p = .agg c
  · obtain ⟨c, rfl⟩ := ha
    by_cases hb : ∃ d, q = .agg d
    · obtain ⟨d, rfl⟩ := hb; exact run_eqGuard_agg w op t x y c d hg
    · cases q <;> first | exact absurd ⟨_, rfl⟩ hb | (simp only [eqGuard]; split <;> rfl)
  · cases p <;> first | exact absurd rfl hne | exact absurd ⟨_, rfl⟩ ha | (simp only [eqGuard]; split <;> rfl)

theorem snd_eq {t u : TypeId} {neg : Bool} {x y : Operand} {x' y' : CA} {e : EqT} (ho : o.op = .binOp (bif neg then .neq else .eql) t x y u) (hx : coA x = some x') (hy : coA y = some y')
    (he : eqT P 20 t = some e) (hg : P.eqGuardType P.depth t = false) {env : Env Ω} (h : sop env A (.eq e neg x' y') s k = some out) : PlainV P o s k out := by
  simp only [sop] at h
  split at h
  · rename_i c hc
    refine ⟨_, h, fun cx w a hG ht => ⟨_, ?_, SRep.bool⟩⟩
    obtain ⟨h1, h2⟩ := binOp_eq (P := P) he hc (eval_coA hx ht) (eval_coA hy ht)
    have hne : ¬ (a.eval x = .nilIface) := by
      intro e'
      have hv := eval_coA hx ht
      rw [e'] at hv
      generalize ev s.t x' = q at hv hc
      cases q with
      | d q =>
        cases q <;> simp only [SRep, DRep] at hv
        · obtain ⟨rfl, _⟩ := hv
          cases e <;> simp [eqS] at hc
        · obtain ⟨_, _, hv, _⟩ := hv; simp at hv
        · obtain ⟨_, _, hv, _⟩ := hv; simp at hv
      | rp sz f o => simp only [SRep] at hv; obtain ⟨_, _, hv, _⟩ := hv; simp at hv
      | top => rw [eqS_top] at hc; simp at hc
      | fn g a b => simp only [SRep] at hv; obtain ⟨_, _, hv, _⟩ := hv; simp at hv
      | agg c => simp only [SRep] at hv; obtain ⟨_, hv, _⟩ := hv; simp at hv
      | tup c => simp only [SRep] at hv; obtain ⟨_, hv, _⟩ := hv; simp at hv
      | _ => simp [SRep] at hv
    have hgu : ∀ op, (eqGuard op t x y (a.eval x) (a.eval y)).run P w = .ok () w := fun op => run_guard hg hne
    cases neg with
    | true => simp [execOp, ho, hgu, h2]
    | false => simp [execOp, ho, hgu, h1]
  · simp at h
end
end Go.Sx

/- Operations, seventh part: lengths, min and max, structs, slicing, making and appending. -/
namespace Go.Sx

section
variable {P : Program} {A : Ann} {o : Oper} {s : SS} {Ω : Type} {k : SV → List Nat → SS → Option Ω} {out : Ω}

theorem lenS_sound {cx : Cx} {h : SH} {w : World} (g : Seen cx h w) {x : SV} {u : Value} (hx : SRep cx w x u) {n : Nat} (hl : lenS h x = some n) : ∃ a c, u = .slice a n c := by
  unfold lenS at hl
  split at hl
  · simp only [Option.some.injEq] at hl; subst hl
    simp only [SRep, DRep] at hx; obtain ⟨a, c, e, _⟩ := hx; exact ⟨a, c, e⟩
  · simp only [Option.some.injEq] at hl; subst hl
    simp only [SRep, DRep] at hx; obtain ⟨a, c, e, _⟩ := hx; exact ⟨a, c, e⟩
  · simp only [Option.some.injEq] at hl; subst hl
    simp only [SRep, DRep] at hx; exact ⟨_, _, hx.1⟩
  · rename_i l
    have ho := g.obj l
    simp only [SRep] at hx
    split at hl
    · rename_i hg
      rw [hg] at ho
      simp only [Option.some.injEq] at hl; subst hl
      exact ⟨_, _, by rw [← ho.1]; exact hx.2⟩
    · rename_i hg
      rw [hg] at ho
      simp only [Option.some.injEq] at hl; subst hl
      exact ⟨_, _, by rw [← ho.1]; exact hx.2⟩
    · simp at hl
  · simp only [Option.some.injEq] at hl; subst hl
    simp only [SRep] at hx; exact ⟨_, _, hx.2⟩
  · simp at hl

theorem run_b1 {b : Builtin} {x : Operand} {t : TypeId} (ho : o.op = .call { callee := .builtin b, args := #[x], argTypes := #[t] }) (a : Act) (w : World) :
    (execOp a.eval o).run P w = (builtin b #[t] o.type (#[x].map fun | .const _ => true | _ => false) #[a.eval x]).run P w := by
  simp [execOp, ho, resolve, invoke]
  rfl

theorem snd_len {x : Operand} {x' : CA} {t e : TypeId} (ho : o.op = .call { callee := .builtin .len, args := #[x], argTypes := #[t] }) (hx : coA x = some x') (hu : uT P t = .slice e)
    {env : Env Ω} (h : sop env A (.len x') s k = some out) : PlainV P o s k out := by
  simp only [sop] at h
  split at h
  · rename_i n hn
    refine ⟨_, h, fun cx w a hg ht => ⟨_, ?_, SRep.int⟩⟩
    obtain ⟨p, c, e1⟩ := lenS_sound hg (eval_coA hx ht) hn
    rw [run_b1 ho]
    simp [builtin, Builtin.len_, e1, run_uT w (t := t) (by rw [hu]; simp), hu, goInt]
  · simp at h

theorem snd_lens {x : Operand} {x' : CA} {t : TypeId} (ho : o.op = .call { callee := .builtin .len, args := #[x], argTypes := #[t] }) (hx : coA x = some x') (hu : uT P t = .string)
    {env : Env Ω} (h : sop env A (.lens x') s k = some out) : PlainV P o s k out := by
  simp only [sop] at h
  split at h
  · rename_i y hy
    refine ⟨_, h, fun cx w a hg ht => ⟨_, ?_, SRep.int⟩⟩
    have h1 := str_of (hy ▸ eval_coA hx ht)
    rw [run_b1 ho]
    simp [builtin, Builtin.len_, h1, run_uT w (t := t) (by rw [hu]; simp), hu, goInt]
  · simp at h

theorem ents_length (e : Array MapEntry) : (ents e).length = e.size := by simp [ents]

theorem SRepE.length {cx : Cx} {w : World} : ∀ {c : List (Value × SV)} {c' : List (Value × Value)}, SRepE cx w c c' → c.length = c'.length
  | [], [], _ => rfl
  | _ :: _, _ :: _, h => by simp only [SRepE] at h; simp [SRepE.length h.2.2]
  | [], _ :: _, h => by simp [SRepE] at h
  | _ :: _, [], h => by simp [SRepE] at h

theorem snd_lenm {x : Operand} {x' : CA} {t q e : TypeId} (ho : o.op = .call { callee := .builtin .len, args := #[x], argTypes := #[t] }) (hx : coA x = some x') (hu : uT P t = .map q e)
    {env : Env Ω} (h : sop env A (.lenm x') s k = some out) : PlainV P o s k out := by
  simp only [sop] at h
  have key : ∀ n : Nat, k (vInt n) [] s = some out → (∀ (cx : Cx) (w : World) (a : Act), Seen cx s.h w → TRep cx w s.t a.tmps → ∃ r es c, a.eval x = .map (some r) ∧ w.heap[r]? = some (.map es c) ∧ es.size = n) → PlainV P o s k out := by
    intro n h hm
    refine ⟨_, h, fun cx w a hg ht => ⟨_, ?_, SRep.int⟩⟩
    obtain ⟨r, es, c, h1, h2, h3⟩ := hm cx w a hg ht
    rw [run_b1 ho]
    simp [builtin, Builtin.len_, h1, run_uT w (t := t) (by rw [hu]; simp), hu, getObj, Sem.run, h2, goInt, h3]
  split at h
  · rename_i hy
    refine ⟨_, h, fun cx w a hg ht => ⟨_, ?_, SRep.int⟩⟩
    have h1 := eval_coA hx ht
    rw [hy] at h1
    simp only [SRep, DRep] at h1
    rw [run_b1 ho]
    simp [builtin, Builtin.len_, h1.1, run_uT w (t := t) (by rw [hu]; simp), hu, goInt]
  · rename_i l hy
    have hv : ∀ (cx : Cx) (w : World) (a : Act), Seen cx s.h w → TRep cx w s.t a.tmps → a.eval x = .map (some (cx.th l)) := by
      intro cx w a hg ht
      have h1 := eval_coA hx ht
      rw [hy] at h1
      simp only [SRep] at h1
      exact h1.2
    split at h
    · rename_i hg
      refine key _ h fun cx w a hG ht => ?_
      have hO := hG.obj l
      rw [hg] at hO
      obtain ⟨e, c, h1, h2⟩ := hO
      exact ⟨_, e, c, hv cx w a hG ht, h1, by rw [← ents_length, h2]; simp⟩
    · rename_i hg
      refine key _ h fun cx w a hG ht => ?_
      have hO := hG.obj l
      rw [hg] at hO
      obtain ⟨e, c, h1, h2⟩ := hO
      exact ⟨_, e, c, hv cx w a hG ht, h1, by rw [← ents_length, h2]; simp⟩
    · rename_i hg
      refine key _ h fun cx w a hG ht => ?_
      have hO := hG.obj l
      rw [hg] at hO
      obtain ⟨e, c, h1, h2⟩ := hO
      exact ⟨_, e, c, hv cx w a hG ht, h1, by rw [← ents_length, ← h2.length]⟩
    · simp at h
  · simp at h

theorem snd_lenc {x : Operand} {t e : TypeId} {n : Nat} (ho : o.op = .call { callee := .builtin .len, args := #[x], argTypes := #[t] }) (hu : uT P t = .array n e)
    {env : Env Ω} (h : sop env A (.lenc n) s k = some out) : PlainV P o s k out := by
  simp only [sop] at h
  refine ⟨_, h, fun cx w a hg ht => ⟨_, ?_, SRep.int⟩⟩
  rw [run_b1 ho]
  simp [builtin, Builtin.len_, run_uT w (t := t) (by rw [hu]; simp), hu, goInt]

theorem run_b2 {b : Builtin} {x y : Operand} {ts : Array TypeId} (ho : o.op = .call { callee := .builtin b, args := #[x, y], argTypes := ts }) (a : Act) (w : World) :
    (execOp a.eval o).run P w = (builtin b ts o.type (#[x, y].map fun | .const _ => true | _ => false) #[a.eval x, a.eval y]).run P w := by
  simp [execOp, ho, resolve, invoke]
  rfl

theorem snd_mn {x y : Operand} {x' y' : CA} {ts : Array TypeId} (ho : o.op = .call { callee := .builtin .min, args := #[x, y], argTypes := ts }) (hx : coA x = some x') (hy : coA y = some y')
    {env : Env Ω} (h : sop env A (.mn x' y') s k = some out) : PlainV P o s k out := by
  simp only [sop] at h
  split at h
  · rename_i i a1 j b1 e1 e2
    have hk := kEq_eq (cond_some h).1
    replace h := (cond_some h).2
    subst hk
    refine ⟨_, h, fun cx w a hg ht => ⟨_, ?_, SRep.int⟩⟩
    rw [run_b2 ho]
    simp [builtin, Builtin.min_, Builtin.min2, int_of (e1 ▸ eval_coA hx ht), int_of (e2 ▸ eval_coA hy ht)]
  · simp at h

theorem snd_mx {x y : Operand} {x' y' : CA} {ts : Array TypeId} (ho : o.op = .call { callee := .builtin .max, args := #[x, y], argTypes := ts }) (hx : coA x = some x') (hy : coA y = some y')
    {env : Env Ω} (h : sop env A (.mx x' y') s k = some out) : PlainV P o s k out := by
  simp only [sop] at h
  split at h
  · rename_i i a1 j b1 e1 e2
    have hk := kEq_eq (cond_some h).1
    replace h := (cond_some h).2
    subst hk
    refine ⟨_, h, fun cx w a hg ht => ⟨_, ?_, SRep.int⟩⟩
    rw [run_b2 ho]
    simp [builtin, Builtin.max_, Builtin.max2, int_of (e1 ▸ eval_coA hx ht), int_of (e2 ▸ eval_coA hy ht)]
  · simp at h

/-! ### literals -/
theorem foldl_set : ∀ (xs : List Value) (c' : List Value) (o i : Nat), o + i + xs.length ≤ c'.length →
    ((xs.zipIdx i).foldl (fun (cs : Array Value) p => cs.setIfInBounds (o + p.2) p.1) ⟨c'⟩) = ⟨c'.take (o + i) ++ (xs ++ c'.drop (o + i + xs.length))⟩
  | [], c', o, i, _ => by simp
  | x :: xs, c', o, i, h => by
    simp only [List.length_cons] at h
    simp only [List.zipIdx_cons, List.foldl_cons, List.setIfInBounds_toArray]
    rw [foldl_set xs (c'.set (o + i) x) o (i + 1) (by simp; omega)]
    congr 1
    have e1 : (c'.set (o + i) x).take (o + (i + 1)) = c'.take (o + i) ++ [x] := by
      rw [show o + (i + 1) = (o + i) + 1 by omega, List.take_succ_eq_append_getElem (by simp; omega)]
      simp [List.take_set_of_le]
    have e2 : (c'.set (o + i) x).drop (o + (i + 1) + xs.length) = c'.drop (o + i + (xs.length + 1)) := by
      rw [List.drop_set_of_lt (by omega)]
      congr 1; omega
    rw [e1, e2]; simp

theorem fill_sound {cx : Cx} {w : World} {t : List (Nat × SV)} {a : Act} (ht : TRep cx w t a.tmps) {pl pl' : Nat → Option (Nat × Nat)} (hpl : ∀ i r, pl i = some r → pl' i = some r) :
    ∀ {ps : List (Nat × Operand)} {qs : List (Nat × Nat × CA)} {z : List SV} {c : List SV} {z' : List Value}, coP pl ps = some qs → SRepL cx w z z' → fillS z (evP t qs) = some c →
      ∃ c', Instr.fill pl' ⟨z'⟩ (ps.map fun p => (p.1, a.eval p.2)) = some ⟨c'⟩ ∧ SRepL cx w c c'
  | [], qs, z, c, z', h, hz, hf => by
    simp only [coP, Option.some.injEq] at h; subst h
    simp only [evP, fillS, Option.some.injEq] at hf; subst hf
    exact ⟨z', by simp [Instr.fill], hz⟩
  | (i, x) :: r, qs, z, c, z', h, hz, hf => by
    simp only [coP] at h
    split at h
    · rename_i off n y l h1 h2 h3
      simp only [Option.some.injEq] at h; subst h
      simp only [evP, fillS] at hf
      split at hf
      · rename_i cs hcs
        obtain ⟨hb, hf⟩ := cond_some hf
        simp only [Bool.and_eq_true] at hb
        have hlen := Nat.eq_of_beq_eq_true hb.1
        have hle := Nat.le_of_ble_eq_true hb.2
        obtain ⟨vs, e1, hv, _⟩ := cellsOf_sound hcs (eval_coA h2 ht)
        have hvl := hv.length
        have hzl := hz.length
        obtain ⟨c', hc1, hc2⟩ := fill_sound ht hpl h3 ((hz.take off).append (hv.append (hz.drop (off + n)))) hf
        refine ⟨c', ?_, hc2⟩
        simp only [List.map_cons, Instr.fill, hpl i _ h1, e1]
        have hz1 : vs.length = n := by omega
        have : ¬ ((Array.mk vs).size ≠ n ∨ off + (Array.mk vs).size > (Array.mk z').size) := by simp; omega
        simp only [List.size_toArray, hz1, ne_eq, not_true_eq_false, decide_false, Bool.false_or, decide_eq_true_eq]
        rw [if_neg (by omega)]
        have hf2 := foldl_set vs z' off 0 (by omega)
        simp only [Nat.add_zero, hz1] at hf2
        rw [← hc1]
        congr 1
        rw [← hf2]
        simp []
      · simp at hf
    · simp at h
end
end Go.Sx

/- Operations, eighth part: structs, literal slices, slicing, make. -/
namespace Go.Sx

section
variable {P : Program} {A : Ann} {o : Oper} {s : SS} {Ω : Type} {k : SV → List Nat → SS → Option Ω} {out : Ω}

theorem run_zc {t : TypeId} {i : TypeInfo} {zv : Value} (hi : P.info? t = some i) (hz : i.zero = some zv) (w : World) : (zeroValue t).run P w = .ok zv w := by
  simp [zeroValue, typeInfo, hi, hz]

theorem mapM_fields (w : World) : ∀ (fs : List Field), (∀ f ∈ fs, ∃ i, P.info? f.type = some i) →
    (fs.mapM fun f => (do pure (f.offset, ← sizeOf f.type) : Sem (Nat × Nat))).run P w = .ok (fs.map fun f => (f.offset, szT P f.type)) w
  | [], _ => by simp
  | f :: fs, h => by
    simp only [List.mapM_cons, Sem.run_bind, run_szT w (h f (by simp)), Result.andThen_ok, Sem.run_pure, mapM_fields w fs fun g hg => h g (by simp [hg])]
    simp

theorem snd_bld_struct {t : TypeId} {ps : Array (Nat × Operand)} {fs : Array Field} {z : List SV} {qs : List (Nat × Nat × CA)} (ho : o.op = .build t ps) (hu : uT P t = .struct fs)
    (hz : zcT P t = some z) (hq : coP (fun i => (fs.toList[i]?).map fun f => (f.offset, szT P f.type)) ps.toList = some qs) (hfs : ∀ f ∈ fs.toList, ∃ i, P.info? f.type = some i)
    {env : Env Ω} (h : sop env A (.bld z qs) s k = some out) : PlainV P o s k out := by
  simp only [sop] at h
  split at h
  · rename_i c hc
    refine ⟨_, h, fun cx w a hg ht => ?_⟩
    obtain ⟨i, zv, c', hi, hzv, hcc, _, _, hr⟩ := zcT_sound hz
    obtain ⟨cs, h1, h2⟩ := fill_sound ht (pl' := fun i => (fs.toList.map fun f => (f.offset, szT P f.type))[i]?) (by
      intro i r hr; simpa using hr) hq (hr cx w).1 hc
    refine ⟨.agg ⟨cs⟩, ?_, by simp only [SRep]; exact ⟨cs, rfl, h2⟩⟩
    have hm : (fs.mapM fun f => (do pure (f.offset, ← sizeOf f.type) : Sem (Nat × Nat))).run P w = .ok (fs.toList.map fun f => (f.offset, szT P f.type)).toArray w := by
      rw [← Array.toArray_toList (xs := fs), List.mapM_toArray, Sem.run_map, mapM_fields w fs.toList hfs]; simp
    simp only [execOp, ho, Instr.build, Sem.run_bind, run_zc hi hzv, Result.andThen_ok, run_uT w (t := t) (by rw [hu]; simp), hu, hm, hcc]
    have e : (Array.map (fun x => (x.1, a.eval x.2)) ps).toList = ps.toList.map fun p => (p.1, a.eval p.2) := by simp
    simp only [List.getElem?_toArray, e, h1]
    simp
  · simp at h

theorem snd_bld_array {t e : TypeId} {n : Nat} {ps : Array (Nat × Operand)} {z : List SV} {qs : List (Nat × Nat × CA)} (ho : o.op = .build t ps) (hu : uT P t = .array n e)
    (hz : zcT P t = some z) (hq : coP (fun i => some (i * szT P e, szT P e)) ps.toList = some qs) (he : ∃ i, P.info? e = some i)
    {env : Env Ω} (h : sop env A (.bld z qs) s k = some out) : PlainV P o s k out := by
  simp only [sop] at h
  split at h
  · rename_i c hc
    refine ⟨_, h, fun cx w a hg ht => ?_⟩
    obtain ⟨i, zv, c', hi, hzv, hcc, _, _, hr⟩ := zcT_sound hz
    obtain ⟨cs, h1, h2⟩ := fill_sound ht (pl' := fun i => some (i * szT P e, szT P e)) (fun i r hr => hr) hq (hr cx w).1 hc
    refine ⟨.agg ⟨cs⟩, ?_, by simp only [SRep]; exact ⟨cs, rfl, h2⟩⟩
    have e' : (Array.map (fun x => (x.1, a.eval x.2)) ps).toList = ps.toList.map fun p => (p.1, a.eval p.2) := by simp
    simp [execOp, ho, Instr.build, run_zc hi hzv, run_uT w (t := t) (by rw [hu]; simp), hu, run_szT w he, hcc, h1]
  · simp at h

theorem rep_sound {cx : Cx} {w : World} {z : List SV} {z' : List Value} (hr : SRepL cx w z z') : ∀ n, SRepL cx w (rep z n) ((List.replicate n z').flatten)
  | 0 => by simp [rep, SRepL]
  | n + 1 => by simp only [rep, List.replicate_succ, List.flatten_cons]; exact hr.append (rep_sound hr n)

theorem made_eq (z' : List Value) (hz : z' ≠ []) (n : Nat) : ((Array.range (n * z'.length)).map fun i => (Array.mk z')[i % (Array.mk z').size]!) = ⟨(List.replicate n z').flatten⟩ := by
  apply Array.ext'
  simp only [Array.toList_map, Array.toList_range]
  induction n with
  | zero => simp
  | succ n ih =>
    rw [List.replicate_succ', List.flatten_append, Nat.add_mul, Nat.one_mul, List.range_add, List.map_append, ih]
    congr 1
    simp only [List.map_map, List.flatten_cons, List.flatten_nil, List.append_nil, List.size_toArray]
    apply List.ext_getElem
    · simp
    · intro i h1 h2
      simp only [List.length_map, List.length_range] at h1
      simp [Nat.mod_eq_of_lt h1, h1]

theorem snd_bsl {t e : TypeId} {n : Nat} {ps : Array (Nat × Operand)} {z : List SV} {qs : List (Nat × Nat × CA)} (ho : o.op = .buildSlice t n ps) (hu : uT P t = .slice e)
    (hz : zcT P e = some z) (hq : coP (fun i => some (i * szT P e, szT P e)) ps.toList = some qs) (hn : n * szT P e ≤ 65536) (hs0 : szT P e ≠ 0)
    {env : Env Ω} (h : sop env A (.bsl e (szT P e) n z qs) s k = some out) : PlainE P o s k out := by
  simp only [sop] at h
  split at h
  · rename_i c hc
    refine ⟨_, _, _, h, OpOK0.new fun cx w a hg ht => ?_, .new _ _⟩
    obtain ⟨i, zv, c', hi, hzv, hcc, hzl, hsz, hr⟩ := zcT_sound hz
    have hcl := (hr cx w).1.length
    obtain ⟨cs, h1, h2⟩ := fill_sound ht (pl' := fun i => some (i * szT P e, szT P e)) (fun i r hr => hr) hq (rep_sound (hr cx w).1 n) hc
    have hne : c' ≠ [] := by intro e0; apply hs0; rw [← hzl, hcl, e0]; rfl
    have hmade : ((Array.range (n * szT P e)).map fun i => zv.cells[i % zv.cells.size]!) = ⟨(List.replicate n c').flatten⟩ := by
      have := made_eq c' hne n
      rw [← hcl, hzl] at this
      rw [hcc]; exact this
    have e' : (Array.map (fun x => (x.1, a.eval x.2)) ps).toList = ps.toList.map fun p => (p.1, a.eval p.2) := by simp
    refine ⟨.slice (some (ad w.heap.size 0)) n n, w, .cells ⟨cs⟩ e, 0, 0, false, 0, ⟨rfl, rfl, rfl, _, _, rfl⟩, ?_, fun cx' w' e1 e2 gr => ?_⟩
    · have h24 : ¬ (n * szT P e > 2 ^ 24) := by omega
      by_cases h0 : n = 0
      · subst h0
        simp only [Nat.zero_mul, List.replicate_zero, List.flatten_nil] at h1 hmade
        simp [execOp, ho, Instr.buildSlice, run_uT w (t := t) (by rw [hu]; simp), hu, run_szT w ⟨i, hi⟩, newRow, ad]
        rw [show (Array.map (fun _ => (default : Value)) (Array.range 0)) = ⟨[]⟩ by simp, h1]
        simp
      · have hns : ¬ (n = 0 ∨ szT P e = 0) := by omega
        simp [execOp, ho, Instr.buildSlice, run_uT w (t := t) (by rw [hu]; simp), hu, run_szT w ⟨i, hi⟩, newRow, ad, run_zc hi hzv]
        rw [if_neg (by omega)]
        simp [hmade, h1]
        intro h9
        exact absurd (Nat.mul_eq_zero.1 h9) hns
    · refine ⟨⟨e, cs, by subst e1; subst e2; simp [Cx.ext], h2.grow gr⟩, ?_⟩
      subst e1; subst e2
      simp only [SRep, Cx.ext, hg.n]; simp [← hg.n]
  · simp at h
end
end Go.Sx
