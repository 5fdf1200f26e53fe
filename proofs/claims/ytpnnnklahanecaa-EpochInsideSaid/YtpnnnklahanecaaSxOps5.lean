/- Operations, fifth part: fields, indexes, lengths, comparisons. -/
import Derived.Test.YtpnnnklahanecaaSxOps4
namespace Go.Sx

section
variable {P : Program} {A : Ann} {o : Oper} {s : SS} {Ω : Type} {k : SV → List Nat → SS → Option Ω} {out : Ω}

theorem okT_ne {t : TypeId} (h : okT P t = true) : uT P t ≠ .invalid := by
  intro e; simp [okT, e] at h

theorem snd_fld {t : TypeId} {x : Operand} {x' : CA} {f : Nat} {fd : Field} (ho : o.op = .field t x f) (hx : coA x = some x') (hf : fldT P t f = some fd) (hk : okT P fd.type = true)
    {env : Env Ω} (h : sop env A (.fld fd.offset (szT P fd.type) (aggT P fd.type) x') s k = some out) : PlainV P o s k out := by
  simp only [sop] at h
  split at h
  · rename_i c e
    obtain ⟨hl, h⟩ := cond_some h
    refine ⟨_, h, fun cx w a hg ht => ?_⟩
    have h1 := eval_coA hx ht
    rw [e] at h1
    simp only [SRep] at h1
    obtain ⟨c', e1, hr⟩ := h1
    have hcl := hr.length
    obtain ⟨v, hv, hsv⟩ := partS_sound (P := P) hr (ft := fd.type) (off := fd.offset) (okT_ne hk) (fun ha => by
      rw [ha, Bool.false_or] at hl; have := Nat.le_of_ble_eq_true hl; omega)
    refine ⟨v, ?_, hsv⟩
    unfold fldT at hf
    split at hf
    · rename_i fs hu
      have : fs[f]? = some fd := by simpa using hf
      simp [execOp, ho, e1, Instr.field, run_uT w (t := t) (by rw [hu]; simp), hu, this, asAgg, hv]
    · simp at hf
  · simp at h

theorem caseIx_some {i : Int} {f : Nat → Option Ω} : ∀ {n j : Nat}, caseIx i f n j = some out → ∃ m, j ≤ m ∧ m < j + n ∧ i = (m : Int) ∧ f m = some out
  | 0, j, h => by simp [caseIx] at h
  | n + 1, j, h => by
    simp only [caseIx] at h
    rcases br_some h with ⟨e, h⟩ | ⟨_, h⟩
    · exact ⟨j, Nat.le_refl _, by omega, by simpa using e, h⟩
    · obtain ⟨m, h1, h2, h3, h4⟩ := caseIx_some h
      exact ⟨m, by omega, by omega, h3, h4⟩

theorem snd_ixa {t e : TypeId} {n : Nat} {x i : Operand} {x' i' : CA} (ho : o.op = .indexAddr t x i) (hx : coA x = some x') (hi : coA i = some i') (hu : uT P t = .array n e) (hz : szT P e ≠ 0)
    {env : Env Ω} (h : sop env A (.ixa n (szT P e) x' i') s k = some out) : PlainV P o s k out := by
  simp only [sop] at h
  split at h
  · rename_i kd j ei
    have hh := caseIx_some h
    clear h
    obtain ⟨m, _, hm, rfl, h⟩ := hh
    simp only [Nat.zero_add] at hm
    split at h
    · rename_i p hp
      refine ⟨_, h, fun cx w a hg ht => ?_⟩
      obtain ⟨ad', h1, h2⟩ := addO_sound hp (eval_coA hx ht)
      have h3 := int_of (ei ▸ eval_coA hi ht)
      refine ⟨_, ?_, h2⟩
      simp [execOp, ho, h1, h3, Instr.indexAt, asIntOf, run_uT w (t := t) (by rw [hu]; simp), hu, Instr.sureAddr, run_szT w (t := e) (by obtain ⟨i, hi, _⟩ := info_of_sz hz; exact ⟨i, hi⟩), hm]
    · simp at h
  · simp at h

theorem inB_spec {i : Int} {n : Nat} (h : inB i n = true) : 0 ≤ i ∧ i.toNat < n ∧ i < (n : Int) ∧ ((i.toNat : Nat) : Int) = i := by
  simp only [inB, Bool.and_eq_true, decide_eq_true_eq] at h
  omega

theorem run_indexAt_slice {t e : TypeId} (hu : uT P t = .slice e) (hz : szT P e ≠ 0) (w : World) (a : Addr) (len cap : Nat) (kd : IntKind) (j : Int) (h0 : 0 ≤ j) (h1 : j < (len : Int)) :
    (Instr.indexAt t (.slice (some a) len cap) (.int kd j)).run P w = .ok (.pointer (some (a.add (j.toNat * szT P e)))) w := by
  simp [Instr.indexAt, asIntOf, run_uT w (t := t) (by rw [hu]; simp), hu, run_szT w (t := e) (by obtain ⟨i, hi, _⟩ := info_of_sz hz; exact ⟨i, hi⟩), h0, h1]

theorem run_ixs {t e : TypeId} {x i : Operand} (ho : o.op = .indexAddr t x i) (hu : uT P t = .slice e) (hz : szT P e ≠ 0) {w : World} {a : Act} {ad : Addr} {len cap : Nat} {kd : IntKind} {j : Int}
    (hx : a.eval x = .slice (some ad) len cap) (hi : a.eval i = .int kd j) (h0 : 0 ≤ j) (h1 : j < (len : Int)) : (execOp a.eval o).run P w = .ok (.value (.pointer (some (ad.add (j.toNat * szT P e))))) w := by
  simp [execOp, ho, hx, hi, run_indexAt_slice hu hz w _ _ _ _ _ h0 h1]

theorem snd_ixs {t e : TypeId} {x i : Operand} {x' i' : CA} (ho : o.op = .indexAddr t x i) (hx : coA x = some x') (hi : coA i = some i') (hu : uT P t = .slice e) (hz : szT P e ≠ 0)
    {env : Env Ω} (h : sop env A (.ixs (szT P e) x' i') s k = some out) : PlainV P o s k out := by
  simp only [sop] at h
  split at h
  · rename_i kd j ei
    simp only [ixSl] at h
    split at h
    · rename_i k1 l ex
      obtain ⟨h1, h⟩ := cond_some h
      have h1 := Nat.eq_of_beq_eq_true h1
      rcases br_some h with ⟨hb, h⟩ | ⟨_, h⟩
      · obtain ⟨b0, b1, b2, b3⟩ := inB_spec hb
        refine ⟨_, h, fun cx w a hg ht => ?_⟩
        have h3 := int_of (ei ▸ eval_coA hi ht)
        have hv := eval_coA hx ht
        rw [ex] at hv
        simp only [SRep, DRep] at hv
        obtain ⟨ad', c, ea, hc, hl⟩ := hv
        obtain ⟨b, o', rfl, hf, hcell⟩ := hl (by intro e; simp [e] at b1)
        refine ⟨_, run_ixs ho hu hz ea h3 b0 b2, ?_⟩
        simp only [SRep, h1, Nat.mul_one, addr_add]
        refine ⟨b, o' + j.toNat, by simp, hf, fun i hi => ⟨_, ?_, by simp only [DRep]; exact ⟨rfl, trivial⟩⟩⟩
        have : i = 0 := by omega
        subst this; exact hcell _ b1
      · simp at h
    · rename_i sz' n f ex
      obtain ⟨h1, h⟩ := cond_some h
      have h1 := Nat.eq_of_beq_eq_true h1
      rcases br_some h with ⟨hb, h⟩ | ⟨_, h⟩
      · obtain ⟨b0, b1, b2, b3⟩ := inB_spec hb
        refine ⟨_, h, fun cx w a hg ht => ?_⟩
        have h3 := int_of (ei ▸ eval_coA hi ht)
        have hv := eval_coA hx ht
        rw [ex] at hv
        simp only [SRep, DRep] at hv
        obtain ⟨ad', c, ea, hc, hl⟩ := hv
        obtain ⟨b, o', rfl, hf, hcell⟩ := hl (by omega)
        refine ⟨_, run_ixs ho hu hz ea h3 b0 b2, ?_⟩
        simp only [SRep, h1, addr_add]
        refine ⟨b, o' + j.toNat * sz', by simp, hf, fun i hi => ?_⟩
        obtain ⟨x, h5, h6⟩ := hcell _ b1 i hi
        exact ⟨x, by rw [Nat.add_assoc]; exact h5, h6⟩
      · simp at h
    · rename_i l ex
      have own : ∀ (cx : Cx) (w : World) (a : Act), Seen cx s.h w → TRep cx w s.t a.tmps → cx.rs l = szT P e → 0 ≤ j → j < (cx.ln l : Int) → cx.nl l = false →
          ∃ v', (execOp a.eval o).run P w = .ok (.value v') w ∧ SRep cx w (.pe l j.toNat 0) v' := by
        intro cx w a hg ht hrs b0 b2 hnl
        have h3 := int_of (ei ▸ eval_coA hi ht)
        have hv := eval_coA hx ht
        rw [ex] at hv
        simp only [SRep] at hv
        obtain ⟨hn, ea⟩ := hv
        rw [hnl] at ea
        refine ⟨_, run_ixs ho hu hz ea h3 b0 b2, ?_⟩
        simp only [SRep, addr_add, hrs]
        exact ⟨hn, by simp, by omega, hnl⟩
      split at h
      · rename_i t' k1 xs hget'
        obtain ⟨h1, h⟩ := cond_some h
        have h1 := Nat.eq_of_beq_eq_true h1
        rcases br_some h with ⟨hb, h⟩ | ⟨_, h⟩
        · obtain ⟨b0, b1, b2, b3⟩ := inB_spec hb
          refine ⟨_, h, fun cx w a hg ht => ?_⟩
          have hO := hg.obj l
          rw [hget'] at hO
          obtain ⟨hln, hrs, hcp, hnl, _⟩ := hO
          refine own cx w a hg ht (by rw [hrs, h1]) b0 (by rw [hln]; exact b2) ?_
          cases hq : cx.nl l with
          | false => rfl
          | true => have := hnl hq; omega
        · simp at h
      · rename_i t' sz' n f hget'
        obtain ⟨h1, h⟩ := cond_some h
        have h1 := Nat.eq_of_beq_eq_true h1
        rcases br_some h with ⟨hb, h⟩ | ⟨_, h⟩
        · obtain ⟨b0, b1, b2, b3⟩ := inB_spec hb
          refine ⟨_, h, fun cx w a hg ht => ?_⟩
          have hO := hg.obj l
          rw [hget'] at hO
          obtain ⟨hln, hrs, hcp, hnl, _⟩ := hO
          refine own cx w a hg ht (by rw [hrs, h1]) b0 (by rw [hln]; exact b2) ?_
          cases hq : cx.nl l with
          | false => rfl
          | true => have := hnl hq; omega
        · simp at h
      · simp at h
    · rename_i l o' sz' n c ex
      have h0 := cond_some h
      clear h
      have h1 := Nat.eq_of_beq_eq_true h0.1
      have hh := caseIx_some h0.2
      obtain ⟨m, _, hm, rfl, h⟩ := hh
      refine ⟨_, h, fun cx w a hg ht => ?_⟩
      have h3 := int_of (ei ▸ eval_coA hi ht)
      have hv := eval_coA hx ht
      rw [ex] at hv
      simp only [SRep] at hv
      obtain ⟨hn, ea⟩ := hv
      refine ⟨_, run_ixs ho hu hz ea h3 (by omega) (by omega), ?_⟩
      simp only [SRep, addr_add, h1]
      exact ⟨hn, by simp⟩
    · simp at h
  · simp at h

theorem snd_ixg {t e : TypeId} {n : Nat} {x i : Operand} {x' i' : CA} (ho : o.op = .index t x i) (hx : coA x = some x') (hi : coA i = some i') (hu : uT P t = .array n e) (hz : szT P e ≠ 0) (hk : okT P e = true)
    {env : Env Ω} (h : sop env A (.ixg n (szT P e) (aggT P e) x' i') s k = some out) : PlainV P o s k out := by
  simp only [sop] at h
  split at h
  · rename_i kd j ei
    simp only [ixAgg] at h
    split at h
    · rename_i c ec
      have hh := caseIx_some h
      clear h
      obtain ⟨m, _, hm, rfl, h⟩ := hh
      obtain ⟨hl, h⟩ := cond_some h
      refine ⟨_, h, fun cx w a hg ht => ?_⟩
      have h3 := int_of (ei ▸ eval_coA hi ht)
      have h1 := eval_coA hx ht
      rw [ec] at h1
      simp only [SRep] at h1
      obtain ⟨c', e1, hr⟩ := h1
      have hcl := hr.length
      obtain ⟨v, hv, hsv⟩ := partS_sound (P := P) hr (ft := e) (off := m * szT P e) (okT_ne hk) (fun ha => by
        rw [ha, Bool.false_or] at hl; have := Nat.le_of_ble_eq_true hl; omega)
      have hm' : m < n := by omega
      exact ⟨v, by simp [execOp, ho, e1, h3, Instr.index, asIntOf, run_uT w (t := t) (by rw [hu]; simp), hu, run_szT w (t := e) (by obtain ⟨i, hi, _⟩ := info_of_sz hz; exact ⟨i, hi⟩), hm', hv], hsv⟩
    · simp at h
  · simp at h

theorem snd_ixc {t : TypeId} {x i : Operand} {x' i' : CA} (ho : o.op = .index t x i) (hx : coA x = some x') (hi : coA i = some i') (hu : uT P t = .string)
    {env : Env Ω} (h : sop env A (.ixc x' i') s k = some out) : PlainV P o s k out := by
  simp only [sop] at h
  split at h
  · rename_i kd j ei
    simp only [ixStr] at h
    split at h
    · rename_i str es
      rcases br_some h with ⟨hb, h⟩ | ⟨_, h⟩
      · obtain ⟨b0, b1, b2, b3⟩ := inB_spec hb
        refine ⟨_, h, fun cx w a hg ht => ⟨_, ?_, SRep.int⟩⟩
        have h3 := int_of (ei ▸ eval_coA hi ht)
        have h1 := str_of (es ▸ eval_coA hx ht)
        have hg : str[j.toNat]? = some (str.data.toList.getD j.toNat 0) := by
          have : j.toNat < str.data.size := b1
          rw [List.getD_eq_getElem?_getD]
          simp only [Array.getElem?_toList, Array.getElem?_eq_getElem this, Option.getD_some]
          rw [getElem?_pos str j.toNat b1]; rfl
        simp [execOp, ho, h1, h3, Instr.index, asIntOf, run_uT w (t := t) (by rw [hu]; simp), hu, b0, hg]
      · simp at h
    · simp at h
  · simp at h

theorem snd_ext {x : Operand} {x' : CA} {i : Nat} (ho : o.op = .extract x i) (hx : coA x = some x') {env : Env Ω} (h : sop env A (.ext i x') s k = some out) : PlainV P o s k out := by
  simp only [sop] at h
  split at h
  · rename_i c ec
    obtain ⟨hi, h⟩ := cond_some h
    have hi : i < c.length := Nat.le_of_ble_eq_true hi
    · refine ⟨_, h, fun cx w a hg ht => ?_⟩
      have h1 := eval_coA hx ht
      rw [ec] at h1
      simp only [SRep] at h1
      obtain ⟨c', e1, hr⟩ := h1
      obtain ⟨v, hv, hsv⟩ := hr.get (List.getElem?_eq_getElem hi)
      refine ⟨v, by simp [execOp, ho, e1, Instr.extract, hv], ?_⟩
      rw [List.getD_eq_getElem?_getD, List.getElem?_eq_getElem hi]; exact hsv
  · simp at h
end
end Go.Sx
