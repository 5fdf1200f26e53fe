/- Operations, ninth part: slicing, make, append. -/
import Derived.Test.YtpnnnklahanecaaSxOps8
namespace Go.Sx

section
variable {P : Program} {A : Ann} {o : Oper} {s : SS} {Ω : Type} {k : SV → List Nat → SS → Option Ω} {out : Ω}

def optV (v : Option Value) (d a : Int) : Prop := (v = none ∧ a = d) ∨ ∃ k, v = some (.int k a)
def optW (v : Option Value) (c : Option Int) : Prop := (v = none ∧ c = none) ∨ ∃ k a, v = some (.int k a) ∧ c = some a

theorem evO_I {x : Option Operand} {y : Option CA} (h : coO x = some y) {cx : Cx} {w : World} {a : Act} {t : List (Nat × SV)} (ht : TRep cx w t a.tmps) {n : Nat} {i : Int} (he : optI n (evO t y) = some i) : optV (x.map a.eval) n i := by
  cases x with
  | none => simp only [coO, Option.some.injEq] at h; subst h; simp only [evO, optI, Option.some.injEq] at he; exact .inl ⟨rfl, he.symm⟩
  | some x =>
    simp only [coO, Option.map_eq_some_iff] at h
    obtain ⟨y', hy, rfl⟩ := h
    simp only [evO] at he
    have := eval_coA hy ht
    generalize ev t y' = q at he this
    unfold optI at he
    split at he
    · simp at *
    · rename_i k i' e
      simp only [Option.some.injEq] at he e; subst he; subst e
      exact .inr ⟨k, by simp [int_of this]⟩
    · simp at he

theorem evO_C {x : Option Operand} {y : Option CA} (h : coO x = some y) {cx : Cx} {w : World} {a : Act} {t : List (Nat × SV)} (ht : TRep cx w t a.tmps) {i : Option Int} (he : optC (evO t y) = some i) : optW (x.map a.eval) i := by
  cases x with
  | none => simp only [coO, Option.some.injEq] at h; subst h; simp only [evO, optC, Option.some.injEq] at he; exact .inl ⟨rfl, he.symm⟩
  | some x =>
    simp only [coO, Option.map_eq_some_iff] at h
    obtain ⟨y', hy, rfl⟩ := h
    simp only [evO] at he
    have := eval_coA hy ht
    generalize ev t y' = q at he this
    unfold optC at he
    split at he
    · simp at *
    · rename_i k i' e
      simp only [Option.some.injEq] at he e; subst he; subst e
      exact .inr ⟨k, _, by simp [int_of this], rfl⟩
    · simp at he

theorem run_bound {k : IntKind} {x : Int} {y : Nat} {c : BoundsCode} (w : World) (h0 : 0 ≤ x) (h1 : x ≤ (y : Int)) : (Instr.sliceBound (.int k x) y c).run P w = .ok x.toNat w := by
  simp [Instr.sliceBound, asIntOf, h0, h1]

theorem run_bounds {isS : Bool} {len cap : Nat} {lo hi mx : Option Value} {a b : Int} {c : Option Int} (w : World) (hl : optV lo 0 a) (hh : optV hi len b) (hm : optW mx c) (hlc : len ≤ cap) (hmh : mx ≠ none → hi ≠ none)
    (hb : okB a b len c = true) : ∃ m : Nat, (Instr.sliceBounds isS len cap lo hi mx).run P w = .ok (a.toNat, b.toNat, m) w ∧ b.toNat ≤ m ∧ m ≤ cap := by
  simp only [okB, Bool.and_eq_true, decide_eq_true_eq] at hb
  obtain ⟨b1, b2, b3, b4⟩ := hb
  rcases hm with ⟨rfl, rfl⟩ | ⟨k3, x3, rfl, rfl⟩
  · refine ⟨cap, ?_, by omega, Nat.le_refl _⟩
    rcases hl with ⟨rfl, rfl⟩ | ⟨k1, rfl⟩ <;> rcases hh with ⟨rfl, rfl⟩ | ⟨k2, rfl⟩
    · simp [Instr.sliceBounds]
    · simp [Instr.sliceBounds, run_bound w (show (0 : Int) ≤ b by omega) (show b ≤ (cap : Int) by omega)]
    · simp [Instr.sliceBounds, run_bound w b1 b2]
    · simp [Instr.sliceBounds, run_bound w (show (0 : Int) ≤ b by omega) (show b ≤ (cap : Int) by omega), run_bound w b1 (show a ≤ ((b.toNat : Nat) : Int) by omega)]
  · simp only [beq_iff_eq] at b4
    subst b4
    refine ⟨x3.toNat, ?_, Nat.le_refl _, by omega⟩
    rcases hh with ⟨rfl, rfl⟩ | ⟨k2, rfl⟩
    · exact absurd rfl (hmh (by simp))
    rcases hl with ⟨rfl, rfl⟩ | ⟨k1, rfl⟩
    · simp [Instr.sliceBounds, run_bound w (show (0 : Int) ≤ x3 by omega) (show x3 ≤ (cap : Int) by omega), run_bound w (show (0 : Int) ≤ x3 by omega) (show x3 ≤ ((x3.toNat : Nat) : Int) by omega)]
    · simp [Instr.sliceBounds, run_bound w (show (0 : Int) ≤ x3 by omega) (show x3 ≤ (cap : Int) by omega), run_bound w (show (0 : Int) ≤ x3 by omega) (show x3 ≤ ((x3.toNat : Nat) : Int) by omega), run_bound w b1 (show a ≤ ((x3.toNat : Nat) : Int) by omega)]

theorem snd_slc {t : TypeId} {z : Nat} {x : Operand} {lo hi mx : Option Operand} {x' : CA} {lo' hi' mx' : Option CA} (ho : o.op = .slice t x lo hi mx) (hz : elT P t = some z) (hx : coA x = some x') (hlo : coO lo = some lo') (hhi : coO hi = some hi') (hmx : coO mx = some mx')
    (hmh : mx ≠ none → hi ≠ none) {env : Env Ω} (h : sop env A (.slc z x' lo' hi' mx') s k = some out) : PlainV P o s k out := by
  simp only [sop, slcS] at h
  have hmh' : ∀ a : Act, mx.map a.eval ≠ none → hi.map a.eval ≠ none := by intro a; cases mx <;> cases hi <;> simp at hmh ⊢
  split at h
  · rename_i kd l ex
    split at h
    · rename_i a b c ea eb ec
      have hA := cond_some h
      clear h
      have h1 := Nat.eq_of_beq_eq_true hA.1
      have hB := br_some hA.2
      subst h1
      rcases hB with ⟨hb, h⟩ | ⟨_, h⟩
      · refine ⟨_, h, fun cx w ac hg ht => ?_⟩
        have hv := eval_coA hx ht
        rw [ex] at hv
        simp only [SRep, DRep] at hv
        obtain ⟨p, cap, ev', hc, hl⟩ := hv
        obtain ⟨m, hr, hm1, hm2⟩ := run_bounds (P := P) (isS := true) w (evO_I hlo ht ea) (evO_I hhi ht eb) (evO_C hmx ht ec) hc (hmh' ac) hb
        have hb' := hb
        simp only [okB, Bool.and_eq_true, decide_eq_true_eq] at hb'
        obtain ⟨e, hu, hs⟩ : ∃ e, uT P t = .slice e ∧ szT P e = 1 := by
          unfold elT at hz
          split at hz
          · rename_i e he
            refine ⟨e, he, ?_⟩
            cases hq : Nat.beq (szT P e) 0 <;> simp [hq] at hz; exact hz
          · simp at hz
          · simp at hz
        refine ⟨.slice (if m = a.toNat then p else p.map (·.add (a.toNat * 1))) (b.toNat - a.toNat) (m - a.toNat), ?_, ?_⟩
        · simp [execOp, ho, Instr.sliceAt, ev', run_uT w (t := t) (by rw [hu]; simp), hu, Instr.slice, hr, run_szT w (t := e) (by obtain ⟨i, hi, _⟩ := info_of_sz (t := e) (by rw [hs]; decide); exact ⟨i, hi⟩), hs]
        · simp only [SRep, DRep]
          have hlen : ((l.take b.toNat).drop a.toNat).length = b.toNat - a.toNat := by simp; omega
          refine ⟨_, _, by rw [hlen], by rw [hlen]; omega, fun hne => ?_⟩
          have hlt : a.toNat < b.toNat := by
            have : ((l.take b.toNat).drop a.toNat).length ≠ 0 := fun e0 => hne (List.length_eq_zero_iff.1 e0)
            omega
          obtain ⟨blk, off, rfl, hf, hcell⟩ := hl (by intro e0; subst e0; simp at hb'; omega)
          refine ⟨blk, off + a.toNat, ?_, hf, fun i hi => ?_⟩
          · rw [if_neg (by omega)]; simp [addr_add]
          · rw [hlen] at hi
            rw [Nat.add_assoc, hcell (a.toNat + i) (by omega)]
            simp only [List.getD_eq_getElem?_getD, List.getElem?_drop, List.getElem?_take]
            rw [if_pos (by omega)]
      · simp at h
    · simp at h
  · rename_i sz n f ex
    split at h
    · rename_i a b c ea eb ec
      have hA := cond_some h
      clear h
      have h1 := Nat.eq_of_beq_eq_true (Bool.and_eq_true _ _ ▸ hA.1).1
      have h10 : z ≠ 0 := by
        have := (Bool.and_eq_true _ _ ▸ hA.1).2
        intro e0; subst e0; simp at this
      have hB := br_some hA.2
      subst h1
      rcases hB with ⟨hb, h⟩ | ⟨_, h⟩
      · refine ⟨_, h, fun cx w ac hg ht => ?_⟩
        have hv := eval_coA hx ht
        rw [ex] at hv
        simp only [SRep, DRep] at hv
        obtain ⟨p, cap, ev', hc, hl⟩ := hv
        obtain ⟨m, hr, hm1, hm2⟩ := run_bounds (P := P) (isS := true) w (evO_I hlo ht ea) (evO_I hhi ht eb) (evO_C hmx ht ec) hc (hmh' ac) hb
        have hb' := hb
        simp only [okB, Bool.and_eq_true, decide_eq_true_eq] at hb'
        rcases (show (∃ e, uT P t = .slice e ∧ szT P e = z ∧ z ≠ 0) ∨ uT P t = .string by
          unfold elT at hz
          split at hz
          · rename_i e he
            refine .inl ⟨e, he, ?_⟩
            cases hq : Nat.beq (szT P e) 0 <;> simp [hq] at hz
            exact ⟨hz, by intro e0; rw [← hz] at e0; rw [e0] at hq; simp at hq⟩
          · rename_i he; exact .inr he
          · simp at hz) with ⟨e, hu, hs, hz0⟩ | hu
        · refine ⟨.slice (if m = a.toNat then p else p.map (·.add (a.toNat * z))) (b.toNat - a.toNat) (m - a.toNat), ?_, ?_⟩
          · simp [execOp, ho, Instr.sliceAt, ev', run_uT w (t := t) (by rw [hu]; simp), hu, Instr.slice, hr, run_szT w (t := e) (by obtain ⟨i, hi, _⟩ := info_of_sz (t := e) (by rw [hs]; exact hz0); exact ⟨i, hi⟩), hs]
          · simp only [SRep, DRep]
            refine ⟨_, _, rfl, by omega, fun hne => ?_⟩
            obtain ⟨blk, off, rfl, hf, hcell⟩ := hl (by omega)
            refine ⟨blk, off + a.toNat * z, ?_, hf, fun i hi j hj => ?_⟩
            · rw [if_neg (by omega)]; simp [addr_add]
            · obtain ⟨v, hv1, hv2⟩ := hcell (i + a.toNat) (by omega) j hj
              refine ⟨v, ?_, hv2⟩
              rw [show off + a.toNat * z + (i * z + j) = off + ((i + a.toNat) * z + j) by rw [Nat.add_mul]; omega]; exact hv1
        · exfalso
          unfold elT at hz
          rw [hu] at hz
          simp at hz
          exact h10 hz.symm
      · simp at h
    · simp at h
  · rename_i str ex
    split at h
    · rename_i a b ea eb ec
      have hA := cond_some h
      clear h
      have h1 := Nat.eq_of_beq_eq_true hA.1
      have hB := br_some hA.2
      subst h1
      rcases hB with ⟨hb, h⟩ | ⟨_, h⟩
      · refine ⟨_, h, fun cx w ac hg ht => ?_⟩
        have hv := str_of (ex ▸ eval_coA hx ht)
        have hC := evO_C hmx ht ec
        have hnone : mx.map ac.eval = none := by
          rcases hC with ⟨h9, _⟩ | ⟨_, _, _, h9⟩
          · exact h9
          · simp at h9
        obtain ⟨m, hr, hm1, hm2⟩ := run_bounds (P := P) (isS := false) (cap := str.size) w (evO_I hlo ht ea) (evO_I hhi ht eb) hC (Nat.le_refl _) (hmh' ac) hb
        rw [hnone] at hr
        have hu : uT P t = .string := by
          unfold elT at hz
          split at hz
          · rename_i e he
            cases hq : Nat.beq (szT P e) 0 <;> simp [hq] at hz
            rw [hz] at hq; simp at hq
          · rename_i he; exact he
          · simp at hz
        refine ⟨.string (str.extract a.toNat b.toNat), ?_, SRep.str⟩
        simp [execOp, ho, Instr.sliceAt, hv, run_uT w (t := t) (by rw [hu]; simp), hu, Instr.slice, hr, hnone]
      · simp at h
    · simp at h
  · simp at h
end
end Go.Sx
