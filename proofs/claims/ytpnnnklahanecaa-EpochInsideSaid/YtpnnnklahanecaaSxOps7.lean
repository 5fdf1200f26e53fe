/- Operations, seventh part: lengths, min and max, structs, slicing, making and appending. -/
import Derived.Test.YtpnnnklahanecaaSxOps6
namespace Go.Sx

section
variable {P : Program} {A : Ann} {o : Oper} {s : SS} {Ω : Type} {k : SV → List Nat → SS → Option Ω} {out : Ω}

theorem lenS_sound {cx : Cx} {h : SH} {w : World} (g : Seen cx h w) {x : SV} {u : Value} (hx : SRep cx w x u) {n : Nat} (hl : lenS h x = some n) : ∃ a c, u = .slice a n c := by
  unfold lenS at hl
  split at hl
  · simp only [Option.some.injEq] at hl; subst hl
    simp only [SRep, DRep] at hx; obtain ⟨a, c, e, _⟩ := hx; exact ⟨a, c, e⟩
  · simp only [Option.some.injEq] at hl; subst hl
    simp only [SRep, DRep] at hx; obtain ⟨a, c, e, _⟩ := hx; exact ⟨a, c, e⟩
  · simp only [Option.some.injEq] at hl; subst hl
    simp only [SRep, DRep] at hx; exact ⟨_, _, hx.1⟩
  · rename_i l
    have ho := g.obj l
    simp only [SRep] at hx
    split at hl
    · rename_i hg
      rw [hg] at ho
      simp only [Option.some.injEq] at hl; subst hl
      exact ⟨_, _, by rw [← ho.1]; exact hx.2⟩
    · rename_i hg
      rw [hg] at ho
      simp only [Option.some.injEq] at hl; subst hl
      exact ⟨_, _, by rw [← ho.1]; exact hx.2⟩
    · simp at hl
  · simp only [Option.some.injEq] at hl; subst hl
    simp only [SRep] at hx; exact ⟨_, _, hx.2⟩
  · simp at hl

theorem run_b1 {b : Builtin} {x : Operand} {t : TypeId} (ho : o.op = .call { callee := .builtin b, args := #[x], argTypes := #[t] }) (a : Act) (w : World) :
    (execOp a.eval o).run P w = (builtin b #[t] o.type (#[x].map fun | .const _ => true | _ => false) #[a.eval x]).run P w := by
  simp [execOp, ho, resolve, invoke]
  rfl

theorem snd_len {x : Operand} {x' : CA} {t e : TypeId} (ho : o.op = .call { callee := .builtin .len, args := #[x], argTypes := #[t] }) (hx : coA x = some x') (hu : uT P t = .slice e)
    {env : Env Ω} (h : sop env A (.len x') s k = some out) : PlainV P o s k out := by
  simp only [sop] at h
  split at h
  · rename_i n hn
    refine ⟨_, h, fun cx w a hg ht => ⟨_, ?_, SRep.int⟩⟩
    obtain ⟨p, c, e1⟩ := lenS_sound hg (eval_coA hx ht) hn
    rw [run_b1 ho]
    simp [builtin, Builtin.len_, e1, run_uT w (t := t) (by rw [hu]; simp), hu, goInt]
  · simp at h

theorem snd_lens {x : Operand} {x' : CA} {t : TypeId} (ho : o.op = .call { callee := .builtin .len, args := #[x], argTypes := #[t] }) (hx : coA x = some x') (hu : uT P t = .string)
    {env : Env Ω} (h : sop env A (.lens x') s k = some out) : PlainV P o s k out := by
  simp only [sop] at h
  split at h
  · rename_i y hy
    refine ⟨_, h, fun cx w a hg ht => ⟨_, ?_, SRep.int⟩⟩
    have h1 := str_of (hy ▸ eval_coA hx ht)
    rw [run_b1 ho]
    simp [builtin, Builtin.len_, h1, run_uT w (t := t) (by rw [hu]; simp), hu, goInt]
  · simp at h

theorem ents_length (e : Array MapEntry) : (ents e).length = e.size := by simp [ents]

theorem SRepE.length {cx : Cx} {w : World} : ∀ {c : List (Value × SV)} {c' : List (Value × Value)}, SRepE cx w c c' → c.length = c'.length
  | [], [], _ => rfl
  | _ :: _, _ :: _, h => by simp only [SRepE] at h; simp [SRepE.length h.2.2]
  | [], _ :: _, h => by simp [SRepE] at h
  | _ :: _, [], h => by simp [SRepE] at h

theorem snd_lenm {x : Operand} {x' : CA} {t q e : TypeId} (ho : o.op = .call { callee := .builtin .len, args := #[x], argTypes := #[t] }) (hx : coA x = some x') (hu : uT P t = .map q e)
    {env : Env Ω} (h : sop env A (.lenm x') s k = some out) : PlainV P o s k out := by
  simp only [sop] at h
  have key : ∀ n : Nat, k (vInt n) [] s = some out → (∀ (cx : Cx) (w : World) (a : Act), Seen cx s.h w → TRep cx w s.t a.tmps → ∃ r es c, a.eval x = .map (some r) ∧ w.heap[r]? = some (.map es c) ∧ es.size = n) → PlainV P o s k out := by
    intro n h hm
    refine ⟨_, h, fun cx w a hg ht => ⟨_, ?_, SRep.int⟩⟩
    obtain ⟨r, es, c, h1, h2, h3⟩ := hm cx w a hg ht
    rw [run_b1 ho]
    simp [builtin, Builtin.len_, h1, run_uT w (t := t) (by rw [hu]; simp), hu, getObj, Sem.run, h2, goInt, h3]
  split at h
  · rename_i hy
    refine ⟨_, h, fun cx w a hg ht => ⟨_, ?_, SRep.int⟩⟩
    have h1 := eval_coA hx ht
    rw [hy] at h1
    simp only [SRep, DRep] at h1
    rw [run_b1 ho]
    simp [builtin, Builtin.len_, h1.1, run_uT w (t := t) (by rw [hu]; simp), hu, goInt]
  · rename_i l hy
    have hv : ∀ (cx : Cx) (w : World) (a : Act), Seen cx s.h w → TRep cx w s.t a.tmps → a.eval x = .map (some (cx.th l)) := by
      intro cx w a hg ht
      have h1 := eval_coA hx ht
      rw [hy] at h1
      simp only [SRep] at h1
      exact h1.2
    split at h
    · rename_i hg
      refine key _ h fun cx w a hG ht => ?_
      have hO := hG.obj l
      rw [hg] at hO
      obtain ⟨e, c, h1, h2⟩ := hO
      exact ⟨_, e, c, hv cx w a hG ht, h1, by rw [← ents_length, h2]; simp⟩
    · rename_i hg
      refine key _ h fun cx w a hG ht => ?_
      have hO := hG.obj l
      rw [hg] at hO
      obtain ⟨e, c, h1, h2⟩ := hO
      exact ⟨_, e, c, hv cx w a hG ht, h1, by rw [← ents_length, h2]; simp⟩
    · rename_i hg
      refine key _ h fun cx w a hG ht => ?_
      have hO := hG.obj l
      rw [hg] at hO
      obtain ⟨e, c, h1, h2⟩ := hO
      exact ⟨_, e, c, hv cx w a hG ht, h1, by rw [← ents_length, ← h2.length]⟩
    · simp at h
  · simp at h

theorem snd_lenc {x : Operand} {t e : TypeId} {n : Nat} (ho : o.op = .call { callee := .builtin .len, args := #[x], argTypes := #[t] }) (hu : uT P t = .array n e)
    {env : Env Ω} (h : sop env A (.lenc n) s k = some out) : PlainV P o s k out := by
  simp only [sop] at h
  refine ⟨_, h, fun cx w a hg ht => ⟨_, ?_, SRep.int⟩⟩
  rw [run_b1 ho]
  simp [builtin, Builtin.len_, run_uT w (t := t) (by rw [hu]; simp), hu, goInt]

theorem run_b2 {b : Builtin} {x y : Operand} {ts : Array TypeId} (ho : o.op = .call { callee := .builtin b, args := #[x, y], argTypes := ts }) (a : Act) (w : World) :
    (execOp a.eval o).run P w = (builtin b ts o.type (#[x, y].map fun | .const _ => true | _ => false) #[a.eval x, a.eval y]).run P w := by
  simp [execOp, ho, resolve, invoke]
  rfl

theorem snd_mn {x y : Operand} {x' y' : CA} {ts : Array TypeId} (ho : o.op = .call { callee := .builtin .min, args := #[x, y], argTypes := ts }) (hx : coA x = some x') (hy : coA y = some y')
    {env : Env Ω} (h : sop env A (.mn x' y') s k = some out) : PlainV P o s k out := by
  simp only [sop] at h
  split at h
  · rename_i i a1 j b1 e1 e2
    have hk := kEq_eq (cond_some h).1
    replace h := (cond_some h).2
    subst hk
    refine ⟨_, h, fun cx w a hg ht => ⟨_, ?_, SRep.int⟩⟩
    rw [run_b2 ho]
    simp [builtin, Builtin.min_, Builtin.min2, int_of (e1 ▸ eval_coA hx ht), int_of (e2 ▸ eval_coA hy ht)]
  · simp at h

theorem snd_mx {x y : Operand} {x' y' : CA} {ts : Array TypeId} (ho : o.op = .call { callee := .builtin .max, args := #[x, y], argTypes := ts }) (hx : coA x = some x') (hy : coA y = some y')
    {env : Env Ω} (h : sop env A (.mx x' y') s k = some out) : PlainV P o s k out := by
  simp only [sop] at h
  split at h
  · rename_i i a1 j b1 e1 e2
    have hk := kEq_eq (cond_some h).1
    replace h := (cond_some h).2
    subst hk
    refine ⟨_, h, fun cx w a hg ht => ⟨_, ?_, SRep.int⟩⟩
    rw [run_b2 ho]
    simp [builtin, Builtin.max_, Builtin.max2, int_of (e1 ▸ eval_coA hx ht), int_of (e2 ▸ eval_coA hy ht)]
  · simp at h

/-! ### literals -/
theorem foldl_set : ∀ (xs : List Value) (c' : List Value) (o i : Nat), o + i + xs.length ≤ c'.length →
    ((xs.zipIdx i).foldl (fun (cs : Array Value) p => cs.setIfInBounds (o + p.2) p.1) ⟨c'⟩) = ⟨c'.take (o + i) ++ (xs ++ c'.drop (o + i + xs.length))⟩
  | [], c', o, i, _ => by simp
  | x :: xs, c', o, i, h => by
    simp only [List.length_cons] at h
    simp only [List.zipIdx_cons, List.foldl_cons, List.setIfInBounds_toArray]
    rw [foldl_set xs (c'.set (o + i) x) o (i + 1) (by simp; omega)]
    congr 1
    have e1 : (c'.set (o + i) x).take (o + (i + 1)) = c'.take (o + i) ++ [x] := by
      rw [show o + (i + 1) = (o + i) + 1 by omega, List.take_succ_eq_append_getElem (by simp; omega)]
      simp [List.take_set_of_le]
    have e2 : (c'.set (o + i) x).drop (o + (i + 1) + xs.length) = c'.drop (o + i + (xs.length + 1)) := by
      rw [List.drop_set_of_lt (by omega)]
      congr 1; omega
    rw [e1, e2]; simp

theorem fill_sound {cx : Cx} {w : World} {t : List (Nat × SV)} {a : Act} (ht : TRep cx w t a.tmps) {pl pl' : Nat → Option (Nat × Nat)} (hpl : ∀ i r, pl i = some r → pl' i = some r) :
    ∀ {ps : List (Nat × Operand)} {qs : List (Nat × Nat × CA)} {z : List SV} {c : List SV} {z' : List Value}, coP pl ps = some qs → SRepL cx w z z' → fillS z (evP t qs) = some c →
      ∃ c', Instr.fill pl' ⟨z'⟩ (ps.map fun p => (p.1, a.eval p.2)) = some ⟨c'⟩ ∧ SRepL cx w c c'
  | [], qs, z, c, z', h, hz, hf => by
    simp only [coP, Option.some.injEq] at h; subst h
    simp only [evP, fillS, Option.some.injEq] at hf; subst hf
    exact ⟨z', by simp [Instr.fill], hz⟩
  | (i, x) :: r, qs, z, c, z', h, hz, hf => by
    simp only [coP] at h
    split at h
    · rename_i off n y l h1 h2 h3
      simp only [Option.some.injEq] at h; subst h
      simp only [evP, fillS] at hf
      split at hf
      · rename_i cs hcs
        obtain ⟨hb, hf⟩ := cond_some hf
        simp only [Bool.and_eq_true] at hb
        have hlen := Nat.eq_of_beq_eq_true hb.1
        have hle := Nat.le_of_ble_eq_true hb.2
        obtain ⟨vs, e1, hv, _⟩ := cellsOf_sound hcs (eval_coA h2 ht)
        have hvl := hv.length
        have hzl := hz.length
        obtain ⟨c', hc1, hc2⟩ := fill_sound ht hpl h3 ((hz.take off).append (hv.append (hz.drop (off + n)))) hf
        refine ⟨c', ?_, hc2⟩
        simp only [List.map_cons, Instr.fill, hpl i _ h1, e1]
        have hz1 : vs.length = n := by omega
        have : ¬ ((Array.mk vs).size ≠ n ∨ off + (Array.mk vs).size > (Array.mk z').size) := by simp; omega
        simp only [List.size_toArray, hz1, ne_eq, not_true_eq_false, decide_false, Bool.false_or, decide_eq_true_eq]
        rw [if_neg (by omega)]
        have hf2 := foldl_set vs z' off 0 (by omega)
        simp only [Nat.add_zero, hz1] at hf2
        rw [← hc1]
        congr 1
        rw [← hf2]
        simp [← Array.foldl_toList]
      · simp at hf
    · simp at h
end
end Go.Sx
