/- Operations, seventh part: lengths, min and max, structs, slicing, making and appending. -/
import Derived.Test.YtaejdljgfmclpaaGreatSxOps6
set_option linter.all false
set_option linter.unusedVariables false
set_option linter.unusedSimpArgs false
set_option linter.unnecessarySimpa false
namespace Go.Sx

section
variable {P : Program} {A : Ann} {o : Oper} {s : SS} {Ω : Type} {k : SV → List Nat → SS → Option Ω} {out : Ω}

theorem lenS_sound {cx : Cx} {h : SH} {w : World} (g : Seen cx h w) {x : SV} {u : Value} (hx : SRep cx w x u) {n : Nat} (hl : lenS h x = some n) : ∃ a c, u = .slice a n c := by
  unfold lenS at hl
  split at hl
  · simp only [Option.some.injEq] at hl; subst hl
    simp only [SRep, DRep] at hx; obtain ⟨a, c, e, _⟩ := hx; exact ⟨a, c, e⟩
  · simp only [Option.some.injEq] at hl; subst hl
    simp only [SRep, DRep] at hx; obtain ⟨a, c, e, _⟩ := hx; exact ⟨a, c, e⟩
  · simp only [Option.some.injEq] at hl; subst hl
    simp only [SRep, DRep] at hx; exact ⟨_, _, hx.1⟩
  · rename_i l
    have ho := g.obj l
    simp only [SRep] at hx
    split at hl
    · rename_i hg
      rw [hg] at ho
      simp only [Option.some.injEq] at hl; subst hl
      exact ⟨_, _, by rw [← ho.1]; exact hx.2⟩
    · rename_i hg
      rw [hg] at ho
      simp only [Option.some.injEq] at hl; subst hl
      exact ⟨_, _, by rw [← ho.1]; exact hx.2⟩
    · simp at hl
  · simp only [Option.some.injEq] at hl; subst hl
    simp only [SRep] at hx; exact ⟨_, _, hx.2⟩
  · simp at hl

theorem run_b1 {b : Builtin} {x : Operand} {t : TypeId} (ho : o.op = .call { callee := .builtin b, args := #[x], argTypes := #[t] }) (a : Act) (w : World) :
    (execOp a.eval o).run P w = (builtin b #[t] o.type (#[x].map fun | .const _ => true | _ => false) #[a.eval x]).run P w := by
  simp [execOp, ho, resolve, invoke]
  rfl

theorem snd_len {x : Operand} {x' : CA} {t e : TypeId} (ho : o.op = .call { callee := .builtin .len, args := #[x], argTypes := #[t] }) (hx : coA x = some x') (hu : uT P t = .slice e)
    {env : Env Ω} (h : sop env A (.len x') s k = some out) : PlainV P o s k out := by
  simp only [sop] at h
  split at h
  · rename_i n hn
    refine ⟨_, h, fun cx w a hg ht => ⟨_, ?_, SRep.int⟩⟩
    obtain ⟨p, c, e1⟩ := lenS_sound hg (eval_coA hx ht) hn
    rw [run_b1 ho]
    simp [builtin, Builtin.len_, e1, run_uT w (t := t) (by rw [hu]; simp), hu, goInt]
  · simp at h

theorem snd_lens {x : Operand} {x' : CA} {t : TypeId} (ho : o.op = .call { callee := .builtin .len, args := #[x], argTypes := #[t] }) (hx : coA x = some x') (hu : uT P t = .string)
    {env : Env Ω} (h : sop env A (.lens x') s k = some out) : PlainV P o s k out := by
  simp only [sop] at h
  split at h
  · rename_i y hy
    refine ⟨_, h, fun cx w a hg ht => ⟨_, ?_, SRep.int⟩⟩
    have h1 := str_of (hy ▸ eval_coA hx ht)
    rw [run_b1 ho]
    simp [builtin, Builtin.len_, h1, run_uT w (t := t) (by rw [hu]; simp), hu, goInt]
  · simp at h

theorem ents_length (e : Array MapEntry) : (ents e).length = e.size := by simp [ents]

theorem SRepE.length {cx : Cx} {w : World} : ∀ {c : List (Value × SV)} {c' : List (Value × Value)}, SRepE cx w c c' → c.length = c'.length
  | [], [], _ => rfl
  | _ :: _, _ :: _, h => by simp only [SRepE] at h; simp [SRepE.length h.2.2]
  | [], _ :: _, h => by simp [SRepE] at h
  | _ :: _, [], h => by simp [SRepE] at h

theorem snd_lenm {x : Operand} {x' : CA} {t q e : TypeId} (ho : o.op = .call { callee := .builtin .len, args := #[x], argTypes := #[t] }) (hx : coA x = some x') (hu : uT P t = .map q e)
    {env : Env Ω} (h : sop env A (.lenm x') s k = some out) : PlainV P o s k out := by
  simp only [sop] at h
  have key : ∀ n : Nat, k (vInt n) [] s = some out → (∀ (cx : Cx) (w : World) (a : Act), Seen cx s.h w → TRep cx w s.t a.tmps → ∃ r es c, a.eval x = .map (some r) ∧ w.heap[r]? = some (.map es c) ∧ es.size = n) → PlainV P o s k out := by
    intro n h hm
    refine ⟨_, h, fun cx w a hg ht => ⟨_, ?_, SRep.int⟩⟩
    obtain ⟨r, es, c, h1, h2, h3⟩ := hm cx w a hg ht
    rw [run_b1 ho]
    simp [builtin, Builtin.len_, h1, run_uT w (t := t) (by rw [hu]; simp), hu, getObj, Sem.run, h2, goInt, h3]
  split at h
  · rename_i hy
    refine ⟨_, h, fun cx w a hg ht => ⟨_, ?_, SRep.int⟩⟩
    have h1 := eval_coA hx ht
    rw [hy] at h1
    simp only [SRep, DRep] at h1
    rw [run_b1 ho]
    simp [builtin, Builtin.len_, h1.1, run_uT w (t := t) (by rw [hu]; simp), hu, goInt]
  · rename_i l hy
    have hv : ∀ (cx : Cx) (w : World) (a : Act), Seen cx s.h w → TRep cx w s.t a.tmps → a.eval x = .map (some (cx.th l)) := by
      intro cx w a hg ht
      have h1 := eval_coA hx ht
      rw [hy] at h1
      simp only [SRep] at h1
      exact h1.2
    split at h
    · rename_i hg
      refine key _ h fun cx w a hG ht => ?_
      have hO := hG.obj l
      rw [hg] at hO
      obtain ⟨e, c, h1, h2⟩ := hO
      exact ⟨_, e, c, hv cx w a hG ht, h1, by rw [← ents_length, h2]; simp⟩
    · rename_i hg
      refine key _ h fun cx w a hG ht => ?_
      have hO := hG.obj l
      rw [hg] at hO
      obtain ⟨e, c, h1, h2⟩ := hO
      exact ⟨_, e, c, hv cx w a hG ht, h1, by rw [← ents_length, h2]; simp⟩
    · rename_i hg
      refine key _ h fun cx w a hG ht => ?_
      have hO := hG.obj l
      rw [hg] at hO
      obtain ⟨e, c, h1, h2⟩ := hO
      exact ⟨_, e, c, hv cx w a hG ht, h1, by rw [← ents_length, ← h2.length]⟩
    · simp at h
  · simp at h

theorem snd_lenc {x : Operand} {t e : TypeId} {n : Nat} (ho : o.op = .call { callee := .builtin .len, args := #[x], argTypes := #[t] }) (hu : uT P t = .array n e)
    {env : Env Ω} (h : sop env A (.lenc n) s k = some out) : PlainV P o s k out := by
  simp only [sop] at h
  refine ⟨_, h, fun cx w a hg ht => ⟨_, ?_, SRep.int⟩⟩
  rw [run_b1 ho]
  simp [builtin, Builtin.len_, run_uT w (t := t) (by rw [hu]; simp), hu, goInt]

theorem run_b2 {b : Builtin} {x y : Operand} {ts : Array TypeId} (ho : o.op = .call { callee := .builtin b, args := #[x, y], argTypes := ts }) (a : Act) (w : World) :
    (execOp a.eval o).run P w = (builtin b ts o.type (#[x, y].map fun | .const _ => true | _ => false) #[a.eval x, a.eval y]).run P w := by
  simp [execOp, ho, resolve, invoke]
  rfl

theorem snd_mn {x y : Operand} {x' y' : CA} {ts : Array TypeId} (ho : o.op = .call { callee := .builtin .min, args := #[x, y], argTypes := ts }) (hx : coA x = some x') (hy : coA y = some y')
    {env : Env Ω} (h : sop env A (.mn x' y') s k = some out) : PlainV P o s k out := by
  simp only [sop] at h
  split at h
  · rename_i i a1 j b1 e1 e2
    have hk := kEq_eq (cond_some h).1
    replace h := (cond_some h).2
    subst hk
    refine ⟨_, h, fun cx w a hg ht => ⟨_, ?_, SRep.int⟩⟩
    rw [run_b2 ho]
    simp [builtin, Builtin.min_, Builtin.min2, int_of (e1 ▸ eval_coA hx ht), int_of (e2 ▸ eval_coA hy ht)]
  · simp at h

theorem snd_mx {x y : Operand} {x' y' : CA} {ts : Array TypeId} (ho : o.op = .call { callee := .builtin .max, args := #[x, y], argTypes := ts }) (hx : coA x = some x') (hy : coA y = some y')
    {env : Env Ω} (h : sop env A (.mx x' y') s k = some out) : PlainV P o s k out := by
  simp only [sop] at h
  split at h
  · rename_i i a1 j b1 e1 e2
    have hk := kEq_eq (cond_some h).1
    replace h := (cond_some h).2
    subst hk
    refine ⟨_, h, fun cx w a hg ht => ⟨_, ?_, SRep.int⟩⟩
    rw [run_b2 ho]
    simp [builtin, Builtin.max_, Builtin.max2, int_of (e1 ▸ eval_coA hx ht), int_of (e2 ▸ eval_coA hy ht)]
  · simp at h

/-! ### literals -/
theorem foldl_set : ∀ (xs : List Value) (c' : List Value) (o i : Nat), o + i + xs.length ≤ c'.length →
    ((xs.zipIdx i).foldl (fun (cs : Array Value) p => cs.setIfInBounds (o + p.2) p.1) ⟨c'⟩) = ⟨c'.take (o + i) ++ (xs ++ c'.drop (o + i + xs.length))⟩
  | [], c', o, i, _ => by simp
  | x :: xs, c', o, i, h => by
    simp only [List.length_cons] at h
    simp only [List.zipIdx_cons, List.foldl_cons, List.setIfInBounds_toArray]
    rw [foldl_set xs (c'.set (o + i) x) o (i + 1) (by simp; omega)]
    congr 1
    have e1 : (c'.set (o + i) x).take (o + (i + 1)) = c'.take (o + i) ++ [x] := by
      rw [show o + (i + 1) = (o + i) + 1 by omega, List.take_succ_eq_append_getElem (by simp; omega)]
      simp [List.take_set_of_le]
    have e2 : (c'.set (o + i) x).drop (o + (i + 1) + xs.length) = c'.drop (o + i + (xs.length + 1)) := by
      rw [List.drop_set_of_lt (by omega)]
      congr 1; omega
    rw [e1, e2]; simp

theorem fill_sound {cx : Cx} {w : World} {t : List (Nat × SV)} {a : Act} (ht : TRep cx w t a.tmps) {pl pl' : Nat → Option (Nat × Nat)} (hpl : ∀ i r, pl i = some r → pl' i = some r) :
    ∀ {ps : List (Nat × Operand)} {qs : List (Nat × Nat × CA)} {z : List SV} {c : List SV} {z' : List Value}, coP pl ps = some qs → SRepL cx w z z' → fillS z (evP t qs) = some c →
      ∃ c', Instr.fill pl' ⟨z'⟩ (ps.map fun p => (p.1, a.eval p.2)) = some ⟨c'⟩ ∧ SRepL cx w c c'
  | [], qs, z, c, z', h, hz, hf => by
    simp only [coP, Option.some.injEq] at h; subst h
    simp only [evP, fillS, Option.some.injEq] at hf; subst hf
    exact ⟨z', by simp [Instr.fill], hz⟩
  | (i, x) :: r, qs, z, c, z', h, hz, hf => by
    simp only [coP] at h
    split at h
    · rename_i off n y l h1 h2 h3
      simp only [Option.some.injEq] at h; subst h
      simp only [evP, fillS] at hf
      split at hf
      · rename_i cs hcs
        obtain ⟨hb, hf⟩ := cond_some hf
        simp only [Bool.and_eq_true] at hb
        have hlen := Nat.eq_of_beq_eq_true hb.1
        have hle := Nat.le_of_ble_eq_true hb.2
        obtain ⟨vs, e1, hv, _⟩ := cellsOf_sound hcs (eval_coA h2 ht)
        have hvl := hv.length
        have hzl := hz.length
        obtain ⟨c', hc1, hc2⟩ := fill_sound ht hpl h3 ((hz.take off).append (hv.append (hz.drop (off + n)))) hf
        refine ⟨c', ?_, hc2⟩
        simp only [List.map_cons, Instr.fill, hpl i _ h1, e1]
        have hz1 : vs.length = n := by omega
        have : ¬ ((Array.mk vs).size ≠ n ∨ off + (Array.mk vs).size > (Array.mk z').size) := by simp; omega
        simp only [List.size_toArray, hz1, ne_eq, not_true_eq_false, decide_false, Bool.false_or, decide_eq_true_eq]
        rw [if_neg (by omega)]
        have hf2 := foldl_set vs z' off 0 (by omega)
        simp only [Nat.add_zero, hz1] at hf2
        rw [← hc1]
        congr 1
        rw [← hf2]
        simp []
      · simp at hf
    · simp at h
end
end Go.Sx

/- Operations, eighth part: structs, literal slices, slicing, make. -/
namespace Go.Sx

section
variable {P : Program} {A : Ann} {o : Oper} {s : SS} {Ω : Type} {k : SV → List Nat → SS → Option Ω} {out : Ω}

theorem run_zc {t : TypeId} {i : TypeInfo} {zv : Value} (hi : P.info? t = some i) (hz : i.zero = some zv) (w : World) : (zeroValue t).run P w = .ok zv w := by
  simp [zeroValue, typeInfo, hi, hz]

theorem mapM_fields (w : World) : ∀ (fs : List Field), (∀ f ∈ fs, ∃ i, P.info? f.type = some i) →
    (fs.mapM fun f => (do pure (f.offset, ← sizeOf f.type) : Sem (Nat × Nat))).run P w = .ok (fs.map fun f => (f.offset, szT P f.type)) w
  | [], _ => by simp
  | f :: fs, h => by
    simp only [List.mapM_cons, Sem.run_bind, run_szT w (h f (by simp)), Result.andThen_ok, Sem.run_pure, mapM_fields w fs fun g hg => h g (by simp [hg])]
    simp

theorem snd_bld_struct {t : TypeId} {ps : Array (Nat × Operand)} {fs : Array Field} {z : List SV} {qs : List (Nat × Nat × CA)} (ho : o.op = .build t ps) (hu : uT P t = .struct fs)
    (hz : zcT P t = some z) (hq : coP (fun i => (fs.toList[i]?).map fun f => (f.offset, szT P f.type)) ps.toList = some qs) (hfs : ∀ f ∈ fs.toList, ∃ i, P.info? f.type = some i)
    {env : Env Ω} (h : sop env A (.bld z qs) s k = some out) : PlainV P o s k out := by
  simp only [sop] at h
  split at h
  · rename_i c hc
    refine ⟨_, h, fun cx w a hg ht => ?_⟩
    obtain ⟨i, zv, c', hi, hzv, hcc, _, _, hr⟩ := zcT_sound hz
    obtain ⟨cs, h1, h2⟩ := fill_sound ht (pl' := fun i => (fs.toList.map fun f => (f.offset, szT P f.type))[i]?) (by
      intro i r hr; simpa using hr) hq (hr cx w).1 hc
    refine ⟨.agg ⟨cs⟩, ?_, by simp only [SRep]; exact ⟨cs, rfl, h2⟩⟩
    have hm : (fs.mapM fun f => (do pure (f.offset, ← sizeOf f.type) : Sem (Nat × Nat))).run P w = .ok (fs.toList.map fun f => (f.offset, szT P f.type)).toArray w := by
      rw [← Array.toArray_toList (xs := fs), List.mapM_toArray, Sem.run_map, mapM_fields w fs.toList hfs]; simp
    simp only [execOp, ho, Instr.build, Sem.run_bind, run_zc hi hzv, Result.andThen_ok, run_uT w (t := t) (by rw [hu]; simp), hu, hm, hcc]
    have e : (Array.map (fun x => (x.1, a.eval x.2)) ps).toList = ps.toList.map fun p => (p.1, a.eval p.2) := by simp
    simp only [List.getElem?_toArray, e, h1]
    simp
  · simp at h

theorem snd_bld_array {t e : TypeId} {n : Nat} {ps : Array (Nat × Operand)} {z : List SV} {qs : List (Nat × Nat × CA)} (ho : o.op = .build t ps) (hu : uT P t = .array n e)
    (hz : zcT P t = some z) (hq : coP (fun i => some (i * szT P e, szT P e)) ps.toList = some qs) (he : ∃ i, P.info? e = some i)
    {env : Env Ω} (h : sop env A (.bld z qs) s k = some out) : PlainV P o s k out := by
  simp only [sop] at h
  split at h
  · rename_i c hc
    refine ⟨_, h, fun cx w a hg ht => ?_⟩
    obtain ⟨i, zv, c', hi, hzv, hcc, _, _, hr⟩ := zcT_sound hz
    obtain ⟨cs, h1, h2⟩ := fill_sound ht (pl' := fun i => some (i * szT P e, szT P e)) (fun i r hr => hr) hq (hr cx w).1 hc
    refine ⟨.agg ⟨cs⟩, ?_, by simp only [SRep]; exact ⟨cs, rfl, h2⟩⟩
    have e' : (Array.map (fun x => (x.1, a.eval x.2)) ps).toList = ps.toList.map fun p => (p.1, a.eval p.2) := by simp
    simp [execOp, ho, Instr.build, run_zc hi hzv, run_uT w (t := t) (by rw [hu]; simp), hu, run_szT w he, hcc, h1]
  · simp at h

theorem rep_sound {cx : Cx} {w : World} {z : List SV} {z' : List Value} (hr : SRepL cx w z z') : ∀ n, SRepL cx w (rep z n) ((List.replicate n z').flatten)
  | 0 => by simp [rep, SRepL]
  | n + 1 => by simp only [rep, List.replicate_succ, List.flatten_cons]; exact hr.append (rep_sound hr n)

theorem made_eq (z' : List Value) (hz : z' ≠ []) (n : Nat) : ((Array.range (n * z'.length)).map fun i => (Array.mk z')[i % (Array.mk z').size]!) = ⟨(List.replicate n z').flatten⟩ := by
  apply Array.ext'
  simp only [Array.toList_map, Array.toList_range]
  induction n with
  | zero => simp
  | succ n ih =>
    rw [List.replicate_succ', List.flatten_append, Nat.add_mul, Nat.one_mul, List.range_add, List.map_append, ih]
    congr 1
    simp only [List.map_map, List.flatten_cons, List.flatten_nil, List.append_nil, List.size_toArray]
    apply List.ext_getElem
    · simp
    · intro i h1 h2
      simp only [List.length_map, List.length_range] at h1
      simp [Nat.mod_eq_of_lt h1, h1]

theorem snd_bsl {t e : TypeId} {n : Nat} {ps : Array (Nat × Operand)} {z : List SV} {qs : List (Nat × Nat × CA)} (ho : o.op = .buildSlice t n ps) (hu : uT P t = .slice e)
    (hz : zcT P e = some z) (hq : coP (fun i => some (i * szT P e, szT P e)) ps.toList = some qs) (hn : n * szT P e ≤ 65536) (hs0 : szT P e ≠ 0)
    {env : Env Ω} (h : sop env A (.bsl e (szT P e) n z qs) s k = some out) : PlainE P o s k out := by
  simp only [sop] at h
  split at h
  · rename_i c hc
    refine ⟨_, _, _, h, OpOK0.new fun cx w a hg ht => ?_, .new _ _⟩
    obtain ⟨i, zv, c', hi, hzv, hcc, hzl, hsz, hr⟩ := zcT_sound hz
    have hcl := (hr cx w).1.length
    obtain ⟨cs, h1, h2⟩ := fill_sound ht (pl' := fun i => some (i * szT P e, szT P e)) (fun i r hr => hr) hq (rep_sound (hr cx w).1 n) hc
    have hne : c' ≠ [] := by intro e0; apply hs0; rw [← hzl, hcl, e0]; rfl
    have hmade : ((Array.range (n * szT P e)).map fun i => zv.cells[i % zv.cells.size]!) = ⟨(List.replicate n c').flatten⟩ := by
      have := made_eq c' hne n
      rw [← hcl, hzl] at this
      rw [hcc]; exact this
    have e' : (Array.map (fun x => (x.1, a.eval x.2)) ps).toList = ps.toList.map fun p => (p.1, a.eval p.2) := by simp
    refine ⟨.slice (some (ad w.heap.size 0)) n n, w, .cells ⟨cs⟩ e, 0, 0, false, 0, ⟨rfl, rfl, rfl, _, _, rfl⟩, ?_, fun cx' w' e1 e2 gr => ?_⟩
    · have h24 : ¬ (n * szT P e > 2 ^ 24) := by omega
      by_cases h0 : n = 0
      · subst h0
        simp only [Nat.zero_mul, List.replicate_zero, List.flatten_nil] at h1 hmade
        simp [execOp, ho, Instr.buildSlice, run_uT w (t := t) (by rw [hu]; simp), hu, run_szT w ⟨i, hi⟩, newRow, ad]
        rw [show (Array.map (fun _ => (default : Value)) (Array.range 0)) = ⟨[]⟩ by simp, h1]
        simp
      · have hns : ¬ (n = 0 ∨ szT P e = 0) := by omega
        simp [execOp, ho, Instr.buildSlice, run_uT w (t := t) (by rw [hu]; simp), hu, run_szT w ⟨i, hi⟩, newRow, ad, run_zc hi hzv]
        rw [if_neg (by omega)]
        simp [hmade, h1]
        intro h9
        exact absurd (Nat.mul_eq_zero.1 h9) hns
    · refine ⟨⟨e, cs, by subst e1; subst e2; simp [Cx.ext], h2.grow gr⟩, ?_⟩
      subst e1; subst e2
      simp only [SRep, Cx.ext, hg.n]; simp [← hg.n]
  · simp at h
end
end Go.Sx

/- Operations, ninth part: slicing, make, append. -/
namespace Go.Sx

section
variable {P : Program} {A : Ann} {o : Oper} {s : SS} {Ω : Type} {k : SV → List Nat → SS → Option Ω} {out : Ω}

def optV (v : Option Value) (d a : Int) : Prop := (v = none ∧ a = d) ∨ ∃ k, v = some (.int k a)
def optW (v : Option Value) (c : Option Int) : Prop := (v = none ∧ c = none) ∨ ∃ k a, v = some (.int k a) ∧ c = some a

theorem evO_I {x : Option Operand} {y : Option CA} (h : coO x = some y) {cx : Cx} {w : World} {a : Act} {t : List (Nat × SV)} (ht : TRep cx w t a.tmps) {n : Nat} {i : Int} (he : optI n (evO t y) = some i) : optV (x.map a.eval) n i := by
  cases x with
  | none => simp only [coO, Option.some.injEq] at h; subst h; simp only [evO, optI, Option.some.injEq] at he; exact .inl ⟨rfl, he.symm⟩
  | some x =>
    simp only [coO, Option.map_eq_some_iff] at h
    obtain ⟨y', hy, rfl⟩ := h
    simp only [evO] at he
    have := eval_coA hy ht
    generalize ev t y' = q at he this
    unfold optI at he
    split at he
    · simp at *
    · rename_i k i' e
      simp only [Option.some.injEq] at he e; subst he; subst e
      exact .inr ⟨k, by simp [int_of this]⟩
    · simp at he

theorem evO_C {x : Option Operand} {y : Option CA} (h : coO x = some y) {cx : Cx} {w : World} {a : Act} {t : List (Nat × SV)} (ht : TRep cx w t a.tmps) {i : Option Int} (he : optC (evO t y) = some i) : optW (x.map a.eval) i := by
  cases x with
  | none => simp only [coO, Option.some.injEq] at h; subst h; simp only [evO, optC, Option.some.injEq] at he; exact .inl ⟨rfl, he.symm⟩
  | some x =>
    simp only [coO, Option.map_eq_some_iff] at h
    obtain ⟨y', hy, rfl⟩ := h
    simp only [evO] at he
    have := eval_coA hy ht
    generalize ev t y' = q at he this
    unfold optC at he
    split at he
    · simp at *
    · rename_i k i' e
      simp only [Option.some.injEq] at he e; subst he; subst e
      exact .inr ⟨k, _, by simp [int_of this], rfl⟩
    · simp at he

theorem run_bound {k : IntKind} {x : Int} {y : Nat} {c : BoundsCode} (w : World) (h0 : 0 ≤ x) (h1 : x ≤ (y : Int)) : (Instr.sliceBound (.int k x) y c).run P w = .ok x.toNat w := by
  simp [Instr.sliceBound, asIntOf, h0, h1]

theorem run_bounds {isS : Bool} {len cap : Nat} {lo hi mx : Option Value} {a b : Int} {c : Option Int} (w : World) (hl : optV lo 0 a) (hh : optV hi len b) (hm : optW mx c) (hlc : len ≤ cap) (hmh : mx ≠ none → hi ≠ none)
    (hb : okB a b len c = true) : ∃ m : Nat, (Instr.sliceBounds isS len cap lo hi mx).run P w = .ok (a.toNat, b.toNat, m) w ∧ b.toNat ≤ m ∧ m ≤ cap := by
  simp only [okB, Bool.and_eq_true, decide_eq_true_eq] at hb
  obtain ⟨b1, b2, b3, b4⟩ := hb
  rcases hm with ⟨rfl, rfl⟩ | ⟨k3, x3, rfl, rfl⟩
  · refine ⟨cap, ?_, by omega, Nat.le_refl _⟩
    rcases hl with ⟨rfl, rfl⟩ | ⟨k1, rfl⟩ <;> rcases hh with ⟨rfl, rfl⟩ | ⟨k2, rfl⟩
    · simp [Instr.sliceBounds]
    · simp [Instr.sliceBounds, run_bound w (show (0 : Int) ≤ b by omega) (show b ≤ (cap : Int) by omega)]
    · simp [Instr.sliceBounds, run_bound w b1 b2]
    · simp [Instr.sliceBounds, run_bound w (show (0 : Int) ≤ b by omega) (show b ≤ (cap : Int) by omega), run_bound w b1 (show a ≤ ((b.toNat : Nat) : Int) by omega)]
  · simp only [beq_iff_eq] at b4
    subst b4
    refine ⟨x3.toNat, ?_, Nat.le_refl _, by omega⟩
    rcases hh with ⟨rfl, rfl⟩ | ⟨k2, rfl⟩
    · exact absurd rfl (hmh (by simp))
    rcases hl with ⟨rfl, rfl⟩ | ⟨k1, rfl⟩
    · simp [Instr.sliceBounds, run_bound w (show (0 : Int) ≤ x3 by omega) (show x3 ≤ (cap : Int) by omega), run_bound w (show (0 : Int) ≤ x3 by omega) (show x3 ≤ ((x3.toNat : Nat) : Int) by omega)]
    · simp [Instr.sliceBounds, run_bound w (show (0 : Int) ≤ x3 by omega) (show x3 ≤ (cap : Int) by omega), run_bound w (show (0 : Int) ≤ x3 by omega) (show x3 ≤ ((x3.toNat : Nat) : Int) by omega), run_bound w b1 (show a ≤ ((x3.toNat : Nat) : Int) by omega)]

theorem snd_slc {t : TypeId} {z : Nat} {x : Operand} {lo hi mx : Option Operand} {x' : CA} {lo' hi' mx' : Option CA} (ho : o.op = .slice t x lo hi mx) (hz : elT P t = some z) (hx : coA x = some x') (hlo : coO lo = some lo') (hhi : coO hi = some hi') (hmx : coO mx = some mx')
    (hmh : mx ≠ none → hi ≠ none) {env : Env Ω} (h : sop env A (.slc z x' lo' hi' mx') s k = some out) : PlainV P o s k out := by
  simp only [sop, slcS] at h
  have hmh' : ∀ a : Act, mx.map a.eval ≠ none → hi.map a.eval ≠ none := by intro a; cases mx <;> cases hi <;> simp at hmh ⊢
  split at h
  · rename_i kd l ex
    split at h
    · rename_i a b c ea eb ec
      have hA := cond_some h
      clear h
      have h1 := Nat.eq_of_beq_eq_true hA.1
      have hB := br_some hA.2
      subst h1
      rcases hB with ⟨hb, h⟩ | ⟨_, h⟩
      · refine ⟨_, h, fun cx w ac hg ht => ?_⟩
        have hv := eval_coA hx ht
        rw [ex] at hv
        simp only [SRep, DRep] at hv
        obtain ⟨p, cap, ev', hc, hl⟩ := hv
        obtain ⟨m, hr, hm1, hm2⟩ := run_bounds (P := P) (isS := true) w (evO_I hlo ht ea) (evO_I hhi ht eb) (evO_C hmx ht ec) hc (hmh' ac) hb
        have hb' := hb
        simp only [okB, Bool.and_eq_true, decide_eq_true_eq] at hb'
        obtain ⟨e, hu, hs⟩ : ∃ e, uT P t = .slice e ∧ szT P e = 1 := by
          unfold elT at hz
          split at hz
          · rename_i e he
            refine ⟨e, he, ?_⟩
            cases hq : Nat.beq (szT P e) 0 <;> simp [hq] at hz; exact hz
          · simp at hz
          · simp at hz
        refine ⟨.slice (if m = a.toNat then p else p.map (·.add (a.toNat * 1))) (b.toNat - a.toNat) (m - a.toNat), ?_, ?_⟩
        · simp [execOp, ho, Instr.sliceAt, ev', run_uT w (t := t) (by rw [hu]; simp), hu, Instr.slice, hr, run_szT w (t := e) (by obtain ⟨i, hi, _⟩ := info_of_sz (t := e) (by rw [hs]; decide); exact ⟨i, hi⟩), hs]
        · simp only [SRep, DRep]
          have hlen : ((l.take b.toNat).drop a.toNat).length = b.toNat - a.toNat := by simp; omega
          refine ⟨_, _, by rw [hlen], by rw [hlen]; omega, fun hne => ?_⟩
          have hlt : a.toNat < b.toNat := by
            have : ((l.take b.toNat).drop a.toNat).length ≠ 0 := fun e0 => hne (List.length_eq_zero_iff.1 e0)
            omega
          obtain ⟨blk, off, rfl, hf, hcell⟩ := hl (by intro e0; subst e0; simp at hb'; omega)
          refine ⟨blk, off + a.toNat, ?_, hf, fun i hi => ?_⟩
          · rw [if_neg (by omega)]; simp [addr_add]
          · rw [hlen] at hi
            rw [Nat.add_assoc, hcell (a.toNat + i) (by omega)]
            simp only [List.getD_eq_getElem?_getD, List.getElem?_drop, List.getElem?_take]
            rw [if_pos (by omega)]
      · simp at h
    · simp at h
  · rename_i sz n f ex
    split at h
    · rename_i a b c ea eb ec
      have hA := cond_some h
      clear h
      have h1 := Nat.eq_of_beq_eq_true (Bool.and_eq_true _ _ ▸ hA.1).1
      have h10 : z ≠ 0 := by
        have := (Bool.and_eq_true _ _ ▸ hA.1).2
        intro e0; subst e0; simp at this
      have hB := br_some hA.2
      subst h1
      rcases hB with ⟨hb, h⟩ | ⟨_, h⟩
      · refine ⟨_, h, fun cx w ac hg ht => ?_⟩
        have hv := eval_coA hx ht
        rw [ex] at hv
        simp only [SRep, DRep] at hv
        obtain ⟨p, cap, ev', hc, hl⟩ := hv
        obtain ⟨m, hr, hm1, hm2⟩ := run_bounds (P := P) (isS := true) w (evO_I hlo ht ea) (evO_I hhi ht eb) (evO_C hmx ht ec) hc (hmh' ac) hb
        have hb' := hb
        simp only [okB, Bool.and_eq_true, decide_eq_true_eq] at hb'
        rcases (show (∃ e, uT P t = .slice e ∧ szT P e = z ∧ z ≠ 0) ∨ uT P t = .string by
          unfold elT at hz
          split at hz
          · rename_i e he
            refine .inl ⟨e, he, ?_⟩
            cases hq : Nat.beq (szT P e) 0 <;> simp [hq] at hz
            exact ⟨hz, by intro e0; rw [← hz] at e0; rw [e0] at hq; simp at hq⟩
          · rename_i he; exact .inr he
          · simp at hz) with ⟨e, hu, hs, hz0⟩ | hu
        · refine ⟨.slice (if m = a.toNat then p else p.map (·.add (a.toNat * z))) (b.toNat - a.toNat) (m - a.toNat), ?_, ?_⟩
          · simp [execOp, ho, Instr.sliceAt, ev', run_uT w (t := t) (by rw [hu]; simp), hu, Instr.slice, hr, run_szT w (t := e) (by obtain ⟨i, hi, _⟩ := info_of_sz (t := e) (by rw [hs]; exact hz0); exact ⟨i, hi⟩), hs]
          · simp only [SRep, DRep]
            refine ⟨_, _, rfl, by omega, fun hne => ?_⟩
            obtain ⟨blk, off, rfl, hf, hcell⟩ := hl (by omega)
            refine ⟨blk, off + a.toNat * z, ?_, hf, fun i hi j hj => ?_⟩
            · rw [if_neg (by omega)]; simp [addr_add]
            · obtain ⟨v, hv1, hv2⟩ := hcell (i + a.toNat) (by omega) j hj
              refine ⟨v, ?_, hv2⟩
              rw [show off + a.toNat * z + (i * z + j) = off + ((i + a.toNat) * z + j) by rw [Nat.add_mul]; omega]; exact hv1
        · exfalso
          unfold elT at hz
          rw [hu] at hz
          simp at hz
          exact h10 hz.symm
      · simp at h
    · simp at h
  · rename_i str ex
    split at h
    · rename_i a b ea eb ec
      have hA := cond_some h
      clear h
      have h1 := Nat.eq_of_beq_eq_true hA.1
      have hB := br_some hA.2
      subst h1
      rcases hB with ⟨hb, h⟩ | ⟨_, h⟩
      · refine ⟨_, h, fun cx w ac hg ht => ?_⟩
        have hv := str_of (ex ▸ eval_coA hx ht)
        have hC := evO_C hmx ht ec
        have hnone : mx.map ac.eval = none := by
          rcases hC with ⟨h9, _⟩ | ⟨_, _, _, h9⟩
          · exact h9
          · simp at h9
        obtain ⟨m, hr, hm1, hm2⟩ := run_bounds (P := P) (isS := false) (cap := str.size) w (evO_I hlo ht ea) (evO_I hhi ht eb) hC (Nat.le_refl _) (hmh' ac) hb
        rw [hnone] at hr
        have hu : uT P t = .string := by
          unfold elT at hz
          split at hz
          · rename_i e he
            cases hq : Nat.beq (szT P e) 0 <;> simp [hq] at hz
            rw [hz] at hq; simp at hq
          · rename_i he; exact he
          · simp at hz
        refine ⟨.string (str.extract a.toNat b.toNat), ?_, SRep.str⟩
        simp [execOp, ho, Instr.sliceAt, hv, run_uT w (t := t) (by rw [hu]; simp), hu, Instr.slice, hr, hnone]
      · simp at h
    · simp at h
  · simp at h
end
end Go.Sx

/- Operations, tenth part: make and append. -/
namespace Go.Sx

section
variable {P : Program} {A : Ann} {o : Oper} {s : SS} {Ω : Type} {k : SV → List Nat → SS → Option Ω} {out : Ω}

/-! ### forgetting what mentions a loc -/
theorem scrubL_rep {cx : Cx} {w : World} (l : Nat) : ∀ {c : List SV} {c' : List Value}, SRepL cx w c c' → SRepL cx w (scrubL l c) c'
  | [], [], _ => by simp [scrubL, SRepL]
  | x :: r, v :: vs, h => by
    simp only [SRepL] at h
    simp only [scrubL, SRepL]
    refine ⟨?_, scrubL_rep l h.2⟩
    cases ment (Nat.beq l) x
    · exact h.1
    · simp [SRep]
  | [], _ :: _, h => by simp [SRepL] at h
  | _ :: _, [], h => by simp [SRepL] at h

theorem scrubL_ment (l : Nat) : ∀ c : List SV, mentL (Nat.beq l) (scrubL l c) = false
  | [] => by simp [scrubL, mentL]
  | x :: r => by
    simp only [scrubL, mentL, scrubL_ment l r, Bool.or_false]
    cases h : ment (Nat.beq l) x
    · simpa using h
    · simp [ment]

theorem scrubE_rep {cx : Cx} {w : World} (l : Nat) : ∀ {c : List (Value × SV)} {c' : List (Value × Value)}, SRepE cx w c c' → SRepE cx w (scrubE l c) c'
  | [], [], _ => by simp [scrubE, SRepE]
  | (q, x) :: r, (q', v) :: vs, h => by
    simp only [SRepE] at h
    simp only [scrubE, SRepE]
    refine ⟨h.1, ?_, scrubE_rep l h.2.2⟩
    cases ment (Nat.beq l) x
    · exact h.2.1
    · simp [SRep]
  | [], _ :: _, h => by simp [SRepE] at h
  | _ :: _, [], h => by simp [SRepE] at h

theorem scrubE_ment (l : Nat) : ∀ c : List (Value × SV), mentE (Nat.beq l) (scrubE l c) = false
  | [] => by simp [scrubE, mentE]
  | (_, x) :: r => by
    simp only [scrubE, mentE, scrubE_ment l r, Bool.or_false]
    cases h : ment (Nat.beq l) x
    · simpa using h
    · simp [ment]

theorem scrubO_rep {cx : Cx} {w : World} (l m : Nat) {o : SO} (h : ORep cx w m o) : ORep cx w m (scrubO l o) := by
  cases o with
  | cells t c => obtain ⟨t', c', h1, h2⟩ := h; exact ⟨t', c', h1, scrubL_rep l h2⟩
  | maps es => obtain ⟨e, c, h1, h2⟩ := h; exact ⟨e, c, h1, scrubE_rep l h2⟩
  | _ => exact h

theorem scrubO_ment (l : Nat) (o : SO) : mentO (Nat.beq l) (scrubO l o) = false := by
  cases o <;> simp [scrubO, mentO, scrubL_ment, scrubE_ment]

theorem scrubH_length (l : Nat) : ∀ h : SH, (scrubH l h).length = h.length
  | [] => rfl
  | _ :: r => by simp [scrubH, scrubH_length l r]

theorem scrubH_get (l : Nat) : ∀ (h : SH) (m : Nat), hget (scrubH l h) m = scrubO l (hget h m)
  | [], m => by simp [scrubH, hget, scrubO]
  | o :: r, 0 => by simp [scrubH, hget]
  | o :: r, m + 1 => by
    have := scrubH_get l r m
    simpa [scrubH, hget] using this

theorem scrub_liv {cx : Cx} {h : SH} {l m : Nat} : liv cx (scrubH l h) m ↔ liv cx h m := by
  unfold liv
  rw [scrubH_get]
  cases hget h m <;> simp [scrubO]

theorem scrubT_mem {l : Nat} : ∀ {t : List (Nat × SV)} {i : Nat} {x : SV}, (i, x) ∈ scrubT l t → (i, x) ∈ t ∧ ment (Nat.beq l) x = false
  | (k, v) :: r, i, x, h => by
    simp only [scrubT] at h
    cases hm : ment (Nat.beq l) v with
    | true =>
      simp only [hm, cond_true] at h
      obtain ⟨h1, h2⟩ := scrubT_mem h
      exact ⟨by simp [h1], h2⟩
    | false =>
      simp only [hm, cond_false, List.mem_cons, Prod.mk.injEq] at h
      rcases h with ⟨rfl, rfl⟩ | h
      · exact ⟨by simp, hm⟩
      · obtain ⟨h1, h2⟩ := scrubT_mem h
        exact ⟨by simp [h1], h2⟩

theorem scrubT_sub {l : Nat} : ∀ {t : List (Nat × SV)}, (scrubT l t).Sublist t
  | [] => .slnil
  | (k, v) :: r => by
    simp only [scrubT]
    cases hm : ment (Nat.beq l) v with
    | true => exact (scrubT_sub (t := r)).cons _
    | false => exact (scrubT_sub (t := r)).cons_cons _

theorem scrubTs_sub : ∀ {sc : List Nat} {t : List (Nat × SV)}, (scrubTs t sc).Sublist t
  | [], t => .refl t
  | l :: r, t => (scrubTs_sub (sc := r)).trans scrubT_sub

theorem TRep.scrub {cx cx' : Cx} {w w' : World} {l : Nat} (g : Grow (Nat.beq l) cx w cx' w') {t : List (Nat × SV)} {tm : Array Value} (h : TRep cx w t tm) : TRep cx' w' (scrubT l t) tm :=
  fun i x hx => by
    obtain ⟨h1, h2⟩ := scrubT_mem hx
    exact ⟨(h i x h1).1, SRep.mono g x _ h2 (h i x h1).2⟩

/-- A loc gets a new meaning; all that mentioned it has been forgotten. -/
theorem Gam.renew {cx cx' : Cx} {h : SH} {w w' : World} {l : Nat} {o' : SO} (g : Gam cx h w) (hl : l < h.length) (gr : Grow (Nat.beq l) cx w cx' w') (hn : cx'.n = cx.n)
    (hfz : ∀ b, cx'.fz b → cx.fz b)
    (hblk : ∀ m, m ≠ l → liv cx h m → w'.heap[cx.th m]? = w.heap[cx.th m]?)
    (hobj : ORep cx' w' l o')
    (hnew : liv cx' ((scrubH l h).set l o') l → cx'.th l < w'.heap.size ∧ ¬ cx.hd (cx'.th l) ∧ ∀ m, m ≠ l → liv cx h m → cx'.th l ≠ cx.th m) :
    Gam cx' ((scrubH l h).set l o') w' := by
  have hlt : l < (scrubH l h).length := by rw [scrubH_length]; exact hl
  have at' : ∀ m, m < cx.n → m ≠ l → cx'.th m = cx.th m ∧ cx'.nl m = cx.nl m := by
    intro m hm hne
    obtain ⟨_, h2, _, _, h5, _⟩ := gr.loc m hm (Bool.eq_false_iff.2 (fun e => hne (Nat.eq_of_beq_eq_true e).symm))
    exact ⟨h2, h5⟩
  have lv : ∀ m, m ≠ l → liv cx' ((scrubH l h).set l o') m → liv cx h m := by
    intro m hne hm
    have hlm : m < h.length := by have := lt_of_liv hm; rw [List.length_set, scrubH_length] at this; exact this
    have := (at' m (g.n ▸ hlm) hne).2
    rw [← scrub_liv (l := l)]
    simpa [liv, hget_set_ne hne, this] using hm
  refine ⟨by rw [hn, g.n, List.length_set, scrubH_length], fun m => ?_, fun m hm => ?_, fun m hm hf => ?_, fun a b ha hb e => ?_, fun b hb => Nat.lt_of_lt_of_le (g.fzlt b (hb.imp (hfz b) (fun h => gr.fr ▸ h))) gr.size, fun b hb hf => g.dj b (hfz b hb) (gr.fr ▸ hf)⟩
  · by_cases hne : m = l
    · subst hne; rw [hget_set_eq hlt]; exact hobj
    · rw [hget_set_ne hne, scrubH_get]
      rcases Nat.lt_or_ge m h.length with hm | hm
      · have hp : Nat.beq l m = false := Bool.eq_false_iff.2 (fun e => hne (Nat.eq_of_beq_eq_true e).symm)
        refine ORep.mono gr (g.n ▸ hm) hp _ (scrubO_ment l _) ?_ (scrubO_rep l m (g.obj m))
        have hb : liv cx h m → w'.heap[cx.th m]? = w.heap[cx.th m]? := hblk m hne
        refine ⟨fun xs t k e hnl => hb ?_, fun t sz n f e hnl => hb ?_, fun h1 h2 h3 => hb ?_⟩
        · rw [← scrub_liv (l := l)]; simp [liv, scrubH_get, e, hnl]
        · rw [← scrub_liv (l := l)]; simp [liv, scrubH_get, e, hnl]
        · rw [← scrub_liv (l := l)]
          cases hq : scrubO l (hget h m) with
          | dead => exact absurd hq h3
          | rowi t k xs => exact absurd hq (h1 xs t k)
          | row t sz n f => exact absurd hq (h2 t sz n f)
          | _ => simp [liv, scrubH_get, hq]
      · rw [hget_ge hm]; simp [scrubO, ORep]
  · by_cases hne : m = l
    · subst hne; exact (hnew hm).1
    · have h1 := lv m hne hm
      rw [(at' m (g.n ▸ lt_of_liv h1) hne).1]
      exact Nat.lt_of_lt_of_le (g.lt m h1) gr.size
  · by_cases hne : m = l
    · subst hne; exact (hnew hm).2.1 (hf.imp (hfz _) (fun h => gr.fr ▸ h))
    · have h1 := lv m hne hm
      rw [(at' m (g.n ▸ lt_of_liv h1) hne).1] at hf
      exact g.own m h1 (hf.imp (hfz _) (fun h => gr.fr ▸ h))
  · by_cases h1 : a = l <;> by_cases h2 : b = l
    · rw [h1, h2]
    · subst h1
      have h3 := lv b h2 hb
      rw [(at' b (g.n ▸ lt_of_liv h3) h2).1] at e
      exact absurd e ((hnew ha).2.2 b h2 h3)
    · subst h2
      have h3 := lv a h1 ha
      rw [(at' a (g.n ▸ lt_of_liv h3) h1).1] at e
      exact absurd e.symm ((hnew hb).2.2 a h1 h3)
    · have h3 := lv a h1 ha
      have h4 := lv b h2 hb
      rw [(at' a (g.n ▸ lt_of_liv h3) h1).1, (at' b (g.n ▸ lt_of_liv h4) h2).1] at e
      exact g.inj a b h3 h4 e

/-- An object is given up (its block is nobody's from now on). -/
theorem Gam.drop {cx : Cx} {h : SH} {w : World} (g : Gam cx h w) (l : Nat) : Gam cx (h.set l .dead) w := by
  have hlv : ∀ m, liv cx (h.set l .dead) m → m ≠ l ∧ liv cx h m := by
    intro m hm
    by_cases e : m = l
    · subst e
      rcases Nat.lt_or_ge m h.length with h1 | h1
      · simp [liv, hget_set_eq h1] at hm
      · simp [liv, hget_ge (h := h.set m .dead) (l := m) (by simpa using h1)] at hm
    · exact ⟨e, by simpa [liv, hget_set_ne e] using hm⟩
  refine ⟨by simp [g.n], fun m => ?_, fun m hm => g.lt m (hlv m hm).2, fun m hm => g.own m (hlv m hm).2, fun a b ha hb e => g.inj a b (hlv a ha).2 (hlv b hb).2 e, g.fzlt, g.dj⟩
  by_cases e : m = l
  · subst e
    rcases Nat.lt_or_ge m h.length with h1 | h1
    · rw [hget_set_eq h1]; trivial
    · rw [hget_ge (by simpa using h1)]; trivial
  · rw [hget_set_ne e]; exact g.obj m

/-- One more loc, for a block that is nobody's. -/
theorem Gam.take {cx : Cx} {h : SH} {w : World} (g : Gam cx h w) (so : SO) (b ln cp : Nat) (nl : Bool) (rs : Nat)
    (ho : ORep (cx.ext b ln cp nl rs) w cx.n so) (hb : liv (cx.ext b ln cp nl rs) (h ++ [so]) cx.n → b < w.heap.size ∧ ¬ cx.hd b ∧ ∀ m, liv cx h m → b ≠ cx.th m) :
    Gam (cx.ext b ln cp nl rs) (h ++ [so]) w ∧ Grow0 cx w (cx.ext b ln cp nl rs) w := by
  have gr : Grow0 cx w (cx.ext b ln cp nl rs) w := ⟨fun _ h => h, fun _ _ => rfl, Nat.le_refl _, fun l hl _ => by
    have hne : l ≠ cx.n := Nat.ne_of_lt hl
    simp [Cx.ext, upd_ne, hne]; omega, rfl, .refl _⟩
  refine ⟨?_, gr⟩
  have hn := g.n
  have hlv : ∀ l, l ≠ cx.n → liv (cx.ext b ln cp nl rs) (h ++ [so]) l → liv cx h l := by
    intro l hl hv
    have hlt := lt_of_liv hv
    simp only [List.length_append, List.length_cons, List.length_nil] at hlt
    have : l < h.length := by omega
    simpa [liv, hget_append_lt this, Cx.ext, upd_ne, hl] using hv
  refine ⟨by simp [Cx.ext, hn], fun l => ?_, fun l hv => ?_, fun l hv => ?_, fun l m hl hm e => ?_, fun b hb => g.fzlt b hb, g.dj⟩
  · rcases Nat.lt_trichotomy l h.length with hl | hl | hl
    · rw [hget_append_lt hl]
      exact ORep.keep (h := h) gr (hn ▸ hl) _ rfl (fun _ => rfl) (g.obj l)
    · subst hl; rw [hget_append_eq, ← hn]; exact ho
    · rw [hget_ge (by simp; omega)]; trivial
  · by_cases hl : l = cx.n
    · subst hl; simpa [Cx.ext] using (hb hv).1
    · have := g.lt l (hlv l hl hv)
      simpa [Cx.ext, upd_ne, hl] using this
  · by_cases hl : l = cx.n
    · subst hl; simpa [Cx.ext, Cx.hd] using (hb hv).2.1
    · have := g.own l (hlv l hl hv)
      simpa [Cx.ext, upd_ne, hl, Cx.hd] using this
  · by_cases h1 : l = cx.n <;> by_cases h2 : m = cx.n
    · rw [h1, h2]
    · subst h1; simp [Cx.ext, upd_ne, h2] at e; exact absurd e ((hb hl).2.2 m (hlv m h2 hm))
    · subst h2; simp [Cx.ext, upd_ne, h1] at e; exact absurd e.symm ((hb hm).2.2 l (hlv l h1 hl))
    · exact g.inj l m (hlv l h1 hl) (hlv m h2 hm) (by simpa [Cx.ext, upd_ne, h1, h2] using e)
end
end Go.Sx

/- Operations, eleventh part: append. -/
namespace Go.Sx

section
variable {P : Program} {A : Ann} {o : Oper} {s : SS} {Ω : Type} {k : SV → List Nat → SS → Option Ω} {out : Ω}

theorem DRep.one {fz : Nat → Prop} {w : World} {x : DV} {u : Value} (h : DRep fz w x u) : u.oneCell' = true := by
  cases x with
  | v y => obtain ⟨rfl, hc⟩ := h; cases u <;> simp_all [cellV, Value.oneCell']
  | ints k l => obtain ⟨a, c, rfl, _⟩ := h; rfl
  | sl sz n f => obtain ⟨a, c, rfl, _⟩ := h; rfl

/-- A slice value with its cells. -/
structure Src (w : World) (sz m : Nat) (x : Value) (bb : Option Addr) (cc : Nat) (l : List Value) : Prop where
  val : x = .slice bb m cc
  len : l.length = m * sz
  one : ∀ v ∈ l, v.oneCell' = true
  cell : ∀ b, bb = some b → ∀ j v, l[j]? = some v → w.cell? (b.add j) = some v
  nil : bb = none → l = []

theorem Src.first {w : World} {sz m : Nat} {x : Value} {bb : Option Addr} {cc : Nat} {l : List Value} (h : Src w sz m x bb cc l) : (Builtin.firstCells sz m x).run P w = .ok ⟨l⟩ w := by
  rw [h.val]
  cases bb with
  | none => rw [h.nil rfl, run_firstCells_none]
  | some b => rw [run_firstCells_some (P := P) w sz m b m cc l h.len (h.cell b rfl)]

theorem Src.firstD {w w' : World} {sz m : Nat} {x : Value} {bb : Option Addr} {cc : Nat} {l : List Value} (h : Src w sz m x bb cc l) (hh : w'.heap = w.heap) : (Builtin.firstCells sz m x).run P w' = .ok ⟨l⟩ w' := by
  refine Src.first ⟨h.val, h.len, h.one, fun b e j v hv => ?_, h.nil⟩
  have := h.cell b e j v hv
  simpa [World.cell?, hh] using this

/-- A row object's content as cells. -/
def Holds (fz : Nat → Prop) (w : World) (sz N : Nat) (l : List Value) : SO → Prop
  | .rowi _ k xs => sz = 1 ∧ xs.length = N ∧ l = xs.map (.int k)
  | .row _ sz' n f => sz' = sz ∧ n = N ∧ l.length = N * sz ∧ ∀ i, i < N → ∀ j, j < sz → ∃ v, l[i * sz + j]? = some v ∧ DRep fz w (f i j) v
  | _ => False

theorem Holds.length {fz : Nat → Prop} {w : World} {sz N : Nat} {l : List Value} {so : SO} (h : Holds fz w sz N l so) : l.length = N * sz := by
  cases so with
  | rowi t k xs => obtain ⟨rfl, rfl, rfl⟩ := h; simp
  | row t sz' n f => exact h.2.2.1
  | _ => exact h.elim

theorem Holds.mono {fz fz' : Nat → Prop} {w w' : World} (hf : ∀ b, fz b → fz' b) (hs : ∀ b, fz b → w'.heap[b]? = w.heap[b]?) {sz N : Nat} {l : List Value} {so : SO} (h : Holds fz w sz N l so) : Holds fz' w' sz N l so := by
  cases so with
  | rowi t k xs => exact h
  | row t sz' n f =>
    obtain ⟨h1, h2, h3, h4⟩ := h
    refine ⟨h1, h2, h3, fun i hi j hj => ?_⟩
    obtain ⟨v, h5, h6⟩ := h4 i hi j hj
    exact ⟨v, h5, DRep.mono hf hs _ _ h6⟩
  | _ => exact h.elim

theorem ORep.row_of {cx : Cx} {w : World} {l : Nat} {so : SO} {sz N : Nat} {cells : List Value} (h : Holds cx.fz w sz N cells so) (hl : cx.ln l = N) (hr : cx.rs l = sz) (hc : N ≤ cx.cp l)
    (hn : cx.nl l = true → cx.cp l = 0) (hb : cx.nl l = false → ∃ t c', w.heap[cx.th l]? = some (.cells c' t (0, 0)) ∧ c'.size = cx.cp l * sz ∧ c'.toList.take (N * sz) = cells) : ORep cx w l so := by
  have get : ∀ {c' : Array Value} {i : Nat}, c'.toList.take (N * sz) = cells → i < N * sz → c'[i]? = cells[i]? := by
    intro c' i e hi
    rw [← e, List.getElem?_take, if_pos hi]; simp
  cases so with
  | rowi t k xs =>
    obtain ⟨rfl, rfl, rfl⟩ := h
    refine ⟨hl, hr, hc, hn, fun e => ?_⟩
    obtain ⟨t', c', h1, h2, h3⟩ := hb e
    refine ⟨t', c', h1, by simpa using h2, fun i hi => ?_⟩
    rw [get h3 (by omega)]
    simp [List.getD_eq_getElem?_getD, hi]
  | row t sz' n f =>
    obtain ⟨rfl, rfl, h3, h4⟩ := h
    refine ⟨hl, hr, hc, hn, fun e => ?_⟩
    obtain ⟨t', c', h1, h2, h5⟩ := hb e
    refine ⟨t', c', h1, h2, fun i hi j hj => ?_⟩
    obtain ⟨v, h6, h7⟩ := h4 i hi j hj
    refine ⟨v, ?_, h7⟩
    rw [get h5 ?_]; exact h6
    have : (i + 1) * sz' ≤ n * sz' := Nat.mul_le_mul_right _ hi
    rw [Nat.add_mul, Nat.one_mul] at this; omega
  | _ => exact h.elim

theorem liv_row {cx : Cx} {h : SH} {l : Nat} {so : SO} {fz : Nat → Prop} {w : World} {sz N : Nat} {c : List Value} (hh : Holds fz w sz N c so) (hg : hget h l = so) : liv cx h l ↔ cx.nl l = false := by
  cases so with
  | rowi t k xs => simp [liv, hg]
  | row t sz' n f => simp [liv, hg]
  | _ => exact hh.elim

/-! ### reading a slice value as cells -/
theorem asInts_map {cx : Cx} {w : World} {kd : IntKind} : ∀ {c : List SV} {l : List Int} {c' : List Value}, asInts kd c = some l → SRepL cx w c c' → c' = l.map (.int kd)
  | [], l, [], h, _ => by simp only [asInts, Option.some.injEq] at h; subst h; rfl
  | x :: r, l, v :: vs, h, hr => by
    simp only [SRepL] at hr
    unfold asInts at h
    split at h
    · rename_i e; simp at e
    · rename_i k' y r' e
      simp only [List.cons.injEq] at e
      obtain ⟨rfl, rfl⟩ := e
      have hA := cond_some h
      clear h
      have hk := kEq_eq hA.1
      have h := hA.2
      clear hA
      subst hk
      split at h
      · rename_i q hq
        simp only [Option.some.injEq] at h; subst h
        rw [asInts_map hq hr.2, int_of hr.1]; rfl
      · simp at h
    · simp at h
  | [], _, _ :: _, _, h => by simp [SRepL] at h
  | _ :: _, _, [], _, h => by simp [SRepL] at h

theorem vals_one {k : IntKind} (xs : List Int) : ∀ v ∈ xs.map (Value.int k), v.oneCell' = true := by
  intro v hv
  obtain ⟨x, _, rfl⟩ := List.mem_map.1 hv
  rfl

theorem src_ints {cx : Cx} {h : SH} {w : World} (g : Gam cx h w) {x : SV} {u : Value} (hx : SRep cx w x u) {kd : IntKind} {ys : List Int} (hi : intsOf h kd x = some ys) :
    ∃ bb cc, Src w 1 ys.length u bb cc (ys.map (.int kd)) := by
  unfold intsOf at hi
  split at hi
  · rename_i k' l
    have hA := cond_some hi
    clear hi
    have hk := kEq_eq hA.1
    have hi := hA.2
    clear hA
    subst hk
    simp only [Option.some.injEq] at hi; subst hi
    simp only [SRep, DRep] at hx
    obtain ⟨a, c, e, hc, hl⟩ := hx
    refine ⟨a, c, ⟨e, by simp, vals_one _, fun b hb j v hv => ?_, fun hn => ?_⟩⟩
    · simp only [List.getElem?_map, Option.map_eq_some_iff] at hv
      obtain ⟨y, hy, rfl⟩ := hv
      have hj := (List.getElem?_eq_some_iff.1 hy).1
      obtain ⟨blk, off, e1, _, hcell⟩ := hl (by intro e0; subst e0; simp at hj)
      rw [hb] at e1; simp only [Option.some.injEq] at e1; subst e1
      rw [addr_add, hcell j hj]; simp [List.getD_eq_getElem?_getD, hy]
    · rcases l with _ | ⟨y, r⟩
      · rfl
      · obtain ⟨blk, off, e1, _⟩ := hl (by simp); rw [hn] at e1; simp at e1
  · simp only [Option.some.injEq] at hi; subst hi
    simp only [SRep, DRep] at hx
    exact ⟨none, 0, ⟨hx.1, rfl, fun v hv => by simp at hv, fun b hb => by simp at hb, fun _ => rfl⟩⟩
  · simp only [Option.some.injEq] at hi; subst hi
    simp only [SRep, DRep] at hx
    exact ⟨_, _, ⟨hx.1, rfl, fun v hv => by simp at hv, fun b _ j v hv => by simp at hv, fun _ => rfl⟩⟩
  · rename_i l
    have ho := g.obj l
    simp only [SRep] at hx
    split at hi
    · rename_i t k' xs hg
      have hA := cond_some hi
      clear hi
      have hk := kEq_eq hA.1
      have hi := hA.2
      clear hA
      subst hk
      simp only [Option.some.injEq] at hi; subst hi
      rw [hg] at ho
      obtain ⟨hln, hrs, hcp, hnl, hb⟩ := ho
      rw [hln] at hx
      refine ⟨_, _, ⟨hx.2, by simp, vals_one _, fun b hb' j v hv => ?_, fun hn => ?_⟩⟩
      · cases hq : cx.nl l with
        | true => simp [hq] at hb'
        | false =>
          simp only [hq, cond_false, Option.some.injEq] at hb'; subst hb'
          obtain ⟨t', c', h1, h2, h3⟩ := hb hq
          simp only [List.getElem?_map, Option.map_eq_some_iff] at hv
          obtain ⟨y, hy, rfl⟩ := hv
          have hj := (List.getElem?_eq_some_iff.1 hy).1
          rw [addr_add]
          simp [World.cell?, ad, h1, h3 j hj, List.getD_eq_getElem?_getD, hy]
      · cases hq : cx.nl l with
        | true =>
          have := hnl hq
          have : xs.length = 0 := by omega
          rw [List.length_eq_zero_iff.1 this]; rfl
        | false => simp [hq] at hn
    · simp at hi
  · rename_i l o' sz n c
    have ho := g.obj l
    simp only [SRep] at hx
    split at hi
    · rename_i t cs hg
      obtain ⟨hb, hi⟩ := cond_some hi
      simp only [Bool.and_eq_true] at hb
      have hle := Nat.le_of_ble_eq_true hb.2
      rw [hg] at ho
      obtain ⟨t', c', h1, h2⟩ := ho
      have hcl := h2.length
      have e := asInts_map hi ((h2.drop o').take n)
      have hyl : ys.length = n := by
        have := congrArg List.length e
        simp at this; omega
      subst hyl
      refine ⟨_, _, ⟨hx.2, by simp, vals_one _, fun b hb' j v hv => ?_, fun hn => by simp at hn⟩⟩
      simp only [Option.some.injEq] at hb'; subst hb'
      rw [← e, List.getElem?_take] at hv
      split at hv
      · rw [List.getElem?_drop] at hv
        rw [addr_add]; simp [World.cell?, ad, h1, hv]
      · simp at hv
    · simp at hi
  · simp at hi

theorem rows_idx {sz n i : Nat} (h : i < n * sz) : i / sz < n ∧ i % sz < sz ∧ i / sz * sz + i % sz = i := by
  have hs : 0 < sz := by
    rcases Nat.eq_zero_or_pos sz with h0 | h0
    · subst h0; simp at h
    · exact h0
  refine ⟨Nat.div_lt_of_lt_mul (by rw [Nat.mul_comm]; exact h), Nat.mod_lt _ hs, ?_⟩
  rw [Nat.mul_comm]; exact Nat.div_add_mod i sz

/-- Cells found one by one, as a list. -/
theorem src_cells {fz : Nat → Prop} {w : World} {b o sz n : Nat} {f : Nat → Nat → DV} (h : ∀ i, i < n → ∀ j, j < sz → ∃ x, w.cell? (ad b (o + (i * sz + j))) = some x ∧ DRep fz w (f i j) x) :
    ∃ l : List Value, l.length = n * sz ∧ (∀ v ∈ l, v.oneCell' = true) ∧ (∀ j v, l[j]? = some v → w.cell? (ad b (o + j)) = some v) ∧ ∀ i, i < n → ∀ j, j < sz → ∃ v, l[i * sz + j]? = some v ∧ DRep fz w (f i j) v := by
  have hi : ∀ q, q < n * sz → ∃ x, w.cell? (ad b (o + q)) = some x ∧ DRep fz w (f (q / sz) (q % sz)) x := by
    intro q hq
    obtain ⟨h1, h2, h3⟩ := rows_idx hq
    have := h _ h1 _ h2
    rwa [h3] at this
  refine ⟨(List.range (n * sz)).map fun q => (w.cell? (ad b (o + q))).getD undef, by simp, fun v hv => ?_, fun j v hv => ?_, fun i hi' j hj => ?_⟩
  · obtain ⟨q, hq, rfl⟩ := List.mem_map.1 hv
    obtain ⟨x, h1, h2⟩ := hi q (List.mem_range.1 hq)
    simp only [h1, Option.getD_some]; exact h2.one
  · simp only [List.getElem?_map, Option.map_eq_some_iff] at hv
    obtain ⟨q, hq, rfl⟩ := hv
    obtain ⟨hlt, he⟩ := List.getElem?_eq_some_iff.1 hq
    simp only [List.getElem_range] at he; subst he
    simp only [List.length_range] at hlt
    obtain ⟨x, h1, _⟩ := hi j hlt
    simp [h1]
  · obtain ⟨x, h1, h2⟩ := h i hi' j hj
    have : i * sz + j < n * sz := by
      have : (i + 1) * sz ≤ n * sz := Nat.mul_le_mul_right _ hi'
      rw [Nat.add_mul, Nat.one_mul] at this; omega
    exact ⟨x, by simp [this, h1], h2⟩

theorem src_row {cx : Cx} {h : SH} {w : World} (g : Gam cx h w) {x : SV} {u : Value} (hx : SRep cx w x u) {sz n : Nat} {f : Nat → Nat → DV} {e : TypeId} (hi : rowOf h sz x = some (n, f)) :
    ∃ bb cc l, Src w sz n u bb cc l ∧ Holds cx.fz w sz n l (.row e sz n f) := by
  unfold rowOf at hi
  split at hi
  · rename_i sz' n' f'
    have hA := cond_some hi
    clear hi
    have hk := Nat.eq_of_beq_eq_true hA.1
    have hi := hA.2
    clear hA
    subst hk
    simp only [Option.some.injEq, Prod.mk.injEq] at hi
    obtain ⟨rfl, rfl⟩ := hi
    simp only [SRep, DRep] at hx
    obtain ⟨a, c, e1, hc, hl⟩ := hx
    rcases Nat.eq_zero_or_pos n' with h0 | h0
    · subst h0
      exact ⟨a, c, [], ⟨e1, by simp, fun v hv => by simp at hv, fun b hb j v hv => by simp at hv, fun _ => rfl⟩, rfl, rfl, by simp, fun i hi => by omega⟩
    · obtain ⟨blk, off, e2, _, hcell⟩ := hl (by omega)
      obtain ⟨l, h1, h2, h3, h4⟩ := src_cells hcell
      refine ⟨a, c, l, ⟨e1, h1, h2, fun b hb j v hv => ?_, fun hn => by rw [hn] at e2; simp at e2⟩, rfl, rfl, h1, h4⟩
      rw [hb] at e2; simp only [Option.some.injEq] at e2; subst e2
      rw [addr_add]; exact h3 j v hv
  · simp only [Option.some.injEq, Prod.mk.injEq] at hi
    obtain ⟨rfl, rfl⟩ := hi
    simp only [SRep, DRep] at hx
    exact ⟨none, 0, [], ⟨hx.1, by simp, fun v hv => by simp at hv, fun b hb => by simp at hb, fun _ => rfl⟩, rfl, rfl, by simp, fun i hi => by omega⟩
  · simp only [Option.some.injEq, Prod.mk.injEq] at hi
    obtain ⟨rfl, rfl⟩ := hi
    simp only [SRep, DRep] at hx
    exact ⟨_, _, [], ⟨hx.1, by simp, fun v hv => by simp at hv, fun b _ j v hv => by simp at hv, fun _ => rfl⟩, rfl, rfl, by simp, fun i hi => by omega⟩
  · rename_i l
    have ho := g.obj l
    simp only [SRep] at hx
    split at hi
    · rename_i t sz' n' f' hg
      have hA := cond_some hi
      clear hi
      have hk := Nat.eq_of_beq_eq_true hA.1
      have hi := hA.2
      clear hA
      subst hk
      simp only [Option.some.injEq, Prod.mk.injEq] at hi
      obtain ⟨rfl, rfl⟩ := hi
      rw [hg] at ho
      obtain ⟨hln, hrs, hcp, hnl, hb⟩ := ho
      rw [hln] at hx
      cases hq : cx.nl l with
      | true =>
        have := hnl hq
        have h0 : n' = 0 := by omega
        subst h0
        exact ⟨_, _, [], ⟨hx.2, by simp, fun v hv => by simp at hv, fun b hb j v hv => by simp at hv, fun _ => rfl⟩, rfl, rfl, by simp, fun i hi => by omega⟩
      | false =>
        obtain ⟨t', c', h1, h2, h3⟩ := hb hq
        obtain ⟨l', h4, h5, h6, h7⟩ := src_cells (fz := cx.fz) (w := w) (b := cx.th l) (o := 0) (sz := sz) (n := n') (f := f') (by
          intro i hi j hj
          obtain ⟨x, h8, h9⟩ := h3 i hi j hj
          exact ⟨x, by simp [World.cell?, ad, h1, h8], h9⟩)
        refine ⟨_, _, l', ⟨hx.2, h4, h5, fun b hb' j v hv => ?_, fun hn => by simp [hq] at hn⟩, rfl, rfl, h4, h7⟩
        simp only [hq, cond_false, Option.some.injEq] at hb'; subst hb'
        rw [addr_add]; exact h6 j v hv
    · simp at hi
  · rename_i l o' sz' n' c
    have ho := g.obj l
    simp only [SRep] at hx
    split at hi
    · rename_i t cs hg
      have hA := cond_some hi
      clear hi
      have hb := hA.1
      have hi := hA.2
      clear hA
      simp only [Bool.and_eq_true] at hb
      have hk := Nat.eq_of_beq_eq_true hb.1
      have hle := Nat.le_of_ble_eq_true hb.2
      clear hb
      subst hk
      split at hi
      · rename_i ds hds
        simp only [Option.some.injEq, Prod.mk.injEq] at hi
        obtain ⟨rfl, rfl⟩ := hi
        rw [hg] at ho
        obtain ⟨t', c', h1, h2⟩ := ho
        have hcl := h2.length
        have hsl := (h2.drop o').take (n' * sz)
        have hsll := hsl.length
        obtain ⟨h3, h4⟩ := hsl.toD hds
        have hlen : ((c'.drop o').take (n' * sz)).length = n' * sz := by simp; omega
        refine ⟨_, _, (c'.drop o').take (n' * sz), ⟨hx.2, hlen, fun v hv => ?_, fun b hb' j v hv => ?_, fun hn => by simp at hn⟩, rfl, rfl, hlen, fun i hi j hj => ?_⟩
        · obtain ⟨q, hq, e1⟩ := List.getElem_of_mem hv
          obtain ⟨v', h5, h6⟩ := h4 q (by omega)
          rw [List.getElem?_eq_getElem hq] at h5
          simp only [Option.some.injEq] at h5
          rw [← e1, h5]; exact h6.one
        · simp only [Option.some.injEq] at hb'; subst hb'
          rw [List.getElem?_take] at hv
          split at hv
          · rw [List.getElem?_drop] at hv
            rw [addr_add]; simp [World.cell?, ad, h1, hv]
          · simp at hv
        · have : i * sz + j < n' * sz := by
            have : (i + 1) * sz ≤ n' * sz := Nat.mul_le_mul_right _ hi
            rw [Nat.add_mul, Nat.one_mul] at this; omega
          exact h4 (i * sz + j) (by omega)
      · simp at hi
    · simp at hi
  · simp at hi
end
end Go.Sx
