/- Operations, fourth part: scalars, places, indexes. -/
import Derived.Test.YtpnnnklahanecaaSxOps3
namespace Go.Sx

/-- A result of the continuation-passing kind: some value reached, the machine's value with it. -/
def Plain (P : Program) (A : Ann) (o : Oper) (s : SS) {Ω : Type} (k : SV → List Nat → SS → Option Ω) (out : Ω) : Prop :=
  ∃ v m s', k v m s' = some out ∧ s'.t.Sublist s.t ∧ OpOK P A o s v s'

/-- But for the locs of m the heap is as it was. -/
def Keeps (m : List Nat) (h h' : SH) : Prop := h.length ≤ h'.length ∧ ∀ l, l < h.length → nmem l m = false → hget h' l = hget h l

theorem Keeps.new (h : SH) (so : SO) : Keeps [] h (h ++ [so]) := ⟨by simp, fun l hl _ => by simp [hget, List.getD_eq_getElem?_getD, List.getElem?_append_left hl]⟩

/-- An operation that makes or writes and lets all temporaries stand. -/
def PlainE (P : Program) (o : Oper) (s : SS) {Ω : Type} (k : SV → List Nat → SS → Option Ω) (out : Ω) : Prop :=
  ∃ v m h', k v m ⟨s.t, h'⟩ = some out ∧ OpOK0 P o s v ⟨s.t, h'⟩ ∧ Keeps m s.h h'

theorem PlainV.plain {P : Program} {A : Ann} {o : Oper} {s : SS} {Ω : Type} {k : SV → List Nat → SS → Option Ω} {out : Ω} (h : PlainV P o s k out) : Plain P A o s k out :=
  let ⟨v, h1, h2⟩ := h; ⟨v, [], s, h1, .refl _, h2.op.weak fun _ _ => rfl⟩
theorem PlainE.plain {P : Program} {A : Ann} {o : Oper} {s : SS} {Ω : Type} {k : SV → List Nat → SS → Option Ω} {out : Ω} (h : PlainE P o s k out) : Plain P A o s k out :=
  let ⟨v, m, h', h1, h2, _⟩ := h; ⟨v, m, _, h1, .refl _, h2.weak fun _ _ => rfl⟩

section
variable {P : Program} {A : Ann} {o : Oper} {s : SS} {Ω : Type} {k : SV → List Nat → SS → Option Ω} {out : Ω}

theorem br_some {α : Type} {b : Bool} {x y : Option α} {r : α} (h : br b x y = some r) : (b = true ∧ x = some r) ∨ (b = false ∧ y = some r) := by
  cases b with
  | true => exact .inl ⟨rfl, h⟩
  | false => exact .inr ⟨rfl, h⟩

theorem cond_some {α : Type} {b : Bool} {x : Option α} {r : α} (h : (bif b then x else none) = some r) : b = true ∧ x = some r := by
  cases b with
  | true => exact ⟨rfl, h⟩
  | false => simp at h

theorem snd_pick {c a b : Operand} {c' a' b' : CA} (ho : o.op = .pick c a b) (hc : coA c = some c') (ha : coA a = some a') (hb : coA b = some b')
    {env : Env Ω} (h : sop env A (.pick c' a' b') s k = some out) : PlainV P o s k out := by
  simp only [sop] at h
  have hx : ∀ (cx : Cx) (w : World) (t : Act) (x : Bool), TRep cx w s.t t.tmps → ev s.t c' = .d (.v (.bool x)) → (execOp t.eval o).run P w = .ok (.value (if x then t.eval a else t.eval b)) w := by
    intro cx w t x ht e
    have h1 := eval_coA hc ht
    rw [e] at h1
    simp only [SRep, DRep] at h1
    simp only [execOp, ho, h1.1, asBool]
    cases x <;> simp
  split at h
  · rename_i x p q e1 e2 e3
    refine ⟨_, h, fun cx w t hg ht => ⟨_, hx cx w t x ht e1, ?_⟩⟩
    have h2 := eval_coA ha ht
    have h3 := eval_coA hb ht
    rw [e2] at h2; rw [e3] at h3
    simp only [SRep, DRep] at h2 h3 ⊢
    cases x
    · simp [h3.1, cellV]
    · simp [h2.1, cellV]
  · rename_i x e1 _
    rcases br_some h with ⟨rfl, h⟩ | ⟨rfl, h⟩
    · exact ⟨_, h, fun cx w t hg ht => ⟨_, hx cx w t true ht e1, by simpa using eval_coA ha ht⟩⟩
    · exact ⟨_, h, fun cx w t hg ht => ⟨_, hx cx w t false ht e1, by simpa using eval_coA hb ht⟩⟩
  · simp at h

theorem snd_nilc {x : Operand} {y : CA} (ho : o.op = .nilCheck x) (hx : coA x = some y) {env : Env Ω} (h : sop env A (.nilc y) s k = some out) : PlainV P o s k out := by
  simp only [sop] at h
  split at h
  case h_5 => simp at h
  all_goals
    rename_i e
    refine ⟨_, h, fun cx w t hg ht => ?_⟩
    have h1 := eval_coA hx ht
    rw [e] at h1
    refine ⟨t.eval x, ?_, h1⟩
  · simp only [SRep] at h1; simp [execOp, ho, h1.2]
  · simp only [SRep] at h1; simp [execOp, ho, h1.2.1]
  · simp only [SRep] at h1; obtain ⟨b, o', h1, _⟩ := h1; simp [execOp, ho, h1]
  · simp only [SRep] at h1; obtain ⟨a', b', h1, _⟩ := h1
    simp [execOp, ho, h1]

theorem int_of {cx : Cx} {w : World} {k : IntKind} {n : Int} {u : Value} (h : SRep cx w (.d (.v (.int k n))) u) : u = .int k n := by simp only [SRep, DRep] at h; exact h.1
theorem bool_of {cx : Cx} {w : World} {b : Bool} {u : Value} (h : SRep cx w (.d (.v (.bool b))) u) : u = .bool b := by simp only [SRep, DRep] at h; exact h.1
theorem str_of {cx : Cx} {w : World} {b : ByteArray} {u : Value} (h : SRep cx w (.d (.v (.string b))) u) : u = .string b := by simp only [SRep, DRep] at h; exact h.1
theorem SRep.int {cx : Cx} {w : World} {k : IntKind} {n : Int} : SRep cx w (.d (.v (.int k n))) (.int k n) := by simp [SRep, DRep, cellV]
theorem SRep.bool {cx : Cx} {w : World} {b : Bool} : SRep cx w (.d (.v (.bool b))) (.bool b) := by simp [SRep, DRep, cellV]
theorem SRep.str {cx : Cx} {w : World} {b : ByteArray} : SRep cx w (.d (.v (.string b))) (.string b) := by simp [SRep, DRep, cellV]

theorem snd_bin {op : BinOp} {t u : TypeId} {x y : Operand} {x' y' : CA} (ho : o.op = .binOp op t x y u) (hx : coA x = some x') (hy : coA y = some y') (hne : op ≠ .eql ∧ op ≠ .neq)
    {env : Env Ω} (h : sop env A (.bin op x' y') s k = some out) : PlainV P o s k out := by
  simp only [sop, bop] at h
  have hguard : ∀ a b, (eqGuard op t x y a b) = (pure () : Sem Unit) := by
    intro a b; unfold eqGuard; cases op <;> first | rfl | exact absurd rfl hne.1 | exact absurd rfl hne.2
  have key : ∀ (v : SV) (v' : Value), k v [] s = some out → (∀ cx w, SRep cx w v v') → (∀ (cx : Cx) (w : World) (a : Act), TRep cx w s.t a.tmps → (binOp op t (a.eval x) (a.eval y)).run P w = .ok v' w) → PlainV P o s k out := by
    intro v v' hk hv hr
    refine ⟨_, hk, fun cx w a hg ht => ⟨v', ?_, hv cx w⟩⟩
    simp [execOp, ho, hguard, hr cx w a ht]
  split at h
  · rename_i ka x1 kb y1 e1 e2
    have hxy : ∀ (cx : Cx) (w : World) (a : Act), TRep cx w s.t a.tmps → a.eval x = .int ka x1 ∧ a.eval y = .int kb y1 := fun cx w a ht =>
      ⟨int_of (e1 ▸ eval_coA hx ht), int_of (e2 ▸ eval_coA hy ht)⟩
    split at h
    · rcases br_some h with ⟨_, h⟩ | ⟨hlt, h⟩
      · simp at h
      · refine key _ _ h (fun _ _ => SRep.int) fun cx w a ht => ?_
        obtain ⟨h1, h2⟩ := hxy cx w a ht
        have : ¬ y1 < 0 := by simpa using hlt
        simp [h1, h2, binOp, Op.shift, this, shl]
    · rcases br_some h with ⟨_, h⟩ | ⟨hlt, h⟩
      · simp at h
      · refine key _ _ h (fun _ _ => SRep.int) fun cx w a ht => ?_
        obtain ⟨h1, h2⟩ := hxy cx w a ht
        have : ¬ y1 < 0 := by simpa using hlt
        simp [h1, h2, binOp, Op.shift, this, shr]
    · rename_i n1 n2
      have hk := kEq_eq (cond_some h).1
      replace h := (cond_some h).2
      subst hk
      cases hcm : isCmp op with
      | true =>
        simp only [hcm, cond_true] at h
        cases op <;> simp only [isCmp, cmp] at h hcm <;> first
          | simp at hcm
          | (refine key _ _ h (fun _ _ => SRep.bool) fun cx w a ht => ?_
             obtain ⟨h1, h2⟩ := hxy cx w a ht
             simp [h1, h2, binOp, Op.intCmp])
      | false =>
        simp only [hcm, cond_false] at h
        cases op <;> simp only [isCmp, arith] at h hcm <;> first
          | simp at hcm
          | simp at h
          | exact absurd rfl n1
          | exact absurd rfl n2
          | (refine key _ _ h (fun _ _ => SRep.int) fun cx w a ht => ?_
             obtain ⟨h1, h2⟩ := hxy cx w a ht
             simp [h1, h2, binOp, Op.intArith, Op.intBits, band, bor, bxor, bandn]; done)
          | (rcases br_some h with ⟨_, h⟩ | ⟨hz, h⟩
             · simp at h
             · refine key _ _ h (fun _ _ => SRep.int) fun cx w a ht => ?_
               obtain ⟨h1, h2⟩ := hxy cx w a ht
               have : ¬ y1 = 0 := by simpa using hz
               simp [h1, h2, binOp, Op.intDiv, this])
  · rename_i x1 y1 e1 e2
    split at h
    · rcases br_some h with ⟨hft, h⟩ | ⟨_, h⟩
      · refine key _ _ h (fun _ _ => SRep.str) fun cx w a ht => ?_
        have h1 := str_of (e1 ▸ eval_coA hx ht)
        have h2 := str_of (e2 ▸ eval_coA hy ht)
        simp only [fits, Nat.mul_one, decide_eq_true_eq] at hft
        simp [h1, h2, binOp, Op.stringOp]
        omega
      · simp at h
    · simp at h
  · simp at h

theorem snd_un {op : UnOp} {t : TypeId} {x : Operand} {x' : CA} (ho : o.op = .unOp op t x) (hx : coA x = some x') {env : Env Ω} (h : sop env A (.un op x') s k = some out) : PlainV P o s k out := by
  simp only [sop, unop] at h
  split at h
  · rename_i b e
    exact ⟨_, h, fun cx w a hg ht => ⟨.bool (!b), by simp [execOp, ho, bool_of (e ▸ eval_coA hx ht), Op.unary], SRep.bool⟩⟩
  · rename_i ka x1 e
    exact ⟨_, h, fun cx w a hg ht => ⟨.int ka (ka.wrap (0 - x1)), by simp [execOp, ho, int_of (e ▸ eval_coA hx ht), Op.unary, Op.intArith], SRep.int⟩⟩
  · simp at h

theorem snd_conv {t u : TypeId} {kd ks : IntKind} {x : Operand} {x' : CA} (ho : o.op = .convert t u x) (ht : uT P t = .int ks) (hu : uT P u = .int kd) (hx : coA x = some x')
    {env : Env Ω} (h : sop env A (.conv kd x') s k = some out) : PlainV P o s k out := by
  simp only [sop] at h
  split at h
  · rename_i k1 n e
    refine ⟨_, h, fun cx w a hg htt => ⟨.int kd (kd.wrap n), ?_, SRep.int⟩⟩
    have h1 := int_of (e ▸ eval_coA hx htt)
    simp [execOp, ho, h1, convert, run_uT w (t := t) (by rw [ht]; simp), run_uT w (t := u) (by rw [hu]; simp), ht, hu, Conv.intToInt]
  · simp at h

theorem snd_convs {t u : TypeId} {x : Operand} {x' : CA} (ho : o.op = .convert t u x) (ht : uT P t = .string) (hu : uT P u = .string) (hx : coA x = some x')
    {env : Env Ω} (h : sop env A (.convs x') s k = some out) : PlainV P o s k out := by
  simp only [sop] at h
  split at h
  · rename_i y e
    refine ⟨_, h, fun cx w a hg htt => ⟨.string y, ?_, SRep.str⟩⟩
    have h1 := str_of (e ▸ eval_coA hx htt)
    simp [execOp, ho, h1, convert, run_uT w (t := t) (by rw [ht]; simp), run_uT w (t := u) (by rw [hu]; simp), ht, hu]
  · simp at h

theorem snd_mkf {g : Fn} {f c : Array Operand} {f' c' : List CA} (ho : o.op = .makeFunc g f c) (hf : coL f.toList = some f') (hc : coL c.toList = some c')
    {env : Env Ω} (h : sop env A (.mkf g f' c') s k = some out) : PlainV P o s k out := by
  simp only [sop] at h
  refine ⟨_, h, fun cx w a hg ht => ⟨.func g (f.map a.eval) (c.map a.eval), by simp [execOp, ho, Instr.makeFunc], ?_⟩⟩
  simp only [SRep]
  refine ⟨f.toList.map a.eval, c.toList.map a.eval, ?_, eval_coL ht hf, eval_coL ht hc⟩
  have e1 : f.map a.eval = ⟨f.toList.map a.eval⟩ := Array.ext' (by simp)
  have e2 : c.map a.eval = ⟨c.toList.map a.eval⟩ := Array.ext' (by simp)
  rw [e1, e2]

/-! ### parts and places -/
theorem partS_sound {cx : Cx} {w : World} {c : List SV} {c' : List Value} (hr : SRepL cx w c c') {ft : TypeId} {off : Nat} (hu : uT P ft ≠ .invalid) (hlt : aggT P ft = false → off < c'.length) :
    ∃ v, (part ft ⟨c'⟩ off).run P w = .ok v w ∧ SRep cx w (partS (aggT P ft) (szT P ft) off c) v := by
  cases ha : aggT P ft with
  | true =>
    refine ⟨.agg ⟨(c'.drop off).take (szT P ft)⟩, ?_, ?_⟩
    · simp [part, run_aggT w hu, ha, run_szT w (info_of_uT hu).2, List.drop_take]
    · simp only [partS, cond_true, SRep]; exact ⟨_, rfl, (hr.drop _).take _⟩
  | false =>
    have hl := hlt ha
    refine ⟨c'[off], by simp [part, run_aggT w hu, ha, hl], ?_⟩
    have hcl := hr.length
    have hlc : off < c.length := by omega
    obtain ⟨v, h1, h2⟩ := hr.get (List.getElem?_eq_getElem hlc)
    simp only [partS, cond_false, List.getD_eq_getElem?_getD, List.getElem?_eq_getElem hlc, Option.getD_some]
    rw [List.getElem?_eq_getElem hl] at h1
    simp only [Option.some.injEq] at h1
    rw [h1]; exact h2

theorem addO_sound {cx : Cx} {w : World} {x y : SV} {n : Nat} {u : Value} (h : addO x n = some y) (hr : SRep cx w x u) : ∃ a, u = .pointer (some a) ∧ SRep cx w y (.pointer (some (a.add n))) := by
  cases x <;> simp only [addO, Option.some.injEq] at h <;> try (simp at h; done)
  all_goals subst h; simp only [SRep] at hr ⊢
  · exact ⟨_, hr.2, hr.1, by rw [addr_add]⟩
  · exact ⟨_, hr.2.1, hr.1, by rw [addr_add, Nat.add_assoc], hr.2.2⟩
  · obtain ⟨b, o', h1, h2⟩ := hr
    exact ⟨_, h1, b, o', by rw [addr_add, Nat.add_assoc], h2⟩

theorem snd_fa {t : TypeId} {x : Operand} {x' : CA} {f : Nat} {fd : Field} (ho : o.op = .fieldAddr t x f) (hx : coA x = some x') (hf : fldT P t f = some fd) (hz : szT P fd.type ≠ 0)
    {env : Env Ω} (h : sop env A (.fa fd.offset x') s k = some out) : PlainV P o s k out := by
  simp only [sop] at h
  split at h
  · rename_i r hr
    refine ⟨_, h, fun cx w a hg ht => ?_⟩
    obtain ⟨ad', h1, h2⟩ := addO_sound hr (eval_coA hx ht)
    refine ⟨_, ?_, h2⟩
    unfold fldT at hf
    split at hf
    · rename_i fs hu
      have : fs[f]? = some fd := by simpa using hf
      simp [execOp, ho, h1, Instr.fieldAt, run_uT w (t := t) (by rw [hu]; simp), hu, this, Instr.sureAddr, fieldPlace, run_szT w (t := fd.type) (by obtain ⟨i, hi, _⟩ := info_of_sz hz; exact ⟨i, hi⟩), hz]
    · simp at hf
  · simp at h
end
end Go.Sx
