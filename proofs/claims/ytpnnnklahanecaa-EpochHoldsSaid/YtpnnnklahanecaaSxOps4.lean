/- What an operation computes on symbolic values, the machine does: one lemma for each operation. -/
import Derived.Test.YtpnnnklahanecaaSxHeap
import Derived.Laws.Cells
import Derived.Laws.AppendOwn
import Derived.Laws.MakeOwn
import Derived.Laws.CopyRow
import Derived.Laws.StructEq
set_option linter.unusedVariables false
set_option linter.unusedSimpArgs false
namespace Go.Sx

/-- What is kept from world to world. -/
structure Pres (cx : Cx) (w : World) (cx' : Cx) (w' : World) : Prop where
  fz : ∀ b, cx.fz b → cx'.fz b
  same : ∀ b, cx.fz b → w'.heap[b]? = w.heap[b]?
  size : w.heap.size ≤ w'.heap.size

theorem Pres.refl (cx : Cx) (w : World) : Pres cx w cx w := ⟨fun _ h => h, fun _ _ => rfl, Nat.le_refl _⟩
theorem Pres.trans {cx cx1 cx2 : Cx} {w w1 w2 : World} (a : Pres cx w cx1 w1) (b : Pres cx1 w1 cx2 w2) : Pres cx w cx2 w2 :=
  ⟨fun x h => b.fz x (a.fz x h), fun x h => by rw [b.same x (a.fz x h), a.same x h], Nat.le_trans a.size b.size⟩
/-- The locs that code may append to, as a predicate. -/
def Ann.p (A : Ann) (l : Nat) : Bool := A.ok l

theorem Grow.weak {p q : Nat → Bool} {cx cx1 : Cx} {w w1 : World} (a : Grow p cx w cx1 w1) (h : ∀ l, q l = false → p l = false) : Grow q cx w cx1 w1 :=
  ⟨a.fz, a.same, a.size, fun l hl hq => a.loc l hl (h l hq), a.fr, a.io⟩
theorem Grow.to {q : Nat → Bool} {cx cx1 : Cx} {w w1 : World} (a : Grow0 cx w cx1 w1) : Grow q cx w cx1 w1 := a.weak fun _ _ => rfl

/-- One operation, run from every memory that the symbolic state describes. -/
def OpOKp (P : Program) (p : Nat → Bool) (o : Oper) (s : SS) (v : SV) (s' : SS) : Prop :=
  ∀ (cx : Cx) (w : World) (a : Act), Gam cx s.h w → TRep cx w s.t a.tmps → ∀ (next : Act → World → Prop) (Q : Exit → Act → World → Prop),
    (∀ cx' w' v', Grow p cx w cx' w' → SRep cx' w' v v' → TRep cx' w' s'.t a.tmps → Gam cx' s'.h w' → next (a.put o.dst v') w') → o.wp P a w next Q
abbrev OpOK (P : Program) (A : Ann) (o : Oper) (s : SS) (v : SV) (s' : SS) : Prop := OpOKp P A.p o s v s'
abbrev OpOK0 (P : Program) (o : Oper) (s : SS) (v : SV) (s' : SS) : Prop := OpOKp P (fun _ => false) o s v s'

theorem OpOKp.weak {P : Program} {p q : Nat → Bool} {o : Oper} {s s' : SS} {v : SV} (h : OpOKp P p o s v s') (hp : ∀ l, q l = false → p l = false) : OpOKp P q o s v s' :=
  fun cx w a hg ht next Q hk => h cx w a hg ht next Q fun cx' w' v' g => hk cx' w' v' (g.weak hp)

/-- The objects alone, without their number. -/
structure Seen (cx : Cx) (h : SH) (w : World) : Prop where
  obj : ∀ l, ORep cx w l (hget h l)
theorem Gam.seen {cx : Cx} {h : SH} {w : World} (g : Gam cx h w) : Seen cx h w := ⟨g.obj⟩

/-- One operation that only looks. -/
def Still (P : Program) (o : Oper) (s : SS) (v : SV) : Prop :=
  ∀ (cx : Cx) (w : World) (a : Act), Seen cx s.h w → TRep cx w s.t a.tmps → ∃ v', (execOp a.eval o).run P w = .ok (.value v') w ∧ SRep cx w v v'

def PlainV (P : Program) (o : Oper) (s : SS) {Ω : Type} (k : SV → List Nat → SS → Option Ω) (out : Ω) : Prop :=
  ∃ v, k v [] s = some out ∧ Still P o s v

/-! ### types -/
theorem info_of_uT {P : Program} {t : TypeId} (h : uT P t ≠ .invalid) : P.underlying t = some (uT P t) ∧ ∃ i, P.info? t = some i := by
  unfold uT at *
  cases hu : P.underlying t with
  | none => simp [hu] at h
  | some d =>
    refine ⟨rfl, ?_⟩
    unfold Program.underlying at hu
    cases hi : P.info? t with
    | none => simp [hi] at hu
    | some i => exact ⟨i, rfl⟩

theorem run_uT {P : Program} {t : TypeId} (w : World) (h : uT P t ≠ .invalid) : (underlying t).run P w = .ok (uT P t) w := by
  simp [underlying, (info_of_uT h).1]

theorem info_of_sz {P : Program} {t : TypeId} (h : szT P t ≠ 0) : ∃ i, P.info? t = some i ∧ i.size = szT P t := by
  unfold szT at *
  cases hi : P.info? t with
  | none => simp [hi] at h
  | some i => exact ⟨i, rfl, rfl⟩

theorem run_szT {P : Program} {t : TypeId} (w : World) (h : ∃ i, P.info? t = some i) : (sizeOf t).run P w = .ok (szT P t) w := by
  obtain ⟨i, hi⟩ := h
  simp [sizeOf, typeInfo, szT, hi]

theorem run_aggT {P : Program} {t : TypeId} (w : World) (h : uT P t ≠ .invalid) : (isAgg t).run P w = .ok (aggT P t) w := by
  unfold isAgg aggT
  simp only [Sem.run_bind, run_uT w h, Result.andThen_ok]
  cases uT P t <;> rfl

/-! ### operands -/
theorem SRepL.const {cx : Cx} {w : World} : ∀ {c : List Value}, flatV c = true → SRepL cx w (c.map fun x => .d (.v x)) c
  | [], _ => by simp [SRepL]
  | x :: r, h => by
    cases x <;> simp_all [flatV, SRepL, SRep, DRep, cellV, SRepL.const (c := r)]

theorem SRep.cst {cx : Cx} {w : World} (c : Value) : SRep cx w (cst c) c := by
  unfold Go.Sx.cst
  split
  · simp only [SRep]; exact ⟨[], [], rfl, by simp [SRepL], by simp [SRepL]⟩
  · simp [SRep]
  · rename_i c'
    cases hf : flatV c'.toList with
    | false => simp [SRep]
    | true => simp only [cond_true, SRep]; exact ⟨c'.toList, rfl, SRepL.const hf⟩
  · simp [SRep]
  · simp only [SRep, DRep, true_and]
    rename_i h1 h2 h3 h4
    cases c <;> simp_all [cellV]

theorem SRep.lk {cx : Cx} {w : World} {tm : Array Value} (n : Nat) : ∀ {t : List (Nat × SV)}, TRep cx w t tm → SRep cx w (lk t n) (tm.getD n undef)
  | [], _ => by simp [Sx.lk, SRep]
  | (k, v) :: r, ht => by
    simp only [Sx.lk]
    by_cases hk : k = n
    · subst hk; simp only [Nat.beq_refl, cond_true]; exact (ht _ v (by simp)).2
    · have : Nat.beq k n = false := Bool.eq_false_iff.2 (fun h => hk (Nat.eq_of_beq_eq_true h))
      simp only [this, cond_false]
      exact SRep.lk n fun i x hx => ht i x (by simp [hx])

theorem eval_coA {x : Operand} {y : CA} (h : coA x = some y) {cx : Cx} {w : World} {a : Act} {t : List (Nat × SV)} (ht : TRep cx w t a.tmps) : SRep cx w (ev t y) (a.eval x) := by
  cases x with
  | tmp n =>
    simp only [coA, Option.some.injEq] at h; subst h
    simp only [ev, Act.eval]
    exact SRep.lk n ht
  | const c =>
    simp only [coA, Option.some.injEq] at h; subst h
    simp only [ev, Act.eval]
    exact SRep.cst c
  | global g => simp [coA] at h
  | func f =>
    simp only [coA, Option.some.injEq] at h; subst h
    simp only [ev, Act.eval, SRep]; exact ⟨[], [], rfl, by simp [SRepL], by simp [SRepL]⟩

theorem eval_coL {cx : Cx} {w : World} {a : Act} {t : List (Nat × SV)} (ht : TRep cx w t a.tmps) : ∀ {xs : List Operand} {ys : List CA}, coL xs = some ys → SRepL cx w (evL t ys) (xs.map a.eval)
  | [], ys, h => by simp only [coL, Option.some.injEq] at h; subst h; simp [evL, SRepL]
  | x :: r, ys, h => by
    simp only [coL] at h
    split at h
    · rename_i y l hy hl
      simp only [Option.some.injEq] at h; subst h
      simp only [evL, List.map_cons, SRepL]
      exact ⟨eval_coA hy ht, eval_coL ht hl⟩
    · simp at h

/-! ### the plain operations -/
theorem Still.op {P : Program} {o : Oper} {s : SS} {v : SV} (h : Still P o s v) : OpOK0 P o s v s := by
  intro cx w a hg ht next Q hk
  obtain ⟨v', hr, hv⟩ := h cx w a hg.seen ht
  unfold Oper.wp
  rw [hr, Oper.upon_value]
  exact hk cx w v' (Grow.refl _ _ _) hv ht hg

theorem snd_mv {P : Program} {o : Oper} {x : Operand} {y : CA} {s : SS} (ho : o.op = .move x ∨ o.op = .assign x) (hc : coA x = some y) : Still P o s (ev s.t y) := by
  refine fun cx w a hg ht => ⟨a.eval x, ?_, eval_coA hc ht⟩
  rcases ho with ho | ho <;> simp [execOp, ho]

/-! ### memory read -/
theorem SRepL.get {cx : Cx} {w : World} : ∀ {c : List SV} {c' : List Value} {i : Nat} {x : SV}, SRepL cx w c c' → c[i]? = some x → ∃ v, c'[i]? = some v ∧ SRep cx w x v
  | x :: r, v :: vs, 0, y, h, e => by simp only [SRepL] at h; simp at e; subst e; exact ⟨v, rfl, h.1⟩
  | x :: r, v :: vs, i + 1, y, h, e => by simp only [SRepL] at h; simp at e; simpa using SRepL.get h.2 e
  | [], _, _, _, _, e => by simp at e
  | _ :: _, [], _, _, h, _ => by simp [SRepL] at h

theorem SRepL.drop {cx : Cx} {w : World} : ∀ (n : Nat) {c : List SV} {c' : List Value}, SRepL cx w c c' → SRepL cx w (c.drop n) (c'.drop n)
  | 0, _, _, h => by simpa using h
  | n + 1, [], [], _ => by simp [SRepL]
  | n + 1, _ :: _, _ :: _, h => by simp only [SRepL] at h; simpa using SRepL.drop n h.2
  | n + 1, [], _ :: _, h => by simp [SRepL] at h
  | n + 1, _ :: _, [], h => by simp [SRepL] at h

theorem SRepL.take {cx : Cx} {w : World} : ∀ (n : Nat) {c : List SV} {c' : List Value}, SRepL cx w c c' → SRepL cx w (c.take n) (c'.take n)
  | 0, _, _, _ => by simp [SRepL]
  | n + 1, [], [], _ => by simp [SRepL]
  | n + 1, _ :: _, _ :: _, h => by simp only [SRepL] at h; simp only [List.take_succ_cons, SRepL]; exact ⟨h.1, SRepL.take n h.2⟩
  | n + 1, [], _ :: _, h => by simp [SRepL] at h
  | n + 1, _ :: _, [], h => by simp [SRepL] at h

theorem SRepL.append {cx : Cx} {w : World} : ∀ {c d : List SV} {c' d' : List Value}, SRepL cx w c c' → SRepL cx w d d' → SRepL cx w (c ++ d) (c' ++ d')
  | [], _, [], _, _, h => by simpa using h
  | _ :: _, _, _ :: _, _, h, h' => by simp only [SRepL] at h; simp only [List.cons_append, SRepL]; exact ⟨h.1, SRepL.append h.2 h'⟩
  | [], _, _ :: _, _, h, _ => by simp [SRepL] at h
  | _ :: _, _, [], _, h, _ => by simp [SRepL] at h

theorem addr_add (b o i : Nat) : (ad b o).add i = ad b (o + i) := by
  unfold Addr.add ad
  split <;> simp_all

theorem rdRow_spec (f : Nat → DV) : ∀ (n o i : Nat), i < n → (rdRow f o n)[i]? = some (.d (f (o + i)))
  | n + 1, o, 0, _ => by simp [rdRow]
  | n + 1, o, i + 1, h => by
    simp only [rdRow, List.getElem?_cons_succ]
    rw [rdRow_spec f n (o + 1) i (by omega)]
    rw [show o + 1 + i = o + (i + 1) by omega]
theorem rdRow_length (f : Nat → DV) : ∀ (n o : Nat), (rdRow f o n).length = n
  | 0, _ => rfl
  | n + 1, o => by simp [rdRow, rdRow_length f n]

theorem SRepL.of {cx : Cx} {w : World} : ∀ {c : List SV} {g : Nat → Value}, (∀ i x, c[i]? = some x → SRep cx w x (g i)) → SRepL cx w c ((List.range c.length).map g)
  | [], _, _ => by simp [SRepL]
  | x :: r, g, h => by
    simp only [List.length_cons, List.range_succ_eq_map, List.map_cons, List.map_map, SRepL]
    refine ⟨h 0 x rfl, ?_⟩
    exact SRepL.of (g := g ∘ Nat.succ) fun i y hy => h (i + 1) y (by simpa using hy)

/-- The cells that ld finds lie in memory at that address. -/
theorem ld_sound {cx : Cx} {h : SH} {w : World} (g : Seen cx h w) {p : SV} {u : Value} (hp : SRep cx w p u) {n : Nat} {c : List SV} (hl : ld h p n = some c) :
    ∃ a c', u = .pointer (some a) ∧ c.length = n ∧ SRepL cx w c c' ∧ ∀ j v, c'[j]? = some v → w.cell? (a.add j) = some v := by
  cases p with
  | ptr l o =>
    simp only [ld] at hl
    simp only [SRep] at hp
    obtain ⟨hn, rfl⟩ := hp
    have ho := g.obj l
    split at hl
    · rename_i t cs hg
      rw [hg] at ho
      obtain ⟨t', c', hh, hr⟩ := ho
      cases hb : Nat.ble (o + n) cs.length with
      | false => simp [hb] at hl
      | true =>
        simp only [hb, cond_true, Option.some.injEq] at hl; subst hl
        have hle := Nat.le_of_ble_eq_true hb
        refine ⟨_, (c'.drop o).take n, rfl, by simp; omega, SRepL.take n (SRepL.drop o hr), fun j v hv => ?_⟩
        rw [addr_add]
        rw [List.getElem?_take] at hv
        split at hv
        · rw [List.getElem?_drop] at hv
          simp [World.cell?, ad, hh, hv]
        · simp at hv
    · simp at hl
  | pe l i o =>
    simp only [ld] at hl
    simp only [SRep] at hp
    obtain ⟨hn, rfl, hi, hnl⟩ := hp
    have ho := g.obj l
    split at hl
    · rename_i t sz m f hg
      rw [hg] at ho
      obtain ⟨hln, hrs, hcp, _, hh⟩ := ho
      obtain ⟨t', c', hh, hs, hr⟩ := hh hnl
      cases hb : Nat.ble (o + n) sz with
      | false => simp [hb] at hl
      | true =>
        simp only [hb, cond_true, Option.some.injEq] at hl; subst hl
        have hle := Nat.le_of_ble_eq_true hb
        refine ⟨_, (List.range n).map fun j => (c'[i * sz + (o + j)]?).getD undef, rfl, by simp [rdRow_length], ?_, fun j v hv => ?_⟩
        · have := SRepL.of (cx := cx) (w := w) (c := rdRow (f i) o n) (g := fun j => (c'[i * sz + (o + j)]?).getD undef) ?_
          · simpa [rdRow_length] using this
          · intro j x hx
            have hj : j < n := by
              have := (List.getElem?_eq_some_iff.1 hx).1
              simpa [rdRow_length] using this
            rw [rdRow_spec _ _ _ _ hj] at hx
            simp only [Option.some.injEq] at hx; subst hx
            obtain ⟨x, hx, hd⟩ := hr i (by omega) (o + j) (by omega)
            simp only [hx, Option.getD_some, SRep]; exact hd
        · rw [addr_add]
          simp only [List.getElem?_map] at hv
          rcases Nat.lt_or_ge j n with hj | hj
          · rw [List.getElem?_range hj] at hv
            simp only [Option.map_some, Option.some.injEq] at hv
            obtain ⟨x, hx, hd⟩ := hr i (by omega) (o + j) (by omega)
            rw [hx] at hv; simp at hv; subst hv
            simp [World.cell?, ad, hh, hrs, Nat.add_assoc, hx]
          · simp [List.getElem?_eq_none (l := List.range n) (by simpa using hj)] at hv
    · rename_i t k xs hg
      rw [hg] at ho
      obtain ⟨hln, hrs, hcp, _, hh⟩ := ho
      obtain ⟨t', c', hh, hs, hr⟩ := hh hnl
      cases hb : (Nat.beq o 0 && Nat.beq n 1) with
      | false => simp [hb] at hl
      | true =>
        simp only [hb, cond_true, Option.some.injEq] at hl; subst hl
        simp only [Bool.and_eq_true] at hb
        have h0 : o = 0 := Nat.eq_of_beq_eq_true hb.1
        have h1 : n = 1 := Nat.eq_of_beq_eq_true hb.2
        subst h0; subst h1
        refine ⟨_, [.int k (xs.getD i 0)], rfl, rfl, by simp [SRepL, SRep, DRep, cellV], fun j v hv => ?_⟩
        rw [addr_add]
        cases j with
        | zero =>
          simp at hv; subst hv
          have := hr i (by omega)
          simp [World.cell?, ad, hh, hrs, this]
        | succ j => simp at hv
    · simp at hl
  | rp sz f o =>
    simp only [ld] at hl
    simp only [SRep] at hp
    obtain ⟨b, o', rfl, hb, hr⟩ := hp
    cases hbl : Nat.ble (o + n) sz with
    | false => simp [hbl] at hl
    | true =>
      simp only [hbl, cond_true, Option.some.injEq] at hl; subst hl
      have hle := Nat.le_of_ble_eq_true hbl
      refine ⟨_, (List.range n).map fun j => (w.cell? (ad b (o' + (o + j)))).getD undef, rfl, by simp [rdRow_length], ?_, fun j v hv => ?_⟩
      · have := SRepL.of (cx := cx) (w := w) (c := rdRow f o n) (g := fun j => (w.cell? (ad b (o' + (o + j)))).getD undef) ?_
        · simpa [rdRow_length] using this
        · intro j x hx
          have hj : j < n := by
            have := (List.getElem?_eq_some_iff.1 hx).1
            simpa [rdRow_length] using this
          rw [rdRow_spec _ _ _ _ hj] at hx
          simp only [Option.some.injEq] at hx; subst hx
          obtain ⟨x, hx, hd⟩ := hr (o + j) (by omega)
          simp only [hx, Option.getD_some, SRep]; exact hd
      · rw [addr_add]
        simp only [List.getElem?_map] at hv
        rcases Nat.lt_or_ge j n with hj | hj
        · rw [List.getElem?_range hj] at hv
          simp only [Option.map_some, Option.some.injEq] at hv
          obtain ⟨x, hx, hd⟩ := hr (o + j) (by omega)
          rw [hx] at hv; simp at hv; subst hv
          rw [show o' + o + j = o' + (o + j) by omega]; exact hx
        · simp [List.getElem?_eq_none (l := List.range n) (by simpa using hj)] at hv
  | _ => simp [ld] at hl

theorem snd_ld {P : Program} {o : Oper} {x : Operand} {y : CA} {t : TypeId} {s : SS} {c : List SV} (ho : o.op = .load t x) (hc : coA x = some y)
    (hu : uT P t ≠ .invalid) (hl : ld s.h (ev s.t y) (ldT P t) = some c) (v : SV) (hv : (aggT P t = true ∧ v = .agg c) ∨ (aggT P t = false ∧ c = [v])) : Still P o s v := by
  intro cx w a hg ht
  obtain ⟨ad', c', hp, hlen, hr, hcell⟩ := ld_sound hg (eval_coA hc ht) hl
  rcases hv with ⟨ha, rfl⟩ | ⟨ha, rfl⟩
  · refine ⟨.agg ⟨c'⟩, ?_, by simp only [SRep]; exact ⟨c', rfl, hr⟩⟩
    have hln : szT P t = c'.length := by rw [← hr.length, hlen]; simp [ldT, ha]
    have := run_loadCells_list (P := P) (w := w) ad' c' hcell
    simp [execOp, ho, Instr.loadAt, hp, Instr.sureAddr, loadVar, run_aggT w hu, ha, run_szT w (info_of_uT hu).2, hln, this]
  · have hln := hr.length
    match c', hln, hr, hcell with
    | [v'], _, hr, hcell =>
      refine ⟨v', ?_, by simp only [SRepL] at hr; exact hr.1⟩
      have h0 := hcell 0 v' rfl
      have : (ad'.add 0) = ad' := by simp [Addr.add]
      rw [this] at h0
      simp [execOp, ho, Instr.loadAt, hp, Instr.sureAddr, loadVar, run_aggT w hu, ha, load, Sem.run, h0]
end Go.Sx

/- Operations, second part: what is written and made. -/
namespace Go.Sx

theorem kEq_eq {a b : IntKind} (h : kEq a b = true) : a = b := by cases a <;> cases b <;> first | rfl | simp [kEq] at h

/-! ### cells of a value -/
theorem one_of_isCell {cx : Cx} {w : World} {x : SV} {u : Value} (h : isCell x = true) (hr : SRep cx w x u) : u.oneCell' = true := by
  cases x with
  | d x =>
    simp only [SRep] at hr
    cases x with
    | v y => obtain ⟨rfl, hc⟩ := hr; cases u <;> simp_all [cellV, Value.oneCell']
    | ints k l => obtain ⟨a, c, rfl, _⟩ := hr; rfl
    | sl sz n f => obtain ⟨a, c, rfl, _⟩ := hr; rfl
  | ptr l o => simp only [SRep] at hr; rw [hr.2]; rfl
  | pe l i o => simp only [SRep] at hr; rw [hr.2.1]; rfl
  | rp sz f o => simp only [SRep] at hr; obtain ⟨b, o', rfl, _⟩ := hr; rfl
  | own l => simp only [SRep] at hr; rw [hr.2]; rfl
  | cs l o sz n c => simp only [SRep] at hr; rw [hr.2]; rfl
  | mp l => simp only [SRep] at hr; rw [hr.2]; rfl
  | fn g a b => simp only [SRep] at hr; obtain ⟨a', b', rfl, _⟩ := hr; rfl
  | agg c => simp [isCell] at h
  | tup c => simp [isCell] at h
  | top => simp [isCell] at h

theorem one_of_all {cx : Cx} {w : World} : ∀ {c : List SV} {c' : List Value}, allCells c = true → SRepL cx w c c' → ∀ v ∈ c', v.oneCell' = true
  | [], [], _, _, v, hv => by simp at hv
  | x :: r, y :: vs, h, hr, v, hv => by
    simp only [allCells, Bool.and_eq_true, SRepL] at h hr
    rcases List.mem_cons.1 hv with rfl | hv
    · exact one_of_isCell h.1 hr.1
    · exact one_of_all h.2 hr.2 v hv
  | [], _ :: _, _, h, _, _ => by simp [SRepL] at h
  | _ :: _, [], _, h, _, _ => by simp [SRepL] at h

theorem cells_of_one {u : Value} (h : u.oneCell' = true) : u.cells = #[u] := by cases u <;> simp_all [Value.oneCell', Value.cells]

theorem cellsOf_sound {cx : Cx} {w : World} {x : SV} {u : Value} {c : List SV} (h : cellsOf x = some c) (hr : SRep cx w x u) :
    ∃ c', u.cells = ⟨c'⟩ ∧ SRepL cx w c c' ∧ ∀ v ∈ c', v.oneCell' = true := by
  by_cases hag : ∃ cs, x = .agg cs
  · obtain ⟨cs, rfl⟩ := hag
    simp only [cellsOf] at h
    cases ha : allCells cs with
    | false => simp [ha] at h
    | true =>
      simp only [ha, cond_true, Option.some.injEq] at h; subst h
      simp only [SRep] at hr
      obtain ⟨c', rfl, hr⟩ := hr
      exact ⟨c', rfl, hr, one_of_all ha hr⟩
  · have e : cellsOf x = (bif isCell x then some [x] else none) := by
      cases x <;> first | rfl | exact absurd ⟨_, rfl⟩ hag
    rw [e] at h
    cases hi : isCell x with
    | false => simp [hi] at h
    | true =>
      simp only [hi, cond_true, Option.some.injEq] at h; subst h
      have h1 := one_of_isCell hi hr
      exact ⟨[u], cells_of_one h1, by simp only [SRepL]; exact ⟨hr, trivial⟩, fun v hv => by simp at hv; subst hv; exact h1⟩

/-! ### making -/
theorem OpOK0.new {P : Program} {o : Oper} {s : SS} {v : SV} {so : SO}
    (h : ∀ (cx : Cx) (w : World) (a : Act), Gam cx s.h w → TRep cx w s.t a.tmps → ∃ (v' : Value) (w0 : World) (ob : Obj) (ln cp : Nat) (nl : Bool) (rs : Nat), (w0.heap = w.heap ∧ w0.os = w.os ∧ w0.output = w.output ∧ ∃ c t, ob = .cells c t (0, 0)) ∧
      (execOp a.eval o).run P w = .ok (.value v') { w0 with heap := w0.heap.push ob } ∧
      (∀ cx' w', cx' = cx.ext w.heap.size ln cp nl rs → w' = { w0 with heap := w0.heap.push ob } → Grow0 cx w cx' w' → ORep cx' w' cx.n so ∧ SRep cx' w' v v')) :
    OpOK0 P o s v ⟨s.t, s.h ++ [so]⟩ := by
  intro cx w a hg ht next Q hk
  obtain ⟨v', w0, ob, ln, cp, nl, rs, ⟨hh, hh1, hh2, hob⟩, hr, hb⟩ := h cx w a hg ht
  obtain ⟨hg0, g0⟩ := Gam.world hg (w' := w0) hh hh1 hh2
  have e : w0.heap.size = w.heap.size := by rw [hh]
  have gr : Grow0 cx w (cx.ext w.heap.size ln cp nl rs) { w0 with heap := w0.heap.push ob } := g0.trans (Grow.ext cx w0 ob w.heap.size ln cp nl rs hg0.fzlt hob)
  obtain ⟨h1, h2⟩ := hb _ _ rfl rfl gr
  have hp := Gam.push hg0 so ob ln cp nl rs hob (by rw [e]; exact h1)
  rw [e] at hp
  unfold Oper.wp
  rw [hr, Oper.upon_value]
  exact hk _ _ v' gr h2 (ht.grow gr) hp.1

theorem zcT_sound {P : Program} {t : TypeId} {z : List SV} (h : zcT P t = some z) : ∃ i zv c', P.info? t = some i ∧ i.zero = some zv ∧ zv.cells = ⟨c'⟩ ∧ z.length = szT P t ∧ i.size = szT P t ∧
    ∀ cx w, SRepL cx w z c' ∧ ∀ v ∈ c', v.oneCell' = true := by
  unfold zcT zT at h
  cases hi : P.info? t with
  | none => simp [hi] at h
  | some i =>
    cases hz : i.zero with
    | none => simp [hi, hz] at h
    | some zv =>
      simp only [hi, hz] at h
      cases hc : cellsOf (cst zv) with
      | none => simp [hc] at h
      | some c =>
        simp only [hc] at h
        cases hb : Nat.beq c.length (szT P t) with
        | false => simp [hb] at h
        | true =>
          simp only [hb, cond_true, Option.some.injEq] at h; subst h
          have hs : ∀ cx w, ∃ c', zv.cells = ⟨c'⟩ ∧ SRepL cx w c c' ∧ ∀ v ∈ c', v.oneCell' = true := fun cx w => cellsOf_sound hc (SRep.cst zv)
          refine ⟨i, zv, zv.cells.toList, rfl, hz, by simp, Nat.eq_of_beq_eq_true hb, by simp [szT, hi], fun cx w => ?_⟩
          obtain ⟨c', e, h1, h2⟩ := hs cx w
          rw [e]; exact ⟨h1, h2⟩

theorem snd_newc {P : Program} {o : Oper} {t : TypeId} {s : SS} {z : List SV} (ho : o.op = .alloc t) (hz : zcT P t = some z) :
    OpOK0 P o s (.ptr s.h.length 0) ⟨s.t, s.h ++ [.cells t z]⟩ := by
  refine OpOK0.new fun cx w a hg ht => ?_
  obtain ⟨i, zv, c', hi, hzv, hc, _, _, hr⟩ := zcT_sound hz
  refine ⟨.pointer (some (ad w.heap.size 0)), w, .cells zv.cells t, 0, 0, false, 0, ⟨rfl, rfl, rfl, _, _, rfl⟩, ?_, fun cx' w' e1 e2 _ => ?_⟩
  · simp [execOp, ho, Instr.alloc, zeroValue, typeInfo, hi, hzv, newVar, newRow, ad]
  · subst e1; subst e2
    refine ⟨⟨t, c', by simp [Cx.ext, hc], (hr _ _).1⟩, ?_⟩
    simp only [SRep, Cx.ext, hg.n]; simp [← hg.n]

theorem snd_box {P : Program} {o : Oper} {t : TypeId} {x : Operand} {y : CA} {s : SS} {c : List SV} (ho : o.op = .box t x) (hc : coA x = some y) (hz : cellsOf (ev s.t y) = some c) :
    OpOK0 P o s (.ptr s.h.length 0) ⟨s.t, s.h ++ [.cells t c]⟩ := by
  refine OpOK0.new fun cx w a hg ht => ?_
  obtain ⟨c', e, hr, _⟩ := cellsOf_sound hz (eval_coA hc ht)
  refine ⟨.pointer (some (ad w.heap.size 0)), w, .cells (a.eval x).cells t, 0, 0, false, 0, ⟨rfl, rfl, rfl, _, _, rfl⟩, ?_, fun cx' w' e1 e2 gr => ?_⟩
  · simp [execOp, ho, Instr.box, newVar, newRow, ad]
  · refine ⟨⟨t, c', by subst e1; subst e2; simp [Cx.ext, e], hr.grow gr⟩, ?_⟩
    subst e1; subst e2
    simp only [SRep, Cx.ext, hg.n]; simp [← hg.n]

/-! ### writing -/
theorem SRepL.toD {cx : Cx} {w : World} : ∀ {ys : List SV} {ds : List DV} {vs : List Value}, asDs ys = some ds → SRepL cx w ys vs → ds.length = vs.length ∧ ∀ j, j < ds.length → ∃ v, vs[j]? = some v ∧ DRep cx.fz w (ds.getD j (.v undef)) v
  | [], ds, [], h, _ => by simp [asDs] at h; subst h; simp
  | x :: r, ds, v :: vs, h, hr => by
    cases x with
    | d x =>
      simp only [asDs] at h
      split at h
      · rename_i l hl
        simp only [Option.some.injEq] at h; subst h
        simp only [SRepL, SRep] at hr
        obtain ⟨h1, h2⟩ := SRepL.toD hl hr.2
        refine ⟨by simp [h1], fun j hj => ?_⟩
        cases j with
        | zero => exact ⟨v, rfl, by simpa using hr.1⟩
        | succ j => simpa using h2 j (by simpa using hj)
      · simp at h
    | _ => simp [asDs] at h
  | [], _, _ :: _, _, h => by simp [SRepL] at h
  | _ :: _, _, [], _, h => by simp [SRepL] at h

theorem frz_sound {cx : Cx} {h h1 : SH} {w : World} (g : Gam cx h w) {x y : SV} {u : Value} (hx : SRep cx w x u) (hf : frz h x = some (y, h1)) :
    ∃ cx1, Gam cx1 h1 w ∧ Grow0 cx w cx1 w ∧ SRep cx1 w y u ∧ cx1.th = cx.th ∧ cx1.nl = cx.nl := by
  cases x with
  | own l =>
    simp only [frz] at hf
    simp only [SRep] at hx
    obtain ⟨hn, rfl⟩ := hx
    have ho := g.obj l
    split at hf
    · rename_i t k xs hg
      simp only [Option.some.injEq, Prod.mk.injEq] at hf; obtain ⟨rfl, rfl⟩ := hf
      rw [hg] at ho
      obtain ⟨hln, hrs, hcp, hz, hh⟩ := ho
      cases hnl : cx.nl l with
      | true =>
        refine ⟨cx, g.killNil (by simp [liv, hg, hnl]), Grow.refl _ _ _, ?_, rfl, rfl⟩
        have := hz hnl
        have h0 : xs.length = 0 := by omega
        simp only [SRep, DRep, cond_true, hln]
        exact ⟨_, _, rfl, hcp, fun hne => absurd (List.length_eq_zero_iff.1 h0) hne⟩
      | false =>
        have hv : liv cx h l := by simp [liv, hg, hnl]
        obtain ⟨hG, gr⟩ := g.kill hv
        obtain ⟨t', c', hb, hs, hr⟩ := hh hnl
        refine ⟨_, hG, gr, ?_, rfl, rfl⟩
        simp only [SRep, DRep, cond_false, hln]
        refine ⟨_, _, rfl, hcp, fun _ => ⟨cx.th l, 0, rfl, .inr rfl, fun i hi => ?_⟩⟩
        simp [World.cell?, ad, hb, hr i hi]
    · rename_i t sz n f hg
      simp only [Option.some.injEq, Prod.mk.injEq] at hf; obtain ⟨rfl, rfl⟩ := hf
      rw [hg] at ho
      obtain ⟨hln, hrs, hcp, hz, hh⟩ := ho
      cases hnl : cx.nl l with
      | true =>
        refine ⟨cx, g.killNil (by simp [liv, hg, hnl]), Grow.refl _ _ _, ?_, rfl, rfl⟩
        have := hz hnl
        simp only [SRep, DRep, cond_true, hln]
        exact ⟨_, _, rfl, hcp, fun hne => absurd (by omega) hne⟩
      | false =>
        have hv : liv cx h l := by simp [liv, hg, hnl]
        obtain ⟨hG, gr⟩ := g.kill hv
        obtain ⟨t', c', hb, hs, hr⟩ := hh hnl
        refine ⟨_, hG, gr, ?_, rfl, rfl⟩
        simp only [SRep, DRep, cond_false, hln]
        refine ⟨_, _, rfl, hcp, fun _ => ⟨cx.th l, 0, rfl, .inr rfl, fun i hi j hj => ?_⟩⟩
        obtain ⟨x, hx, hd⟩ := hr i hi j hj
        exact ⟨x, by simp [World.cell?, ad, hb, hx], DRep.mono gr.fz gr.samef _ _ hd⟩
    · simp at hf
  | _ =>
    simp only [frz, Option.some.injEq, Prod.mk.injEq] at hf; obtain ⟨rfl, rfl⟩ := hf
    exact ⟨cx, g, Grow.refl _ _ _, hx, rfl, rfl⟩
end Go.Sx

/- Operations, third part: stores. -/
namespace Go.Sx

theorem frzL_sound {w : World} : ∀ {xs ys : List SV} {h h1 : SH} {cx : Cx} {us : List Value}, Gam cx h w → SRepL cx w xs us → frzL h xs = some (ys, h1) →
    ∃ cx1, Gam cx1 h1 w ∧ Grow0 cx w cx1 w ∧ SRepL cx1 w ys us ∧ cx1.th = cx.th ∧ cx1.nl = cx.nl
  | [], ys, h, h1, cx, us, g, hr, hf => by
    simp only [frzL, Option.some.injEq, Prod.mk.injEq] at hf; obtain ⟨rfl, rfl⟩ := hf
    exact ⟨cx, g, Grow.refl _ _ _, hr, rfl, rfl⟩
  | x :: r, ys, h, h1, cx, u :: us, g, hr, hf => by
    simp only [frzL] at hf
    simp only [SRepL] at hr
    split at hf
    · rename_i y h2 h3
      split at hf
      · rename_i zs h4 h5
        simp only [Option.some.injEq, Prod.mk.injEq] at hf; obtain ⟨rfl, rfl⟩ := hf
        obtain ⟨cx1, g1, gr1, hy, e1, e2⟩ := frz_sound g hr.1 h3
        obtain ⟨cx2, g2, gr2, hz, e3, e4⟩ := frzL_sound (h := h2) g1 (hr.2.grow gr1) h5
        refine ⟨cx2, g2, gr1.trans gr2, ?_, by rw [e3, e1], by rw [e4, e2]⟩
        simp only [SRepL]; exact ⟨hy.grow gr2, hz⟩
      · simp at hf
    · simp at hf
  | _ :: _, _, _, _, _, [], _, hr, _ => by simp [SRepL] at hr

theorem setRow_get (w : World) (g : Nat) (cs cur : Array Value) (t : TypeId) (h : w.heap[g]? = some (.cells cur t (0, 0))) : (w.setRow g cs).heap[g]? = some (.cells cs t (0, 0)) := setRow_heap w g cur cs t (0, 0) h
theorem setRow_ne (w : World) (g b : Nat) (cs : Array Value) (h : b ≠ g) : (w.setRow g cs).heap[b]? = w.heap[b]? := by
  simp [World.setRow, Array.getElem?_modify, Ne.symm h]
theorem setRow_size (w : World) (g : Nat) (cs : Array Value) : (w.setRow g cs).heap.size = w.heap.size := by simp [World.setRow]

theorem frozen_setRow (w : World) (g : Nat) (cs : Array Value) (a : Addr) : (w.setRow g cs).frozen? a = w.frozen? a := by
  simp only [World.frozen?, World.setRow, Array.getElem?_modify]
  by_cases h : g = a.block
  · subst h
    simp only [if_true]
    cases w.heap[a.block]? with
    | none => rfl
    | some o => cases o <;> rfl
  · simp [h]

theorem Io.setRow (w : World) (g : Nat) (cs : Array Value) : Io w (w.setRow g cs) := ⟨rfl, rfl, frozen_setRow w g cs⟩

/-- What sto writes, storeCells does. -/
theorem sto_sound {P : Program} {cx : Cx} {h h' : SH} {w : World} (g : Gam cx h w) {p : SV} {u : Value} (hp : SRep cx w p u) {xs : List SV} {vs : List Value}
    (hx : SRepL cx w xs vs) (h1 : ∀ v ∈ vs, v.oneCell' = true) (hne : xs ≠ []) (hs : sto h p xs = some h') :
    ∃ a w' cx', u = .pointer (some a) ∧ (storeCells a vs).run P w = .ok () w' ∧ Gam cx' h' w' ∧ Grow0 cx w cx' w' := by
  cases p with
  | ptr l o =>
    simp only [sto] at hs
    simp only [SRep] at hp
    obtain ⟨hn, rfl⟩ := hp
    have ho := g.obj l
    split at hs
    · rename_i t cs hg
      rw [hg] at ho
      obtain ⟨t', c', hh, hr⟩ := ho
      cases hb : Nat.ble (o + xs.length) cs.length with
      | false => simp [hb] at hs
      | true =>
        simp only [hb, cond_true, Option.some.injEq] at hs; subst hs
        have hle := Nat.le_of_ble_eq_true hb
        have hxl := hx.length
        have hcl := hr.length
        have hst := run_storeCells_at P (cx.th l) o t' vs 0 ⟨c'⟩ w hh (by simp; omega) h1
        have hv : liv cx h l := by simp [liv, hg]
        refine ⟨_, _, cx, rfl, hst, ?_⟩
        refine Gam.write g hv _ (.inl ?_) (setRow_size _ _ _) (fun b hbn => setRow_ne _ _ _ _ hbn) ⟨t', _, setRow_get w _ _ _ t' hh, ?_⟩ (Io.setRow _ _ _)
        · simp [liv, hget_set_eq (lt_of_liv hv)]
        · simp only [Nat.add_zero, ← hxl, List.append_assoc]
          exact (SRepL.append (hr.take o) (hx.append (hr.drop _))).mono (p := fun _ => false) ⟨fun _ h => h, fun b hbf => setRow_ne _ _ _ _ (fun (e : b = cx.th l) => g.own l hv (e ▸ hbf)), by rw [setRow_size]; exact Nat.le_refl _, fun _ h _ => ⟨h, rfl, rfl, rfl, rfl, rfl⟩, rfl, Io.setRow _ _ _⟩ _ _ (mentL_none _)
    · simp at hs
  | pe l i o =>
    simp only [sto] at hs
    split at hs
    · simp at hs
    · rename_i ys h2 hfz
      obtain ⟨cx1, g1, gr1, hy, eth, enl⟩ := frzL_sound (h := h) g hx hfz
      simp only [SRep] at hp
      obtain ⟨hn, rfl, hi, hnl⟩ := hp
      obtain ⟨hn1, e1, e2, e3, e4, e5⟩ := gr1.loc l hn rfl
      have ho := g1.obj l
      have hyl := hy.length
      have hxl := hx.length
      split at hs
      · rename_i t sz n f hg
        rw [hg] at ho
        obtain ⟨hln, hrs, hcp, _, hh⟩ := ho
        rw [← e4] at hnl
        obtain ⟨t', c', hh, hsz, hr⟩ := hh hnl
        cases hb : Nat.ble (o + ys.length) sz with
        | false => simp [hb] at hs
        | true =>
          simp only [hb, cond_true] at hs
          have hle := Nat.le_of_ble_eq_true hb
          split at hs
          · rename_i ds hds
            simp only [Option.some.injEq] at hs; subst hs
            obtain ⟨hdl, hd⟩ := hy.toD hds
            have hv : liv cx1 h2 l := by simp [liv, hg, hnl]
            rw [← e1, ← e5, hrs]
            rw [← e2, hln] at hi
            have hsp : i * sz + sz ≤ c'.size := by
              have : (i + 1) * sz ≤ cx1.cp l * sz := Nat.mul_le_mul_right _ (by omega)
              rw [Nat.add_mul, Nat.one_mul] at this; omega
            have hst := run_storeCells_at P (cx1.th l) (i * sz + o) t' vs 0 c' w hh (by omega) h1
            refine ⟨_, _, cx1, rfl, hst, ?_⟩
            have hW := Gam.write (w' := w.setRow (cx1.th l) (c'.toList.take (i * sz + o + 0) ++ vs ++ c'.toList.drop (i * sz + o + 0 + vs.length)).toArray) g1 hv (.row t sz n (updRow f i o ds)) (.inl ?_) (setRow_size _ _ _) (fun b hbn => setRow_ne _ _ _ _ hbn) ?_ (Io.setRow _ _ _)
            · exact ⟨hW.1, gr1.trans hW.2⟩
            · simp [liv, hget_set_eq (lt_of_liv hv), hnl]
            · refine ⟨hln, hrs, hcp, fun e => by simp [hnl] at e, fun _ => ⟨t', _, setRow_get w _ _ _ t' hh, ?_, fun i' hi' j hj => ?_⟩⟩
              · simp; omega
              · have grw : ∀ b, cx1.fz b → (w.setRow (cx1.th l) (c'.toList.take (i * sz + o + 0) ++ vs ++ c'.toList.drop (i * sz + o + 0 + vs.length)).toArray).heap[b]? = w.heap[b]? := fun b hbf => setRow_ne _ _ _ _ (fun e => g1.own l hv (e ▸ .inl hbf))
                by_cases hij : i' = i ∧ o ≤ j ∧ j < o + ds.length
                · obtain ⟨rfl, h3, h4⟩ := hij
                  obtain ⟨v, hv1, hv2⟩ := hd (j - o) (by omega)
                  refine ⟨v, ?_, ?_⟩
                  · simp only [Nat.add_zero, List.getElem?_toArray]
                    rw [List.append_assoc, List.getElem?_append_right (by simp; omega), List.getElem?_append_left (by simp; omega)]
                    rw [List.length_take, Array.length_toList, Nat.min_eq_left (by omega)]
                    rw [show i' * sz + j - (i' * sz + o) = j - o by omega]; exact hv1
                  · have : updRow f i' o ds i' j = ds.getD (j - o) (.v undef) := by
                      simp [updRow, Nat.ble_eq_true_of_le h3, Nat.blt, Nat.ble_eq_true_of_le (show j + 1 ≤ o + ds.length by omega)]
                    rw [this]
                    exact DRep.mono (fun _ h => h) grw _ _ hv2
                · obtain ⟨x, hx1, hx2⟩ := hr i' hi' j hj
                  have hout : i' * sz + j < i * sz + o ∨ i * sz + o + vs.length ≤ i' * sz + j := by
                    rcases Nat.lt_trichotomy i' i with h5 | h5 | h5
                    · left
                      have : (i' + 1) * sz ≤ i * sz := Nat.mul_le_mul_right _ (by omega)
                      rw [Nat.add_mul, Nat.one_mul] at this; omega
                    · subst h5
                      rcases Nat.lt_or_ge j o with h6 | h6
                      · left; omega
                      · right
                        have : o + ds.length ≤ j := by
                          rcases Nat.lt_or_ge j (o + ds.length) with h7 | h7
                          · exact absurd ⟨rfl, h6, h7⟩ hij
                          · exact h7
                        omega
                    · right
                      have : (i + 1) * sz ≤ i' * sz := Nat.mul_le_mul_right _ (by omega)
                      rw [Nat.add_mul, Nat.one_mul] at this; omega
                  refine ⟨x, ?_, ?_⟩
                  · simp only [Nat.add_zero, List.getElem?_toArray]
                    have hx1' : c'.toList[i' * sz + j]? = some x := by simpa using hx1
                    rcases hout with h5 | h5
                    · rw [List.append_assoc, List.getElem?_append_left (by have := (Array.getElem?_eq_some_iff.1 hx1).1; simp; omega), List.getElem?_take, if_pos h5]; exact hx1'
                    · rw [List.getElem?_append_right (by simp; omega), List.getElem?_drop]
                      have : i * sz + o + vs.length + (i' * sz + j - (List.take (i * sz + o) c'.toList ++ vs).length) = i' * sz + j := by simp; omega
                      rw [this]; exact hx1'
                  · have : updRow f i o ds i' j = f i' j := by
                      unfold updRow
                      have : (Nat.beq i' i && (Nat.ble o j && Nat.blt j (o + ds.length))) = false := by
                        rw [Bool.eq_false_iff]; intro hc
                        simp only [Bool.and_eq_true] at hc
                        exact hij ⟨Nat.eq_of_beq_eq_true hc.1, Nat.le_of_ble_eq_true hc.2.1, Nat.le_of_ble_eq_true hc.2.2⟩
                      rw [this]; rfl
                    rw [this]
                    exact DRep.mono (fun _ h => h) grw _ _ hx2
          · simp at hs
      · rename_i t k xs' hg
        rw [hg] at ho
        obtain ⟨hln, hrs, hcp, _, hh⟩ := ho
        rw [← e4] at hnl
        obtain ⟨t', c', hh, hsz, hr⟩ := hh hnl
        split at hs
        · rename_i k' x
          cases hb : (Nat.beq o 0 && kEq k k') with
          | false => simp [hb] at hs
          | true =>
            simp only [hb, cond_true, Option.some.injEq] at hs; subst hs
            simp only [Bool.and_eq_true] at hb
            have h0 : o = 0 := Nat.eq_of_beq_eq_true hb.1
            have hk := kEq_eq hb.2
            subst h0; subst hk
            match vs, hy, h1, hyl, hxl with
            | [v], hy, h1, _, _ =>
            simp only [SRepL, SRep, DRep] at hy
            obtain ⟨⟨rfl, _⟩, _⟩ := hy
            have hv : liv cx1 h2 l := by simp [liv, hg, hnl]
            rw [← e1, ← e5, hrs]
            rw [← e2, hln] at hi
            have hst := run_storeCells_at P (cx1.th l) (i * 1 + 0) t' [.int k x] 0 c' w hh (by simp; omega) h1
            refine ⟨_, _, cx1, rfl, hst, ?_⟩
            have hW := Gam.write (w' := w.setRow (cx1.th l) (c'.toList.take (i * 1 + 0 + 0) ++ [Value.int k x] ++ c'.toList.drop (i * 1 + 0 + 0 + [Value.int k x].length)).toArray) g1 hv (.rowi t k (xs'.set i x)) (.inl ?_) (setRow_size _ _ _) (fun b hbn => setRow_ne _ _ _ _ hbn) ?_ (Io.setRow _ _ _)
            · exact ⟨hW.1, gr1.trans hW.2⟩
            · simp [liv, hget_set_eq (lt_of_liv hv), hnl]
            · refine ⟨by simpa using hln, hrs, by simpa using hcp, fun e => by simp [hnl] at e, fun _ => ⟨t', _, setRow_get w _ _ _ t' hh, ?_, fun j hj => ?_⟩⟩
              · simp; omega
              · simp only [Nat.mul_one, Nat.add_zero, List.getElem?_toArray, List.length_singleton]
                simp only [List.length_set] at hj
                have hrj := hr j hj
                have hrj' : c'.toList[j]? = some (.int k (xs'.getD j 0)) := by simpa using hrj
                rcases Nat.lt_trichotomy j i with h5 | h5 | h5
                · rw [List.append_assoc, List.getElem?_append_left (by simp; omega), List.getElem?_take, if_pos h5, hrj']
                  simp [List.getD_eq_getElem?_getD, List.getElem?_set_ne (show i ≠ j by omega)]
                · subst h5
                  have hjc : j ≤ c'.size := by omega
                  rw [List.append_assoc, List.getElem?_append_right (by simp; omega)]
                  simp [List.getD_eq_getElem?_getD, hj, Nat.min_eq_left hjc]
                · rw [List.getElem?_append_right (by simp; omega), List.getElem?_drop]
                  have : i + 1 + (j - (List.take i c'.toList ++ [Value.int k x]).length) = j := by simp; omega
                  rw [this, hrj']
                  simp [List.getD_eq_getElem?_getD, List.getElem?_set_ne (show i ≠ j by omega)]
        · simp at hs
      · simp at hs
  | _ => simp [sto] at hs

theorem snd_st {P : Program} {o : Oper} {p x : Operand} {q y : CA} {t : TypeId} {s : SS} {c : List SV} {h' : SH} (ho : o.op = .store t p x) (hp : coA p = some q) (hx : coA x = some y)
    (hz : szT P t ≠ 0) (hc : cellsOf (ev s.t y) = some c) (hl : c.length = szT P t) (hs : sto s.h (ev s.t q) c = some h') : OpOK0 P o s .top ⟨s.t, h'⟩ := by
  intro cx w a hg ht next Q hk
  obtain ⟨c', e, hr, h1⟩ := cellsOf_sound hc (eval_coA hx ht)
  obtain ⟨ad', w', cx', hpe, hrun, hg', gr⟩ := sto_sound (P := P) hg (eval_coA hp ht) hr h1 (by intro e; simp [e] at hl; exact hz hl.symm) hs
  have hlen : c'.length = szT P t := by rw [← hr.length, hl]
  have : (execOp a.eval o).run P w = .ok .skip w' := by
    simp [execOp, ho, Instr.storeAt, hpe, Instr.sureAddr, storeVar, run_szT w (t := t) (by obtain ⟨i, hi, _⟩ := info_of_sz hz; exact ⟨i, hi⟩), e, hlen, hrun]
  unfold Oper.wp
  rw [this, Oper.upon_skip]
  exact hk cx' w' undef gr (by simp [SRep]) (ht.grow gr) hg'
end Go.Sx

/- Operations, fourth part: scalars, places, indexes. -/
namespace Go.Sx

/-- A result of the continuation-passing kind: some value reached, the machine's value with it. -/
def Plain (P : Program) (A : Ann) (o : Oper) (s : SS) {Ω : Type} (k : SV → List Nat → SS → Option Ω) (out : Ω) : Prop :=
  ∃ v m s', k v m s' = some out ∧ s'.t.Sublist s.t ∧ OpOK P A o s v s'

/-- But for the locs of m the heap is as it was. -/
def Keeps (m : List Nat) (h h' : SH) : Prop := h.length ≤ h'.length ∧ ∀ l, l < h.length → nmem l m = false → hget h' l = hget h l

theorem Keeps.new (h : SH) (so : SO) : Keeps [] h (h ++ [so]) := ⟨by simp, fun l hl _ => by simp [hget, List.getD_eq_getElem?_getD, List.getElem?_append_left hl]⟩

/-- An operation that makes or writes and lets all temporaries stand. -/
def PlainE (P : Program) (o : Oper) (s : SS) {Ω : Type} (k : SV → List Nat → SS → Option Ω) (out : Ω) : Prop :=
  ∃ v m h', k v m ⟨s.t, h'⟩ = some out ∧ OpOK0 P o s v ⟨s.t, h'⟩ ∧ Keeps m s.h h'

theorem PlainV.plain {P : Program} {A : Ann} {o : Oper} {s : SS} {Ω : Type} {k : SV → List Nat → SS → Option Ω} {out : Ω} (h : PlainV P o s k out) : Plain P A o s k out :=
  let ⟨v, h1, h2⟩ := h; ⟨v, [], s, h1, .refl _, h2.op.weak fun _ _ => rfl⟩
theorem PlainE.plain {P : Program} {A : Ann} {o : Oper} {s : SS} {Ω : Type} {k : SV → List Nat → SS → Option Ω} {out : Ω} (h : PlainE P o s k out) : Plain P A o s k out :=
  let ⟨v, m, h', h1, h2, _⟩ := h; ⟨v, m, _, h1, .refl _, h2.weak fun _ _ => rfl⟩

section
variable {P : Program} {A : Ann} {o : Oper} {s : SS} {Ω : Type} {k : SV → List Nat → SS → Option Ω} {out : Ω}

theorem br_some {α : Type} {b : Bool} {x y : Option α} {r : α} (h : br b x y = some r) : (b = true ∧ x = some r) ∨ (b = false ∧ y = some r) := by
  cases b with
  | true => exact .inl ⟨rfl, h⟩
  | false => exact .inr ⟨rfl, h⟩

theorem cond_some {α : Type} {b : Bool} {x : Option α} {r : α} (h : (bif b then x else none) = some r) : b = true ∧ x = some r := by
  cases b with
  | true => exact ⟨rfl, h⟩
  | false => simp at h

theorem snd_pick {c a b : Operand} {c' a' b' : CA} (ho : o.op = .pick c a b) (hc : coA c = some c') (ha : coA a = some a') (hb : coA b = some b')
    {env : Env Ω} (h : sop env A (.pick c' a' b') s k = some out) : PlainV P o s k out := by
  simp only [sop] at h
  have hx : ∀ (cx : Cx) (w : World) (t : Act) (x : Bool), TRep cx w s.t t.tmps → ev s.t c' = .d (.v (.bool x)) → (execOp t.eval o).run P w = .ok (.value (if x then t.eval a else t.eval b)) w := by
    intro cx w t x ht e
    have h1 := eval_coA hc ht
    rw [e] at h1
    simp only [SRep, DRep] at h1
    simp only [execOp, ho, h1.1, asBool]
    cases x <;> simp
  split at h
  · rename_i x p q e1 e2 e3
    refine ⟨_, h, fun cx w t hg ht => ⟨_, hx cx w t x ht e1, ?_⟩⟩
    have h2 := eval_coA ha ht
    have h3 := eval_coA hb ht
    rw [e2] at h2; rw [e3] at h3
    simp only [SRep, DRep] at h2 h3 ⊢
    cases x
    · simp [h3.1, cellV]
    · simp [h2.1, cellV]
  · rename_i x e1 _
    rcases br_some h with ⟨rfl, h⟩ | ⟨rfl, h⟩
    · exact ⟨_, h, fun cx w t hg ht => ⟨_, hx cx w t true ht e1, by simpa using eval_coA ha ht⟩⟩
    · exact ⟨_, h, fun cx w t hg ht => ⟨_, hx cx w t false ht e1, by simpa using eval_coA hb ht⟩⟩
  · simp at h

theorem snd_nilc {x : Operand} {y : CA} (ho : o.op = .nilCheck x) (hx : coA x = some y) {env : Env Ω} (h : sop env A (.nilc y) s k = some out) : PlainV P o s k out := by
  simp only [sop] at h
  split at h
  case h_5 => simp at h
  all_goals
    rename_i e
    refine ⟨_, h, fun cx w t hg ht => ?_⟩
    have h1 := eval_coA hx ht
    rw [e] at h1
    refine ⟨t.eval x, ?_, h1⟩
  · simp only [SRep] at h1; simp [execOp, ho, h1.2]
  · simp only [SRep] at h1; simp [execOp, ho, h1.2.1]
  · simp only [SRep] at h1; obtain ⟨b, o', h1, _⟩ := h1; simp [execOp, ho, h1]
  · simp only [SRep] at h1; obtain ⟨a', b', h1, _⟩ := h1
    simp [execOp, ho, h1]

theorem int_of {cx : Cx} {w : World} {k : IntKind} {n : Int} {u : Value} (h : SRep cx w (.d (.v (.int k n))) u) : u = .int k n := by simp only [SRep, DRep] at h; exact h.1
theorem bool_of {cx : Cx} {w : World} {b : Bool} {u : Value} (h : SRep cx w (.d (.v (.bool b))) u) : u = .bool b := by simp only [SRep, DRep] at h; exact h.1
theorem str_of {cx : Cx} {w : World} {b : ByteArray} {u : Value} (h : SRep cx w (.d (.v (.string b))) u) : u = .string b := by simp only [SRep, DRep] at h; exact h.1
theorem SRep.int {cx : Cx} {w : World} {k : IntKind} {n : Int} : SRep cx w (.d (.v (.int k n))) (.int k n) := by simp [SRep, DRep, cellV]
theorem SRep.bool {cx : Cx} {w : World} {b : Bool} : SRep cx w (.d (.v (.bool b))) (.bool b) := by simp [SRep, DRep, cellV]
theorem SRep.str {cx : Cx} {w : World} {b : ByteArray} : SRep cx w (.d (.v (.string b))) (.string b) := by simp [SRep, DRep, cellV]

theorem snd_bin {op : BinOp} {t u : TypeId} {x y : Operand} {x' y' : CA} (ho : o.op = .binOp op t x y u) (hx : coA x = some x') (hy : coA y = some y') (hne : op ≠ .eql ∧ op ≠ .neq)
    {env : Env Ω} (h : sop env A (.bin op x' y') s k = some out) : PlainV P o s k out := by
  simp only [sop, bop] at h
  have hguard : ∀ a b, (eqGuard op t x y a b) = (pure () : Sem Unit) := by
    intro a b; unfold eqGuard; cases op <;> first | rfl | exact absurd rfl hne.1 | exact absurd rfl hne.2
  have key : ∀ (v : SV) (v' : Value), k v [] s = some out → (∀ cx w, SRep cx w v v') → (∀ (cx : Cx) (w : World) (a : Act), TRep cx w s.t a.tmps → (binOp op t (a.eval x) (a.eval y)).run P w = .ok v' w) → PlainV P o s k out := by
    intro v v' hk hv hr
    refine ⟨_, hk, fun cx w a hg ht => ⟨v', ?_, hv cx w⟩⟩
    simp [execOp, ho, hguard, hr cx w a ht]
  split at h
  · rename_i ka x1 kb y1 e1 e2
    have hxy : ∀ (cx : Cx) (w : World) (a : Act), TRep cx w s.t a.tmps → a.eval x = .int ka x1 ∧ a.eval y = .int kb y1 := fun cx w a ht =>
      ⟨int_of (e1 ▸ eval_coA hx ht), int_of (e2 ▸ eval_coA hy ht)⟩
    split at h
    · rcases br_some h with ⟨_, h⟩ | ⟨hlt, h⟩
      · simp at h
      · refine key _ _ h (fun _ _ => SRep.int) fun cx w a ht => ?_
        obtain ⟨h1, h2⟩ := hxy cx w a ht
        have : ¬ y1 < 0 := by simpa using hlt
        simp [h1, h2, binOp, Op.shift, this, shl]
    · rcases br_some h with ⟨_, h⟩ | ⟨hlt, h⟩
      · simp at h
      · refine key _ _ h (fun _ _ => SRep.int) fun cx w a ht => ?_
        obtain ⟨h1, h2⟩ := hxy cx w a ht
        have : ¬ y1 < 0 := by simpa using hlt
        simp [h1, h2, binOp, Op.shift, this, shr]
    · rename_i n1 n2
      have hk := kEq_eq (cond_some h).1
      replace h := (cond_some h).2
      subst hk
      cases hcm : isCmp op with
      | true =>
        simp only [hcm, cond_true] at h
        cases op <;> simp only [isCmp, cmp] at h hcm <;> first
          | simp at hcm
          | (refine key _ _ h (fun _ _ => SRep.bool) fun cx w a ht => ?_
             obtain ⟨h1, h2⟩ := hxy cx w a ht
             simp [h1, h2, binOp, Op.intCmp])
      | false =>
        simp only [hcm, cond_false] at h
        cases op <;> simp only [isCmp, arith] at h hcm <;> first
          | simp at hcm
          | simp at h
          | exact absurd rfl n1
          | exact absurd rfl n2
          | (refine key _ _ h (fun _ _ => SRep.int) fun cx w a ht => ?_
             obtain ⟨h1, h2⟩ := hxy cx w a ht
             simp [h1, h2, binOp, Op.intArith, Op.intBits, band, bor, bxor, bandn]; done)
          | (rcases br_some h with ⟨_, h⟩ | ⟨hz, h⟩
             · simp at h
             · refine key _ _ h (fun _ _ => SRep.int) fun cx w a ht => ?_
               obtain ⟨h1, h2⟩ := hxy cx w a ht
               have : ¬ y1 = 0 := by simpa using hz
               simp [h1, h2, binOp, Op.intDiv, this])
  · rename_i x1 y1 e1 e2
    split at h
    · rcases br_some h with ⟨hft, h⟩ | ⟨_, h⟩
      · refine key _ _ h (fun _ _ => SRep.str) fun cx w a ht => ?_
        have h1 := str_of (e1 ▸ eval_coA hx ht)
        have h2 := str_of (e2 ▸ eval_coA hy ht)
        simp only [fits, Nat.mul_one, decide_eq_true_eq] at hft
        simp [h1, h2, binOp, Op.stringOp]
        omega
      · simp at h
    · simp at h
  · simp at h

theorem snd_un {op : UnOp} {t : TypeId} {x : Operand} {x' : CA} (ho : o.op = .unOp op t x) (hx : coA x = some x') {env : Env Ω} (h : sop env A (.un op x') s k = some out) : PlainV P o s k out := by
  simp only [sop, unop] at h
  split at h
  · rename_i b e
    exact ⟨_, h, fun cx w a hg ht => ⟨.bool (!b), by simp [execOp, ho, bool_of (e ▸ eval_coA hx ht), Op.unary], SRep.bool⟩⟩
  · rename_i ka x1 e
    exact ⟨_, h, fun cx w a hg ht => ⟨.int ka (ka.wrap (0 - x1)), by simp [execOp, ho, int_of (e ▸ eval_coA hx ht), Op.unary, Op.intArith], SRep.int⟩⟩
  · simp at h

theorem snd_conv {t u : TypeId} {kd ks : IntKind} {x : Operand} {x' : CA} (ho : o.op = .convert t u x) (ht : uT P t = .int ks) (hu : uT P u = .int kd) (hx : coA x = some x')
    {env : Env Ω} (h : sop env A (.conv kd x') s k = some out) : PlainV P o s k out := by
  simp only [sop] at h
  split at h
  · rename_i k1 n e
    refine ⟨_, h, fun cx w a hg htt => ⟨.int kd (kd.wrap n), ?_, SRep.int⟩⟩
    have h1 := int_of (e ▸ eval_coA hx htt)
    simp [execOp, ho, h1, convert, run_uT w (t := t) (by rw [ht]; simp), run_uT w (t := u) (by rw [hu]; simp), ht, hu, Conv.intToInt]
  · simp at h

theorem snd_convs {t u : TypeId} {x : Operand} {x' : CA} (ho : o.op = .convert t u x) (ht : uT P t = .string) (hu : uT P u = .string) (hx : coA x = some x')
    {env : Env Ω} (h : sop env A (.convs x') s k = some out) : PlainV P o s k out := by
  simp only [sop] at h
  split at h
  · rename_i y e
    refine ⟨_, h, fun cx w a hg htt => ⟨.string y, ?_, SRep.str⟩⟩
    have h1 := str_of (e ▸ eval_coA hx htt)
    simp [execOp, ho, h1, convert, run_uT w (t := t) (by rw [ht]; simp), run_uT w (t := u) (by rw [hu]; simp), ht, hu]
  · simp at h

theorem snd_mkf {g : Fn} {f c : Array Operand} {f' c' : List CA} (ho : o.op = .makeFunc g f c) (hf : coL f.toList = some f') (hc : coL c.toList = some c')
    {env : Env Ω} (h : sop env A (.mkf g f' c') s k = some out) : PlainV P o s k out := by
  simp only [sop] at h
  refine ⟨_, h, fun cx w a hg ht => ⟨.func g (f.map a.eval) (c.map a.eval), by simp [execOp, ho, Instr.makeFunc], ?_⟩⟩
  simp only [SRep]
  refine ⟨f.toList.map a.eval, c.toList.map a.eval, ?_, eval_coL ht hf, eval_coL ht hc⟩
  have e1 : f.map a.eval = ⟨f.toList.map a.eval⟩ := Array.ext' (by simp)
  have e2 : c.map a.eval = ⟨c.toList.map a.eval⟩ := Array.ext' (by simp)
  rw [e1, e2]

/-! ### parts and places -/
theorem partS_sound {cx : Cx} {w : World} {c : List SV} {c' : List Value} (hr : SRepL cx w c c') {ft : TypeId} {off : Nat} (hu : uT P ft ≠ .invalid) (hlt : aggT P ft = false → off < c'.length) :
    ∃ v, (part ft ⟨c'⟩ off).run P w = .ok v w ∧ SRep cx w (partS (aggT P ft) (szT P ft) off c) v := by
  cases ha : aggT P ft with
  | true =>
    refine ⟨.agg ⟨(c'.drop off).take (szT P ft)⟩, ?_, ?_⟩
    · simp [part, run_aggT w hu, ha, run_szT w (info_of_uT hu).2]
    · simp only [partS, cond_true, SRep]; exact ⟨_, rfl, (hr.drop _).take _⟩
  | false =>
    have hl := hlt ha
    refine ⟨c'[off], by simp [part, run_aggT w hu, ha, hl], ?_⟩
    have hcl := hr.length
    have hlc : off < c.length := by omega
    obtain ⟨v, h1, h2⟩ := hr.get (List.getElem?_eq_getElem hlc)
    simp only [partS, cond_false, List.getD_eq_getElem?_getD, List.getElem?_eq_getElem hlc, Option.getD_some]
    rw [List.getElem?_eq_getElem hl] at h1
    simp only [Option.some.injEq] at h1
    rw [h1]; exact h2

theorem addO_sound {cx : Cx} {w : World} {x y : SV} {n : Nat} {u : Value} (h : addO x n = some y) (hr : SRep cx w x u) : ∃ a, u = .pointer (some a) ∧ SRep cx w y (.pointer (some (a.add n))) := by
  cases x <;> simp only [addO, Option.some.injEq] at h <;> try (simp at h; done)
  all_goals subst h; simp only [SRep] at hr ⊢
  · exact ⟨_, hr.2, hr.1, by rw [addr_add]⟩
  · exact ⟨_, hr.2.1, hr.1, by rw [addr_add, Nat.add_assoc], hr.2.2⟩
  · obtain ⟨b, o', h1, h2⟩ := hr
    exact ⟨_, h1, b, o', by rw [addr_add, Nat.add_assoc], h2⟩

theorem snd_fa {t : TypeId} {x : Operand} {x' : CA} {f : Nat} {fd : Field} (ho : o.op = .fieldAddr t x f) (hx : coA x = some x') (hf : fldT P t f = some fd) (hz : szT P fd.type ≠ 0)
    {env : Env Ω} (h : sop env A (.fa fd.offset x') s k = some out) : PlainV P o s k out := by
  simp only [sop] at h
  split at h
  · rename_i r hr
    refine ⟨_, h, fun cx w a hg ht => ?_⟩
    obtain ⟨ad', h1, h2⟩ := addO_sound hr (eval_coA hx ht)
    refine ⟨_, ?_, h2⟩
    unfold fldT at hf
    split at hf
    · rename_i fs hu
      have : fs[f]? = some fd := by simpa using hf
      simp [execOp, ho, h1, Instr.fieldAt, run_uT w (t := t) (by rw [hu]; simp), hu, this, Instr.sureAddr, fieldPlace, run_szT w (t := fd.type) (by obtain ⟨i, hi, _⟩ := info_of_sz hz; exact ⟨i, hi⟩), hz]
    · simp at hf
  · simp at h
end
end Go.Sx
