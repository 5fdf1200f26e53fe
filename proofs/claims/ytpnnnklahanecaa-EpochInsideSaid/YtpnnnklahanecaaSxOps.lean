/- What an operation computes on symbolic values, the machine does: one lemma for each operation. -/
import Derived.Test.YtpnnnklahanecaaSxHeap
import Derived.Laws.Cells
import Derived.Laws.AppendOwn
import Derived.Laws.MakeOwn
import Derived.Laws.CopyRow
import Derived.Laws.StructEq
namespace Go.Sx

/-- What is kept from world to world. -/
structure Pres (cx : Cx) (w : World) (cx' : Cx) (w' : World) : Prop where
  fz : ∀ b, cx.fz b → cx'.fz b
  same : ∀ b, cx.fz b → w'.heap[b]? = w.heap[b]?
  size : w.heap.size ≤ w'.heap.size

theorem Pres.refl (cx : Cx) (w : World) : Pres cx w cx w := ⟨fun _ h => h, fun _ _ => rfl, Nat.le_refl _⟩
theorem Pres.trans {cx cx1 cx2 : Cx} {w w1 w2 : World} (a : Pres cx w cx1 w1) (b : Pres cx1 w1 cx2 w2) : Pres cx w cx2 w2 :=
  ⟨fun x h => b.fz x (a.fz x h), fun x h => by rw [b.same x (a.fz x h), a.same x h], Nat.le_trans a.size b.size⟩
theorem Grow.pres {p : Nat → Bool} {cx cx1 : Cx} {w w1 : World} (a : Grow p cx w cx1 w1) : Pres cx w cx1 w1 := ⟨a.fz, a.samef, a.size⟩

/-- The locs that code may append to, as a predicate. -/
def Ann.p (A : Ann) (l : Nat) : Bool := A.ok l

theorem Grow.weak {p q : Nat → Bool} {cx cx1 : Cx} {w w1 : World} (a : Grow p cx w cx1 w1) (h : ∀ l, q l = false → p l = false) : Grow q cx w cx1 w1 :=
  ⟨a.fz, a.same, a.size, fun l hl hq => a.loc l hl (h l hq), a.fr, a.io⟩
theorem Grow.to {q : Nat → Bool} {cx cx1 : Cx} {w w1 : World} (a : Grow0 cx w cx1 w1) : Grow q cx w cx1 w1 := a.weak fun _ _ => rfl

/-- One operation, run from every memory that the symbolic state describes. -/
def OpOKp (P : Program) (p : Nat → Bool) (o : Oper) (s : SS) (v : SV) (s' : SS) : Prop :=
  ∀ (cx : Cx) (w : World) (a : Act), Gam cx s.h w → TRep cx w s.t a.tmps → ∀ (next : Act → World → Prop) (Q : Exit → Act → World → Prop),
    (∀ cx' w' v', Grow p cx w cx' w' → SRep cx' w' v v' → TRep cx' w' s'.t a.tmps → Gam cx' s'.h w' → next (a.put o.dst v') w') → o.wp P a w next Q
abbrev OpOK (P : Program) (A : Ann) (o : Oper) (s : SS) (v : SV) (s' : SS) : Prop := OpOKp P A.p o s v s'
abbrev OpOK0 (P : Program) (o : Oper) (s : SS) (v : SV) (s' : SS) : Prop := OpOKp P (fun _ => false) o s v s'

theorem OpOKp.weak {P : Program} {p q : Nat → Bool} {o : Oper} {s s' : SS} {v : SV} (h : OpOKp P p o s v s') (hp : ∀ l, q l = false → p l = false) : OpOKp P q o s v s' :=
  fun cx w a hg ht next Q hk => h cx w a hg ht next Q fun cx' w' v' g => hk cx' w' v' (g.weak hp)

/-- The objects alone, without their number. -/
structure Seen (cx : Cx) (h : SH) (w : World) : Prop where
  obj : ∀ l, ORep cx w l (hget h l)
theorem Gam.seen {cx : Cx} {h : SH} {w : World} (g : Gam cx h w) : Seen cx h w := ⟨g.obj⟩

/-- One operation that only looks. -/
def Still (P : Program) (o : Oper) (s : SS) (v : SV) : Prop :=
  ∀ (cx : Cx) (w : World) (a : Act), Seen cx s.h w → TRep cx w s.t a.tmps → ∃ v', (execOp a.eval o).run P w = .ok (.value v') w ∧ SRep cx w v v'

def PlainV (P : Program) (o : Oper) (s : SS) {Ω : Type} (k : SV → List Nat → SS → Option Ω) (out : Ω) : Prop :=
  ∃ v, k v [] s = some out ∧ Still P o s v

/-! ### types -/
theorem info_of_uT {P : Program} {t : TypeId} (h : uT P t ≠ .invalid) : P.underlying t = some (uT P t) ∧ ∃ i, P.info? t = some i := by
  unfold uT at *
  cases hu : P.underlying t with
  | none => simp [hu] at h
  | some d =>
    refine ⟨rfl, ?_⟩
    unfold Program.underlying at hu
    cases hi : P.info? t with
    | none => simp [hi] at hu
    | some i => exact ⟨i, rfl⟩

theorem run_uT {P : Program} {t : TypeId} (w : World) (h : uT P t ≠ .invalid) : (underlying t).run P w = .ok (uT P t) w := by
  simp [underlying, (info_of_uT h).1]

theorem info_of_sz {P : Program} {t : TypeId} (h : szT P t ≠ 0) : ∃ i, P.info? t = some i ∧ i.size = szT P t := by
  unfold szT at *
  cases hi : P.info? t with
  | none => simp [hi] at h
  | some i => exact ⟨i, rfl, rfl⟩

theorem run_szT {P : Program} {t : TypeId} (w : World) (h : ∃ i, P.info? t = some i) : (sizeOf t).run P w = .ok (szT P t) w := by
  obtain ⟨i, hi⟩ := h
  simp [sizeOf, typeInfo, szT, hi]

theorem run_aggT {P : Program} {t : TypeId} (w : World) (h : uT P t ≠ .invalid) : (isAgg t).run P w = .ok (aggT P t) w := by
  unfold isAgg aggT
  simp only [Sem.run_bind, run_uT w h, Result.andThen_ok]
  cases uT P t <;> rfl

/-! ### operands -/
theorem SRepL.const {cx : Cx} {w : World} : ∀ {c : List Value}, flatV c = true → SRepL cx w (c.map fun x => .d (.v x)) c
  | [], _ => by simp [SRepL]
  | x :: r, h => by
    cases x <;> simp_all [flatV, SRepL, SRep, DRep, cellV, SRepL.const (c := r)]

theorem SRep.cst {cx : Cx} {w : World} (c : Value) : SRep cx w (cst c) c := by
  unfold Go.Sx.cst
  split
  · simp only [SRep]; exact ⟨[], [], rfl, by simp [SRepL], by simp [SRepL]⟩
  · simp [SRep]
  · rename_i c'
    cases hf : flatV c'.toList with
    | false => simp [SRep]
    | true => simp only [cond_true, SRep]; exact ⟨c'.toList, rfl, SRepL.const hf⟩
  · simp [SRep]
  · simp only [SRep, DRep, true_and]
    rename_i h1 h2 h3 h4
    cases c <;> simp_all [cellV]

theorem SRep.lk {cx : Cx} {w : World} {tm : Array Value} (n : Nat) : ∀ {t : List (Nat × SV)}, TRep cx w t tm → SRep cx w (lk t n) (tm.getD n undef)
  | [], _ => by simp [Sx.lk, SRep]
  | (k, v) :: r, ht => by
    simp only [Sx.lk]
    by_cases hk : k = n
    · subst hk; simp only [Nat.beq_refl, cond_true]; exact (ht _ v (by simp)).2
    · have : Nat.beq k n = false := Bool.eq_false_iff.2 (fun h => hk (Nat.eq_of_beq_eq_true h))
      simp only [this, cond_false]
      exact SRep.lk n fun i x hx => ht i x (by simp [hx])

theorem eval_coA {x : Operand} {y : CA} (h : coA x = some y) {cx : Cx} {w : World} {a : Act} {t : List (Nat × SV)} (ht : TRep cx w t a.tmps) : SRep cx w (ev t y) (a.eval x) := by
  cases x with
  | tmp n =>
    simp only [coA, Option.some.injEq] at h; subst h
    simp only [ev, Act.eval]
    exact SRep.lk n ht
  | const c =>
    simp only [coA, Option.some.injEq] at h; subst h
    simp only [ev, Act.eval]
    exact SRep.cst c
  | global g => simp [coA] at h
  | func f =>
    simp only [coA, Option.some.injEq] at h; subst h
    simp only [ev, Act.eval, SRep]; exact ⟨[], [], rfl, by simp [SRepL], by simp [SRepL]⟩

theorem eval_coL {cx : Cx} {w : World} {a : Act} {t : List (Nat × SV)} (ht : TRep cx w t a.tmps) : ∀ {xs : List Operand} {ys : List CA}, coL xs = some ys → SRepL cx w (evL t ys) (xs.map a.eval)
  | [], ys, h => by simp only [coL, Option.some.injEq] at h; subst h; simp [evL, SRepL]
  | x :: r, ys, h => by
    simp only [coL] at h
    split at h
    · rename_i y l hy hl
      simp only [Option.some.injEq] at h; subst h
      simp only [evL, List.map_cons, SRepL]
      exact ⟨eval_coA hy ht, eval_coL ht hl⟩
    · simp at h

/-! ### the plain operations -/
theorem Still.op {P : Program} {o : Oper} {s : SS} {v : SV} (h : Still P o s v) : OpOK0 P o s v s := by
  intro cx w a hg ht next Q hk
  obtain ⟨v', hr, hv⟩ := h cx w a hg.seen ht
  unfold Oper.wp
  rw [hr, Oper.upon_value]
  exact hk cx w v' (Grow.refl _ _ _) hv ht hg

theorem snd_mv {P : Program} {o : Oper} {x : Operand} {y : CA} {s : SS} (ho : o.op = .move x ∨ o.op = .assign x) (hc : coA x = some y) : Still P o s (ev s.t y) := by
  refine fun cx w a hg ht => ⟨a.eval x, ?_, eval_coA hc ht⟩
  rcases ho with ho | ho <;> simp [execOp, ho]

/-! ### memory read -/
theorem SRepL.get {cx : Cx} {w : World} : ∀ {c : List SV} {c' : List Value} {i : Nat} {x : SV}, SRepL cx w c c' → c[i]? = some x → ∃ v, c'[i]? = some v ∧ SRep cx w x v
  | x :: r, v :: vs, 0, y, h, e => by simp only [SRepL] at h; simp at e; subst e; exact ⟨v, rfl, h.1⟩
  | x :: r, v :: vs, i + 1, y, h, e => by simp only [SRepL] at h; simp at e; simpa using SRepL.get h.2 e
  | [], _, _, _, _, e => by simp at e
  | _ :: _, [], _, _, h, _ => by simp [SRepL] at h

theorem SRepL.drop {cx : Cx} {w : World} : ∀ (n : Nat) {c : List SV} {c' : List Value}, SRepL cx w c c' → SRepL cx w (c.drop n) (c'.drop n)
  | 0, _, _, h => by simpa using h
  | n + 1, [], [], _ => by simp [SRepL]
  | n + 1, _ :: _, _ :: _, h => by simp only [SRepL] at h; simpa using SRepL.drop n h.2
  | n + 1, [], _ :: _, h => by simp [SRepL] at h
  | n + 1, _ :: _, [], h => by simp [SRepL] at h

theorem SRepL.take {cx : Cx} {w : World} : ∀ (n : Nat) {c : List SV} {c' : List Value}, SRepL cx w c c' → SRepL cx w (c.take n) (c'.take n)
  | 0, _, _, _ => by simp [SRepL]
  | n + 1, [], [], _ => by simp [SRepL]
  | n + 1, _ :: _, _ :: _, h => by simp only [SRepL] at h; simp only [List.take_succ_cons, SRepL]; exact ⟨h.1, SRepL.take n h.2⟩
  | n + 1, [], _ :: _, h => by simp [SRepL] at h
  | n + 1, _ :: _, [], h => by simp [SRepL] at h

theorem SRepL.append {cx : Cx} {w : World} : ∀ {c d : List SV} {c' d' : List Value}, SRepL cx w c c' → SRepL cx w d d' → SRepL cx w (c ++ d) (c' ++ d')
  | [], _, [], _, _, h => by simpa using h
  | _ :: _, _, _ :: _, _, h, h' => by simp only [SRepL] at h; simp only [List.cons_append, SRepL]; exact ⟨h.1, SRepL.append h.2 h'⟩
  | [], _, _ :: _, _, h, _ => by simp [SRepL] at h
  | _ :: _, _, [], _, h, _ => by simp [SRepL] at h

theorem addr_add (b o i : Nat) : (ad b o).add i = ad b (o + i) := by
  unfold Addr.add ad
  split <;> simp_all

theorem rdRow_spec (f : Nat → DV) : ∀ (n o i : Nat), i < n → (rdRow f o n)[i]? = some (.d (f (o + i)))
  | n + 1, o, 0, _ => by simp [rdRow]
  | n + 1, o, i + 1, h => by
    simp only [rdRow, List.getElem?_cons_succ]
    rw [rdRow_spec f n (o + 1) i (by omega)]
    rw [show o + 1 + i = o + (i + 1) by omega]
theorem rdRow_length (f : Nat → DV) : ∀ (n o : Nat), (rdRow f o n).length = n
  | 0, _ => rfl
  | n + 1, o => by simp [rdRow, rdRow_length f n]

theorem SRepL.of {cx : Cx} {w : World} : ∀ {c : List SV} {g : Nat → Value}, (∀ i x, c[i]? = some x → SRep cx w x (g i)) → SRepL cx w c ((List.range c.length).map g)
  | [], _, _ => by simp [SRepL]
  | x :: r, g, h => by
    simp only [List.length_cons, List.range_succ_eq_map, List.map_cons, List.map_map, SRepL]
    refine ⟨h 0 x rfl, ?_⟩
    exact SRepL.of (g := g ∘ Nat.succ) fun i y hy => h (i + 1) y (by simpa using hy)

/-- The cells that ld finds lie in memory at that address. -/
theorem ld_sound {cx : Cx} {h : SH} {w : World} (g : Seen cx h w) {p : SV} {u : Value} (hp : SRep cx w p u) {n : Nat} {c : List SV} (hl : ld h p n = some c) :
    ∃ a c', u = .pointer (some a) ∧ c.length = n ∧ SRepL cx w c c' ∧ ∀ j v, c'[j]? = some v → w.cell? (a.add j) = some v := by
  cases p with
  | ptr l o =>
    simp only [ld] at hl
    simp only [SRep] at hp
    obtain ⟨hn, rfl⟩ := hp
    have ho := g.obj l
    split at hl
    · rename_i t cs hg
      rw [hg] at ho
      obtain ⟨t', c', hh, hr⟩ := ho
      cases hb : Nat.ble (o + n) cs.length with
      | false => simp [hb] at hl
      | true =>
        simp only [hb, cond_true, Option.some.injEq] at hl; subst hl
        have hle := Nat.le_of_ble_eq_true hb
        refine ⟨_, (c'.drop o).take n, rfl, by simp; omega, SRepL.take n (SRepL.drop o hr), fun j v hv => ?_⟩
        rw [addr_add]
        rw [List.getElem?_take] at hv
        split at hv
        · rw [List.getElem?_drop] at hv
          simp [World.cell?, ad, hh, hv]
        · simp at hv
    · simp at hl
  | pe l i o =>
    simp only [ld] at hl
    simp only [SRep] at hp
    obtain ⟨hn, rfl, hi, hnl⟩ := hp
    have ho := g.obj l
    split at hl
    · rename_i t sz m f hg
      rw [hg] at ho
      obtain ⟨hln, hrs, hcp, _, hh⟩ := ho
      obtain ⟨t', c', hh, hs, hr⟩ := hh hnl
      cases hb : Nat.ble (o + n) sz with
      | false => simp [hb] at hl
      | true =>
        simp only [hb, cond_true, Option.some.injEq] at hl; subst hl
        have hle := Nat.le_of_ble_eq_true hb
        refine ⟨_, (List.range n).map fun j => (c'[i * sz + (o + j)]?).getD undef, rfl, by simp [rdRow_length], ?_, fun j v hv => ?_⟩
        · have := SRepL.of (cx := cx) (w := w) (c := rdRow (f i) o n) (g := fun j => (c'[i * sz + (o + j)]?).getD undef) ?_
          · simpa [rdRow_length] using this
          · intro j x hx
            have hj : j < n := by
              have := (List.getElem?_eq_some_iff.1 hx).1
              simpa [rdRow_length] using this
            rw [rdRow_spec _ _ _ _ hj] at hx
            simp only [Option.some.injEq] at hx; subst hx
            obtain ⟨x, hx, hd⟩ := hr i (by omega) (o + j) (by omega)
            simp only [hx, Option.getD_some, SRep]; exact hd
        · rw [addr_add]
          simp only [List.getElem?_map] at hv
          rcases Nat.lt_or_ge j n with hj | hj
          · rw [List.getElem?_range hj] at hv
            simp only [Option.map_some, Option.some.injEq] at hv
            obtain ⟨x, hx, hd⟩ := hr i (by omega) (o + j) (by omega)
            rw [hx] at hv; simp at hv; subst hv
            simp [World.cell?, ad, hh, hrs, Nat.add_assoc, hx]
          · simp [List.getElem?_eq_none (l := List.range n) (by simpa using hj)] at hv
    · rename_i t k xs hg
      rw [hg] at ho
      obtain ⟨hln, hrs, hcp, _, hh⟩ := ho
      obtain ⟨t', c', hh, hs, hr⟩ := hh hnl
      cases hb : (Nat.beq o 0 && Nat.beq n 1) with
      | false => simp [hb] at hl
      | true =>
        simp only [hb, cond_true, Option.some.injEq] at hl; subst hl
        simp only [Bool.and_eq_true] at hb
        have h0 : o = 0 := Nat.eq_of_beq_eq_true hb.1
        have h1 : n = 1 := Nat.eq_of_beq_eq_true hb.2
        subst h0; subst h1
        refine ⟨_, [.int k (xs.getD i 0)], rfl, rfl, by simp [SRepL, SRep, DRep, cellV], fun j v hv => ?_⟩
        rw [addr_add]
        cases j with
        | zero =>
          simp at hv; subst hv
          have := hr i (by omega)
          simp [World.cell?, ad, hh, hrs, this]
        | succ j => simp at hv
    · simp at hl
  | rp sz f o =>
    simp only [ld] at hl
    simp only [SRep] at hp
    obtain ⟨b, o', rfl, hb, hr⟩ := hp
    cases hbl : Nat.ble (o + n) sz with
    | false => simp [hbl] at hl
    | true =>
      simp only [hbl, cond_true, Option.some.injEq] at hl; subst hl
      have hle := Nat.le_of_ble_eq_true hbl
      refine ⟨_, (List.range n).map fun j => (w.cell? (ad b (o' + (o + j)))).getD undef, rfl, by simp [rdRow_length], ?_, fun j v hv => ?_⟩
      · have := SRepL.of (cx := cx) (w := w) (c := rdRow f o n) (g := fun j => (w.cell? (ad b (o' + (o + j)))).getD undef) ?_
        · simpa [rdRow_length] using this
        · intro j x hx
          have hj : j < n := by
            have := (List.getElem?_eq_some_iff.1 hx).1
            simpa [rdRow_length] using this
          rw [rdRow_spec _ _ _ _ hj] at hx
          simp only [Option.some.injEq] at hx; subst hx
          obtain ⟨x, hx, hd⟩ := hr (o + j) (by omega)
          simp only [hx, Option.getD_some, SRep]; exact hd
      · rw [addr_add]
        simp only [List.getElem?_map] at hv
        rcases Nat.lt_or_ge j n with hj | hj
        · rw [List.getElem?_range hj] at hv
          simp only [Option.map_some, Option.some.injEq] at hv
          obtain ⟨x, hx, hd⟩ := hr (o + j) (by omega)
          rw [hx] at hv; simp at hv; subst hv
          rw [show o' + o + j = o' + (o + j) by omega]; exact hx
        · simp [List.getElem?_eq_none (l := List.range n) (by simpa using hj)] at hv
  | _ => simp [ld] at hl

theorem snd_ld {P : Program} {o : Oper} {x : Operand} {y : CA} {t : TypeId} {s : SS} {c : List SV} (ho : o.op = .load t x) (hc : coA x = some y)
    (hu : uT P t ≠ .invalid) (hl : ld s.h (ev s.t y) (ldT P t) = some c) (v : SV) (hv : (aggT P t = true ∧ v = .agg c) ∨ (aggT P t = false ∧ c = [v])) : Still P o s v := by
  intro cx w a hg ht
  obtain ⟨ad', c', hp, hlen, hr, hcell⟩ := ld_sound hg (eval_coA hc ht) hl
  rcases hv with ⟨ha, rfl⟩ | ⟨ha, rfl⟩
  · refine ⟨.agg ⟨c'⟩, ?_, by simp only [SRep]; exact ⟨c', rfl, hr⟩⟩
    have hln : szT P t = c'.length := by rw [← hr.length, hlen]; simp [ldT, ha]
    have := run_loadCells_list (P := P) (w := w) ad' c' hcell
    simp [execOp, ho, Instr.loadAt, hp, Instr.sureAddr, loadVar, run_aggT w hu, ha, run_szT w (info_of_uT hu).2, hln, this]
  · have hln := hr.length
    match c', hln, hr, hcell with
    | [v'], _, hr, hcell =>
      refine ⟨v', ?_, by simp only [SRepL] at hr; exact hr.1⟩
      have h0 := hcell 0 v' rfl
      have : (ad'.add 0) = ad' := by simp [Addr.add]
      rw [this] at h0
      simp [execOp, ho, Instr.loadAt, hp, Instr.sureAddr, loadVar, run_aggT w hu, ha, load, Sem.run, h0]
end Go.Sx
