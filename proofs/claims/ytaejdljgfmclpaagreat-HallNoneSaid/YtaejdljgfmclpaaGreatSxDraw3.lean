/- Regions that draw their order, first part: the trace of the text's order. -/
import Derived.Test.YtaejdljgfmclpaaGreatSxFree
import Derived.Test.YtaejdljgfmclpaaGreatSxFree
import Derived.Test.YtaejdljgfmclpaaGreatSxFree
import Derived.Orders
set_option linter.all false
set_option linter.unusedVariables false
set_option linter.unusedSimpArgs false
set_option linter.unnecessarySimpa false
namespace Go.Sx

theorem keepT_mem {ks : List Nat} : ∀ {t : List (Nat × SV)} {p : Nat × SV}, p ∈ keepT ks t → p.1 ∈ ks ∧ p ∈ t
  | [], p, h => by simp [keepT] at h
  | (k, v) :: r, p, h => by
    simp only [keepT] at h
    cases hm : nmem k ks with
    | true =>
      rw [hm] at h; simp only [cond_true] at h
      rcases List.mem_cons.1 h with rfl | h
      · refine ⟨?_, by simp⟩
        rcases Decidable.em (k ∈ ks) with h | h
        · exact h
        · rw [nmem_iff.2 h] at hm; cases hm
      · exact ⟨(keepT_mem h).1, by simp [(keepT_mem h).2]⟩
    | false =>
      rw [hm] at h; simp only [cond_false] at h
      exact ⟨(keepT_mem h).1, by simp [(keepT_mem h).2]⟩

theorem keepT_sub {ks : List Nat} : ∀ {t : List (Nat × SV)}, (keepT ks t).Sublist t
  | [] => .slnil
  | (k, v) :: r => by
    simp only [keepT]
    cases nmem k ks with
    | true => exact (keepT_sub (t := r)).cons_cons _
    | false => exact (keepT_sub (t := r)).cons _

theorem uniq_lk : ∀ {t : List (Nat × SV)} {i : Nat} {x : SV}, Uniq t → (i, x) ∈ t → lk t i = x
  | (k, v) :: r, i, x, h, hm => by
    simp only [lk]
    rcases List.mem_cons.1 hm with e | hm
    · simp only [Prod.mk.injEq] at e
      obtain ⟨rfl, rfl⟩ := e
      simp
    · have := (List.pairwise_cons.1 h).1 _ hm
      have hne : Nat.beq k i = false := nbne.2 (by simp at this; omega)
      rw [hne]; exact uniq_lk (List.pairwise_cons.1 h).2 hm

theorem lk_none : ∀ {t : List (Nat × SV)} {i : Nat}, (∀ x, (i, x) ∉ t) → lk t i = .top
  | [], _, _ => rfl
  | (k, v) :: r, i, h => by
    simp only [lk]
    cases hb : Nat.beq k i with
    | true => have := nbeq.1 hb; subst this; exact absurd (List.mem_cons_self) (h v)
    | false => exact lk_none fun x hx => h x (by simp [hx])

theorem lk_stt {d : Nat} {v : SV} {x : Nat} : ∀ {t : List (Nat × SV)}, lk (stt t d v) x = if d = x then v else lk t x
  | [] => by
    simp only [stt, lk]
    by_cases h : d = x
    · subst h; simp
    · simp [nbne.2 h, h]
  | (k, u) :: r => by
    simp only [stt]
    cases h1 : Nat.beq k d with
    | true =>
      have := nbeq.1 h1; subst this
      simp only [cond_true, lk]
      by_cases h : k = x
      · subst h; simp
      · simp [nbne.2 h, h]
    | false =>
      cases h2 : Nat.blt d k with
      | true =>
        simp only [cond_true, cond_false, lk]
        by_cases h : d = x
        · subst h; simp
        · simp [nbne.2 h, h]
      | false =>
        simp only [cond_false, lk]
        by_cases h : k = x
        · subst h; simp; intro e; exact absurd e.symm (nbne.1 h1)
        · simp only [nbne.2 h, cond_false]; exact lk_stt

theorem lk_dropT {d x : Nat} {t : List (Nat × SV)} (hu : Uniq t) : lk (dropT t d) x = if d = x then .top else lk t x := by
  by_cases h : d = x
  · subst h
    rw [if_pos rfl]
    exact lk_none fun v hv => ((dropT_uniq hu).2 _ hv).1 rfl
  · rw [if_neg h]
    clear hu
    induction t with
    | nil => rfl
    | cons p r ih =>
      obtain ⟨k, v⟩ := p
      simp only [dropT, lk]
      cases h1 : Nat.beq k d with
      | true =>
        have := nbeq.1 h1; subst this
        simp [nbne.2 h]
      | false => simp only [cond_false, lk, ih]

theorem lk_putD {d : Option Nat} {v : SV} {t : List (Nat × SV)} (hu : Uniq t) (x : Nat) : lk (putD d v t) x = if d = some x then v else lk t x := by
  unfold putD
  split
  · simp
  · rename_i d'
    split
    · rw [lk_dropT hu]; simp
    · rw [lk_stt]; simp

theorem maskH_get {ls : List Nat} : ∀ {h : SH} {i l : Nat}, hget (maskH ls i h) l = .dead ∨ (i + l ∈ ls ∧ hget (maskH ls i h) l = hget h l)
  | [], i, l => .inl (by simp [maskH, hget])
  | o :: r, i, 0 => by
    simp only [maskH, hget, List.getD_cons_zero, Nat.add_zero]
    cases hm : nmem i ls with
    | true =>
      refine .inr ⟨?_, rfl⟩
      rcases Decidable.em (i ∈ ls) with h | h
      · exact h
      · rw [nmem_iff.2 h] at hm; cases hm
    | false => exact .inl rfl
  | o :: r, i, l + 1 => by
    have := @maskH_get ls r (i + 1) l
    simp only [hget, maskH, List.getD_cons_succ] at this ⊢
    rw [show i + (l + 1) = i + 1 + l by omega]; exact this

/-- One operation of the trace. -/
structure En where
  c : CR
  s : SS
  v : SV
  ls : List Nat
  s' : SS
  kd : Nat
  er : Bool

def needOf (e : En) : List (Nat × SV) := keepT (opsOf e.c.op) e.s.t

/-- Does its guard let it run? -/
def runs (e : En) (b : Bool) : Prop := match e.c.guard with
  | none => b = true
  | some (d, want) => (∃ x, lk e.s.t d = .d (.v (.bool x)) ∧ b = (x == want)) ∨ (lk e.s.t d = .tup [] ∧ b = false)

/-- A new block that may be laid ahead of its turn. -/
structure Ear (P : Program) (o : Oper) (e : En) : Prop where
  kd : e.kd = 2
  run : runs e true
  ls : e.ls = []
  top : ∃ d, e.c.dst = some d ∧ lk e.s.t d = .top
  ex : ∃ t z, e.v = .ptr e.s.h.length 0 ∧ e.s'.h = e.s.h ++ [.cells t z] ∧ allV z = true ∧ OpOK0 P o ⟨[], []⟩ (.ptr 0 0) ⟨[], [.cells t z]⟩

structure EnOK (P : Program) (A : Ann) (nt : Nat) (o : Oper) (i : Nat) (e : En) : Prop where
  uniq : Uniq e.s.t
  bnd : ∀ p ∈ e.s.t, p.1 < nt
  dst : o.dst = e.c.dst
  ear : e.er = true → Ear P o e
  kind : (e.kd = 0 ∧ runs e false ∧ e.v = .tup [] ∧ e.ls = [] ∧ e.s' = ⟨putD e.c.dst (.tup []) e.s.t, e.s.h⟩) ∨
    (e.kd = 1 ∧ runs e true ∧ e.s' = ⟨putD e.c.dst e.v e.s.t, e.s.h⟩ ∧ (∀ l ∈ e.ls, ∃ n ∈ opsOf e.c.op, l ∈ locsOf (lk e.s.t n)) ∧
      ∃ hm, (∀ l, hget hm l = .dead ∨ (l ∈ e.ls ∧ hget hm l = hget e.s.h l)) ∧ Look P o ⟨needOf e, hm⟩ e.v) ∨
    (e.kd = 2 ∧ runs e true ∧ e.s'.t = putD e.c.dst e.v e.s.t ∧ Keeps e.ls e.s.h e.s'.h ∧ OpOK0 P o ⟨needOf e, e.s.h⟩ e.v ⟨needOf e, e.s'.h⟩) ∨
    (e.kd = 3 ∧ runs e true ∧ e.c.anc + 1 = 2 ^ i ∧ ∃ t1, t1.Sublist e.s.t ∧ e.s'.t = putD e.c.dst e.v t1 ∧ OpOK P A o e.s e.v ⟨t1, e.s'.h⟩)

/-- Two operations, the first ahead of the second in the text: the second waits for it, or their turns do not matter. -/
def PairOK (i : Nat) (e' : En) (e : En) : Prop :=
  Nat.testBit e.c.anc i = true ∨ (e.kd ≠ 3 ∧ e'.kd ≠ 3 ∧ (e.kd = 2 ∧ e'.kd = 2 → e.er = true ∧ e'.er = false) ∧ ((e.kd = 2 ∨ e'.kd = 2) → ∀ l ∈ e.ls, l ∉ e'.ls))

/-- What waits for a block laid ahead waits for all that this passes. -/
def Fol (l : List En) (i : Nat) (e' e : En) : Prop := e'.er = true → Nat.testBit e.c.anc i = true → ∀ q e'', q < i → l[q]? = some e'' → 2 ≤ e''.kd → Nat.testBit e.c.anc q = true ∨ Nat.testBit e'.c.anc q = true

theorem disj_of {a b : List Nat} (h : disj a b = true) : ∀ l ∈ a, l ∉ b := fun l hl => by
  have := List.all_eq_true.1 h l hl
  exact nmem_iff.1 (by simpa using this)

theorem compat_of {anc c : Nat} {ls : List Nat} : ∀ {lg : Log}, compat anc c ls lg = true → ∀ {i c' : Nat} {ls' : List Nat}, (i, c', ls') ∈ lg →
    Nat.testBit anc i = true ∨ (¬ (c = 2 ∧ c' = 2) ∧ ¬ (c = 2 ∧ c' = 4) ∧ ((c = 2 ∨ c' = 2) → ∀ l ∈ ls, l ∉ ls'))
  | (i0, c0, l0) :: r, h, i, c', ls', hm => by
    simp only [compat, Bool.and_eq_true] at h
    rcases List.mem_cons.1 hm with e | hm
    · simp only [Prod.mk.injEq] at e
      obtain ⟨rfl, rfl, rfl⟩ := e
      have h1 := h.1
      simp only [Bool.or_eq_true, Bool.and_eq_true, Bool.not_eq_true'] at h1
      rcases h1 with h1 | ⟨h1, h2⟩
      · exact .inl h1
      · refine .inr ⟨fun ⟨a, b⟩ => ?_, fun ⟨a, b⟩ => ?_, fun hor => ?_⟩
        · subst a; subst b; simp at h1
        · subst a; subst b; simp at h1
        · rcases h2 with h2 | h2
          · rcases hor with e | e
            · subst e; simp at h2
            · subst e; simp at h2
          · exact disj_of h2
    · exact compat_of h.2 hm

theorem early_of {anc : Nat} : ∀ {lg : Log}, early anc lg = true → ∀ {i c' : Nat} {ls' : List Nat}, (i, c', ls') ∈ lg → Nat.testBit anc i = true ∨ c' = 1 ∨ c' = 2
  | (i0, c0, l0) :: r, h, i, c', ls', hm => by
    simp only [early, Bool.and_eq_true] at h
    rcases List.mem_cons.1 hm with e | hm
    · simp only [Prod.mk.injEq] at e
      obtain ⟨rfl, rfl, rfl⟩ := e
      have h1 := h.1
      simp only [Bool.or_eq_true] at h1
      rcases h1 with h1 | h1 | h1
      · exact .inl h1
      · exact .inr (.inl (nbeq.1 h1))
      · exact .inr (.inr (nbeq.1 h1))
    · exact early_of h.2 hm

theorem passed_of {anc : Nat} : ∀ {lg : Log} {i : Nat} {ls' : List Nat}, (i, 2, ls') ∈ lg → Nat.testBit (passed anc lg) i = true ∨ Nat.testBit anc i = true
  | (i0, c0, l0) :: r, i, ls', hm => by
    simp only [passed]
    rcases List.mem_cons.1 hm with e | hm
    · simp only [Prod.mk.injEq] at e
      obtain ⟨rfl, rfl, rfl⟩ := e
      cases hb : Nat.testBit anc i with
      | true => exact .inr rfl
      | false => left; simp [Nat.testBit_or, Nat.testBit_two_pow_self]
    · rcases passed_of (anc := anc) hm with h | h
      · left
        cases (Nat.beq c0 2 && !(Nat.testBit anc i0))
        · exact h
        · simp only [cond_true, Nat.testBit_or, h, Bool.or_true]
      · exact .inr h

theorem folw_of {anc : Nat} : ∀ {lg : Log}, folw anc lg = true → ∀ {i ps : Nat}, (i, 4, [ps]) ∈ lg → Nat.testBit anc i = true → ∀ q, Nat.testBit ps q = true → Nat.testBit anc q = true
  | (i0, c0, l0) :: r, h, i, ps, hm, hb, q, hq => by
    simp only [folw, Bool.and_eq_true] at h
    rcases List.mem_cons.1 hm with e | hm
    · simp only [Prod.mk.injEq] at e
      obtain ⟨rfl, rfl, rfl⟩ := e
      have h1 := h.1
      simp only [hb, Bool.and_true, Bool.or_eq_true, Bool.not_eq_true'] at h1
      rcases h1 with h1 | h1
      · simp at h1
      · have := nbeq.1 h1
        rw [← this, Nat.testBit_and, Bool.and_eq_true] at hq
        exact hq.1
    · exact folw_of h.2 hm hb q hq

/-- The log and the mask tell of what has been. -/
structure Told (pre : List En) (lg : Log) (req : Nat) : Prop where
  log : ∀ i e, pre[i]? = some e → (e.kd = 0 ∧ e.ls = []) ∨ (e.kd = 1 ∧ e.ls = []) ∨ ((e.kd = 1 ∨ e.kd = 2) ∧ (i, e.kd, e.ls) ∈ lg ∧ e.er = false) ∨ (e.kd = 3 ∧ Nat.testBit req i = true) ∨ (e.kd = 2 ∧ e.ls = [] ∧ ∃ x, (i, 4, x) ∈ lg)
  er : ∀ i e, pre[i]? = some e → e.er = true → ∃ ps, (i, 4, [ps]) ∈ lg ∧ ∀ q e', q < i → pre[q]? = some e' → 2 ≤ e'.kd → Nat.testBit ps q = true ∨ Nat.testBit e.c.anc q = true

theorem pair_of {pre : List En} {lg : Log} {req : Nat} (ht : Told pre lg req) {e : En} (hreq : Nat.beq (e.c.anc &&& req) req = true)
    (h : ((e.kd = 0 ∨ e.kd = 1) ∧ e.ls = []) ∨ ((e.kd = 1 ∨ e.kd = 2) ∧ compat e.c.anc e.kd e.ls lg = true) ∨ (e.kd = 2 ∧ e.ls = [] ∧ e.er = true ∧ early e.c.anc lg = true)) : ∀ i e', pre[i]? = some e' → PairOK i e' e := by
  intro i e' hi
  unfold PairOK
  have hpiv : e'.kd = 3 → Nat.testBit req i = true → Nat.testBit e.c.anc i = true := fun _ hb => by
    have := nbeq.1 hreq
    rw [← this, Nat.testBit_and, Bool.and_eq_true] at hb
    exact hb.1
  rcases ht.log i e' hi with ⟨h1, h2⟩ | ⟨h1, h2⟩ | ⟨h1, h2, h0⟩ | ⟨h1, h2⟩ | ⟨h1, h2, x, h0⟩
  · rcases h with ⟨h3, h4⟩ | ⟨h3, h4⟩ | ⟨h3, h4, _⟩
    · refine .inr ⟨by omega, by omega, by omega, fun _ l hl => by rw [h4] at hl; simp at hl⟩
    · refine .inr ⟨by omega, by omega, by omega, fun _ l hl => by rw [h2]; simp⟩
    · refine .inr ⟨by omega, by omega, by omega, fun _ l hl => by rw [h2]; simp⟩
  · rcases h with ⟨h3, h4⟩ | ⟨h3, h4⟩ | ⟨h3, h4, _⟩
    · refine .inr ⟨by omega, by omega, by omega, fun _ l hl => by rw [h4] at hl; simp at hl⟩
    · refine .inr ⟨by omega, by omega, by omega, fun _ l hl => by rw [h2]; simp⟩
    · refine .inr ⟨by omega, by omega, by omega, fun _ l hl => by rw [h2]; simp⟩
  · rcases h with ⟨h3, h4⟩ | ⟨h3, h4⟩ | ⟨h3, h4, h7, _⟩
    · refine .inr ⟨by omega, by omega, by omega, fun _ l hl => by rw [h4] at hl; simp at hl⟩
    · rcases compat_of h4 h2 with h5 | ⟨h5, _, h6⟩
      · exact .inl h5
      · exact .inr ⟨by omega, by omega, fun h => absurd h h5, h6⟩
    · exact .inr ⟨by omega, by omega, fun _ => ⟨h7, h0⟩, fun _ l hl => by rw [h4] at hl; simp at hl⟩
  · exact .inl (hpiv h1 h2)
  · rcases h with ⟨h3, h4⟩ | ⟨h3, h4⟩ | ⟨h3, h4, h7, h8⟩
    · refine .inr ⟨by omega, by omega, by omega, fun _ l hl => by rw [h4] at hl; simp at hl⟩
    · rcases compat_of h4 h0 with h5 | ⟨_, h5, h6⟩
      · exact .inl h5
      · exact .inr ⟨by omega, by omega, by omega, fun _ l hl => by rw [h2]; simp⟩
    · rcases early_of h8 h0 with h5 | h5 | h5
      · exact .inl h5
      · omega
      · omega

theorem fol_of {pre : List En} {lg : Log} {req : Nat} (ht : Told pre lg req) {e : En} (h : folw e.c.anc lg = true) : ∀ i e', pre[i]? = some e' → Fol pre i e' e := by
  intro i e' hi her hb q e'' hq hq' h2
  obtain ⟨ps, h3, h4⟩ := ht.er i e' hi her
  rcases h4 q e'' hq hq' h2 with h5 | h5
  · exact .inl (folw_of h h3 hb q h5)
  · exact .inr h5

theorem bit_pivot {anc i j : Nat} (h : anc + 1 = 2 ^ i) (hj : j < i) : Nat.testBit anc j = true := by
  have : anc = 2 ^ i - 1 := by omega
  rw [this, Nat.testBit_two_pow_sub_one]; simp [hj]

theorem Told.cons {pre : List En} {lg lg' : Log} {req req' : Nat} (ht : Told pre lg req) {e : En} (hl : ∀ x, x ∈ lg → x ∈ lg') (hr : ∀ i, Nat.testBit req i = true → Nat.testBit req' i = true)
    (he : (e.kd = 0 ∧ e.ls = []) ∨ (e.kd = 1 ∧ e.ls = []) ∨ ((e.kd = 1 ∨ e.kd = 2) ∧ (pre.length, e.kd, e.ls) ∈ lg' ∧ e.er = false) ∨ (e.kd = 3 ∧ Nat.testBit req' pre.length = true) ∨ (e.kd = 2 ∧ e.ls = [] ∧ ∃ x, (pre.length, 4, x) ∈ lg'))
    (her : e.er = false ∨ ∃ ps, (pre.length, 4, [ps]) ∈ lg' ∧ ∀ q e', pre[q]? = some e' → 2 ≤ e'.kd → Nat.testBit ps q = true ∨ Nat.testBit e.c.anc q = true) : Told (pre ++ [e]) lg' req' := by
  have last : ∀ i x, ¬ i < pre.length → (pre ++ [e])[i]? = some x → i = pre.length ∧ x = e := fun i x h hx => by
    rw [List.getElem?_append_right (by omega)] at hx
    have : i = pre.length := by
      rcases Nat.lt_or_ge (i - pre.length) 1 with h' | h'
      · omega
      · simp [List.getElem?_eq_none (show ([e] : List En).length ≤ i - pre.length by simpa using h')] at hx
    subst this
    simp at hx
    exact ⟨rfl, hx.symm⟩
  refine ⟨fun i x hx => ?_, fun i x hx hxe => ?_⟩
  · by_cases h : i < pre.length
    · rw [List.getElem?_append_left h] at hx
      rcases ht.log i x hx with h1 | h1 | ⟨h1, h2, h0⟩ | ⟨h1, h2⟩ | ⟨h1, h2, y, h0⟩
      · exact .inl h1
      · exact .inr (.inl h1)
      · exact .inr (.inr (.inl ⟨h1, hl _ h2, h0⟩))
      · exact .inr (.inr (.inr (.inl ⟨h1, hr _ h2⟩)))
      · exact .inr (.inr (.inr (.inr ⟨h1, h2, y, hl _ h0⟩)))
    · obtain ⟨rfl, rfl⟩ := last i x h hx
      exact he
  · by_cases h : i < pre.length
    · rw [List.getElem?_append_left h] at hx
      obtain ⟨ps, h1, h2⟩ := ht.er i x hx hxe
      exact ⟨ps, hl _ h1, fun q e' hq hq' h3 => h2 q e' hq (by rwa [List.getElem?_append_left (by omega)] at hq') h3⟩
    · obtain ⟨rfl, rfl⟩ := last i x h hx
      rcases her with h1 | ⟨ps, h1, h2⟩
      · rw [hxe] at h1; cases h1
      · exact ⟨ps, h1, fun q e' hq hq' h3 => h2 q e' (by rwa [List.getElem?_append_left hq] at hq') h3⟩

theorem putD_bnd {nt : Nat} {d : Option Nat} {v : SV} {t : List (Nat × SV)} (hu : Uniq t) (h : ∀ p ∈ t, p.1 < nt) (hd : dstOkT nt d = true) : ∀ p ∈ putD d v t, p.1 < nt := by
  intro p hp
  rcases (putD_uniq hu).2 p hp with ⟨d', rfl, rfl⟩ | ⟨_, h2⟩
  · exact nlt hd
  · exact h p h2

theorem reads_of {t : List (Nat × SV)} {c : CO} : ∀ l ∈ readsOf t c, ∃ n ∈ opsOf c, l ∈ locsOf (lk t n) := by
  intro l hl
  unfold readsOf at hl
  split at hl
  · exact ⟨_, by simp [opsOf, tOf], hl⟩
  · exact ⟨_, by simp [opsOf, tOfL], hl⟩
  · exact ⟨_, by simp [opsOf, tOf], hl⟩
  · exact ⟨_, by simp [opsOf, tOf], hl⟩
  · exact ⟨_, by simp [opsOf, tOfL], hl⟩
  · simp at hl

/-- How two entries follow each other. -/
def Link (e : En) (s : SS) : Prop := (∀ x, lk s.t x = lk e.s'.t x) ∧ s.h = e.s'.h

section
variable {P : Program} {A : Ann} {Ω : Type} {env : Env Ω} {out : Ω}

theorem coB_call {b : Builtin} {ats : List TypeId} {l : List CA} {f : CA} {args : List CA} (h : coB P b ats l = some (.call f args)) : False := by
  unfold coB at h
  split at h
  · split at h <;> simp at h
  · split at h
    · have := (cond_some h).2; simp at this
    · simp at h
  · split at h <;> simp at h
  · simp at h
  · simp at h
  · simp at h

theorem coOp_call1 {op : Op} {f : CA} {args : List CA} (h : coOp1 P op = some (.call f args)) :
    ∃ callee cargs ats, op = .call { callee := .value callee, args := cargs, argTypes := ats } ∧ coA callee = some f ∧ coL cargs.toList = some args := by
  unfold coOp1 at h
  split at h
  all_goals try (simp [Option.map_eq_some_iff] at h; done)
  all_goals try (split at h)
  all_goals try (simp [Option.map_eq_some_iff] at h; done)
  all_goals try (have h := (cond_some h).2; simp [Option.map_eq_some_iff] at h; done)
  all_goals try (split at h)
  all_goals try (simp [Option.map_eq_some_iff] at h; done)
  all_goals try (have h := (cond_some h).2; simp [Option.map_eq_some_iff] at h; done)
  all_goals try (have h := (and_some h).2; simp [Option.map_eq_some_iff] at h; done)
  all_goals try (unfold mkO at h; split at h <;> simp at h; done)
  · rename_i c' _ _ f' args' e1 e2
    obtain ⟨callee, cargs, ats⟩ := c'
    obtain ⟨f'', h1, h2⟩ := Option.map_eq_some_iff.1 h
    simp only [CO.call.injEq] at h2
    obtain ⟨rfl, rfl⟩ := h2
    try simp only at e1
    subst e1
    exact ⟨_, _, _, rfl, h1, e2⟩
  · exact (coB_call h).elim

theorem coOp_call {op : Op} {f : CA} {args : List CA} (h : coOp P op = some (.call f args)) :
    ∃ callee cargs ats, op = .call { callee := .value callee, args := cargs, argTypes := ats } ∧ coA callee = some f ∧ coL cargs.toList = some args := by
  unfold coOp at h
  simp only [Option.some.injEq] at h
  cases e : coOp1 P op with
  | some c => rw [e] at h; simp only at h; subst h; exact coOp_call1 e
  | none => rw [e] at h; cases h

theorem coB_app {b : Builtin} {ats : List TypeId} {l : List CA} {e sz by_ : Nat} {kd : Option IntKind} {x y : CA} (h : coB P b ats l = some (.app e sz by_ kd x y)) :
    ∃ t u e', b = .append ∧ ats = [t, u] ∧ l = [x, y] ∧ uT P t = .slice e ∧ uT P u = .slice e' ∧ szT P e ≠ 0 ∧ byT P e ≠ 0 ∧ (zcT P e).isSome = true ∧ intOk P e = true ∧ sz = szT P e ∧ by_ = byT P e ∧ kd = kindT P e := by
  unfold coB at h
  split at h
  · split at h <;> simp at h
  · rename_i a b t u
    split at h
    · rename_i e1 e2 ht hu
      obtain ⟨hb, h⟩ := cond_some h
      simp only [Bool.and_eq_true] at hb
      simp only [Option.some.injEq, CO.app.injEq] at h
      obtain ⟨rfl, rfl, rfl, rfl, rfl, rfl⟩ := h
      exact ⟨t, u, e2, rfl, rfl, rfl, ht, hu, ne_of_beq hb.2.1, ne_of_beq hb.2.2.2.1, hb.2.2.2.2, hb.2.2.1, rfl, rfl, rfl⟩
    · simp at h
  · split at h <;> simp at h
  · simp at h
  · simp at h
  · simp at h

theorem coOp_app1 {op : Op} {e sz by_ : Nat} {kd : Option IntKind} {x y : CA} (h : coOp1 P op = some (.app e sz by_ kd x y)) :
    ∃ b cargs ats l, op = .call { callee := .builtin b, args := cargs, argTypes := ats } ∧ coL cargs.toList = some l ∧ coB P b ats.toList l = some (.app e sz by_ kd x y) := by
  unfold coOp1 at h
  split at h
  all_goals try (simp [Option.map_eq_some_iff] at h; done)
  all_goals try (split at h)
  all_goals try (simp [Option.map_eq_some_iff] at h; done)
  all_goals try (have h := (cond_some h).2; simp [Option.map_eq_some_iff] at h; done)
  all_goals try (split at h)
  all_goals try (simp [Option.map_eq_some_iff] at h; done)
  all_goals try (have h := (cond_some h).2; simp [Option.map_eq_some_iff] at h; done)
  all_goals try (have h := (and_some h).2; simp [Option.map_eq_some_iff] at h; done)
  all_goals try (unfold mkO at h; split at h <;> simp at h; done)
  · rename_i c' _ _ b' args' e1 e2
    obtain ⟨callee, cargs, ats⟩ := c'
    try simp only at e1
    subst e1
    exact ⟨_, _, _, _, rfl, e2, h⟩

theorem coOp_app {o : Oper} {s : SS} {e sz by_ : Nat} {kd : Option IntKind} {x y : CA} (hc : coOp P o.op = some (.app e sz by_ kd x y)) {k : SV → List Nat → SS → Option Ω}
    (h : appE s e sz by_ kd (ev s.t x) (ev s.t y) k = some out) : PlainE P o s k out := by
  unfold coOp at hc
  simp only [Option.some.injEq] at hc
  cases e1 : coOp1 P o.op with
  | none => rw [e1] at hc; cases hc
  | some c =>
    rw [e1] at hc; simp only at hc; subst hc
    obtain ⟨b, cargs, ats, l, ho, hl, hb⟩ := coOp_app1 e1
    obtain ⟨t, u, e', rfl, ha, rfl, ht, hu, h1, h2, h3, h4, rfl, rfl, rfl⟩ := coB_app hb
    obtain ⟨x', y', hxy, hx, hy⟩ := coL_two hl
    obtain rfl : cargs = #[x', y'] := Array.ext' (by simpa using hxy)
    obtain rfl : ats = #[t, u] := Array.ext' (by simpa using ha)
    exact snd_appE ho hx hy ht hu h1 h2 h3 h4 h

theorem coB_newc {b : Builtin} {ats : List TypeId} {l : List CA} {t : TypeId} {z : List SV} (h : coB P b ats l = some (.newc t z)) : False := by
  unfold coB at h
  split at h
  · split at h <;> simp at h
  · split at h
    · have := (cond_some h).2; simp at this
    · simp at h
  · split at h <;> simp at h
  · simp at h
  · simp at h
  · simp at h

theorem coOp_newc1 {op : Op} {t : TypeId} {z : List SV} (h : coOp1 P op = some (.newc t z)) : op = .alloc t ∧ zcT P t = some z := by
  unfold coOp1 at h
  split at h
  all_goals try (simp [Option.map_eq_some_iff] at h; done)
  all_goals try (split at h)
  all_goals try (simp [Option.map_eq_some_iff] at h; done)
  all_goals try (have h := (cond_some h).2; simp [Option.map_eq_some_iff] at h; done)
  all_goals try (split at h)
  all_goals try (simp [Option.map_eq_some_iff] at h; done)
  all_goals try (have h := (cond_some h).2; simp [Option.map_eq_some_iff] at h; done)
  all_goals try (have h := (and_some h).2; simp [Option.map_eq_some_iff] at h; done)
  all_goals try (unfold mkO at h; split at h <;> simp at h; done)
  all_goals try exact (coB_newc h).elim
  all_goals
    obtain ⟨z', h1, h2⟩ := Option.map_eq_some_iff.1 h
    simp only [CO.newc.injEq] at h2
    obtain ⟨rfl, rfl⟩ := h2
    exact ⟨rfl, h1⟩

theorem coOp_newc {op : Op} {t : TypeId} {z : List SV} (h : coOp P op = some (.newc t z)) : op = .alloc t ∧ zcT P t = some z := by
  unfold coOp at h
  simp only [Option.some.injEq] at h
  cases e : coOp1 P op with
  | some c => rw [e] at h; simp only at h; subst h; exact coOp_newc1 e
  | none => rw [e] at h; cases h

/-- One operation of a drawn region that its guard lets run. -/
theorem dop_sound (he : EnvOK P env) {nt : Nat} {o : Oper} {c : CR} (hdst : o.dst = c.dst) (hdk : dstOkT nt c.dst = true) (hco : coOp P o.op = some c.op) {s : SS} (hu : Uniq s.t) (hb : ∀ p ∈ s.t, p.1 < nt) (hrun : ∀ v ls s' kd er, runs ⟨c, s, v, ls, s', kd, er⟩ true)
    {pre : List En} {lg : Log} {req : Nat} (ht : Told pre lg req) (hreq : Nat.beq (c.anc &&& req) req = true) {n : SV → Log → Nat → SS → Option Ω} (h : dop env A c pre.length lg req s n = some out) :
    ∃ (e : En) (lg' : Log) (req' : Nat) (s1 : SS), n e.v lg' req' s1 = some out ∧ e.c = c ∧ e.s = s ∧ e.s' = ⟨putD c.dst e.v s1.t, s1.h⟩ ∧ EnOK P A nt o pre.length e ∧ (∀ i e', pre[i]? = some e' → PairOK i e' e) ∧ Told (pre ++ [e]) lg' req' ∧ Uniq s1.t ∧ ∀ p ∈ s1.t, p.1 < nt := by
  unfold dop at h
  split at h
  · -- it looks at nothing
    rename_i hc
    have hp : PlainV P o ⟨keepT (opsOf c.op) s.t, []⟩ (fun v _ _ => n v lg req s) out := by
      rcases sop_sound he hco h with ⟨_, h⟩ | ⟨h1, _⟩ | ⟨h1, _⟩
      · exact h
      · omega
      · omega
    obtain ⟨v, h1, h2⟩ := hp
    refine ⟨⟨c, s, v, [], ⟨putD c.dst v s.t, s.h⟩, 1, false⟩, lg, req, s, h1, rfl, rfl, rfl, ⟨hu, hb, hdst, fun h => (by cases h), .inr (.inl ⟨rfl, hrun _ _ _ _ _, rfl, by simp, [], by simp [hget], h2.look⟩)⟩, pair_of ht hreq (.inl ⟨.inr rfl, rfl⟩), ht.cons (fun _ h => h) (fun _ h => h) (.inr (.inl ⟨rfl, rfl⟩)) (.inl rfl), hu, hb⟩
  · rename_i hc
    obtain ⟨hcp, h⟩ := cond_some h
    have hp : PlainV P o ⟨keepT (opsOf c.op) s.t, maskH (readsOf s.t c.op) 0 s.h⟩ (fun v _ _ => n v ((pre.length, 1, readsOf s.t c.op) :: lg) req s) out := by
      rcases sop_sound he hco h with ⟨_, h⟩ | ⟨h1, _⟩ | ⟨h1, _⟩
      · exact h
      · omega
      · omega
    obtain ⟨v, h1, h2⟩ := hp
    refine ⟨⟨c, s, v, readsOf s.t c.op, ⟨putD c.dst v s.t, s.h⟩, 1, false⟩, _, req, s, h1, rfl, rfl, rfl, ⟨hu, hb, hdst, fun h => (by cases h), .inr (.inl ⟨rfl, hrun _ _ _ _ _, rfl, reads_of, _, fun l => ?_, h2.look⟩)⟩, pair_of ht hreq (.inr (.inl ⟨.inl rfl, hcp⟩)),
      ht.cons (fun _ h => List.mem_cons_of_mem _ h) (fun _ h => h) (.inr (.inr (.inl ⟨.inl rfl, by simp, rfl⟩))) (.inl rfl), hu, hb⟩
    rcases maskH_get (ls := readsOf s.t c.op) (h := s.h) (i := 0) (l := l) with h3 | ⟨h3, h4⟩
    · exact .inl h3
    · exact .inr ⟨by simpa using h3, h4⟩
  · rename_i hc
    have hp : PlainE P o ⟨keepT (opsOf c.op) s.t, s.h⟩ (fun v m s' => bif compat c.anc 2 m lg then n v ((pre.length, 2, m) :: lg) req ⟨s.t, s'.h⟩ else match c.op with
        | .newc t z => bif early c.anc lg && (allV z && topAt s.t c.dst) then n (.ptr s.h.length 0) ((pre.length, 4, [passed c.anc lg]) :: lg) req ⟨s.t, s.h ++ [.cells t z]⟩ else none
        | _ => none) out := by
      rcases sop_sound he hco h with ⟨h1, _⟩ | ⟨_, h⟩ | ⟨h1, _⟩
      · omega
      · exact h
      · omega
    obtain ⟨v, m, h', h1, h2, h3⟩ := hp
    dsimp only at h1
    cases hcp : compat c.anc 2 m lg with
    | true =>
      rw [hcp, cond_true] at h1
      exact ⟨⟨c, s, v, m, ⟨putD c.dst v s.t, h'⟩, 2, false⟩, _, req, ⟨s.t, h'⟩, h1, rfl, rfl, rfl, ⟨hu, hb, hdst, fun h => (by cases h), .inr (.inr (.inl ⟨rfl, hrun _ _ _ _ _, rfl, h3, h2⟩))⟩, pair_of ht hreq (.inr (.inl ⟨.inr rfl, hcp⟩)),
        ht.cons (fun _ h => List.mem_cons_of_mem _ h) (fun _ h => h) (.inr (.inr (.inl ⟨.inr rfl, by simp, rfl⟩))) (.inl rfl), hu, hb⟩
    | false =>
      rw [hcp, cond_false] at h1
      split at h1
      · rename_i t z hop
        obtain ⟨hz, h1⟩ := cond_some h1
        simp only [Bool.and_eq_true] at hz
        obtain ⟨hz1, hz2, hz3⟩ := hz
        have hsn : ∀ s : SS, OpOK0 P o s (.ptr s.h.length 0) ⟨s.t, s.h ++ [.cells t z]⟩ := by
          obtain ⟨k1, k2⟩ := coOp_newc (by rw [hco, hop])
          exact fun s => snd_newc k1 k2
        have htop : ∃ d, c.dst = some d ∧ lk s.t d = .top := by
          unfold topAt at hz3
          split at hz3
          · rename_i d hd
            refine ⟨d, hd, ?_⟩
            split at hz3
            · assumption
            · cases hz3
          · cases hz3
        refine ⟨⟨c, s, .ptr s.h.length 0, [], ⟨putD c.dst (.ptr s.h.length 0) s.t, s.h ++ [.cells t z]⟩, 2, true⟩, _, req, ⟨s.t, s.h ++ [.cells t z]⟩, h1, rfl, rfl, rfl,
          ⟨hu, hb, hdst, fun _ => ⟨rfl, hrun _ _ _ _ _, rfl, htop, t, z, rfl, rfl, hz2, by simpa using hsn ⟨[], []⟩⟩, .inr (.inr (.inl ⟨rfl, hrun _ _ _ _ _, rfl, Keeps.new _ _, hsn ⟨_, s.h⟩⟩))⟩, pair_of ht hreq (.inr (.inr ⟨rfl, rfl, rfl, hz1⟩)),
          ht.cons (fun _ h => List.mem_cons_of_mem _ h) (fun _ h => h) (.inr (.inr (.inr (.inr ⟨rfl, rfl, _, List.mem_cons_self⟩)))) (.inr ⟨_, List.mem_cons_self, fun q e' hq h2 => ?_⟩), hu, hb⟩
        have hpiv : e'.kd = 3 → Nat.testBit req q = true → Nat.testBit c.anc q = true := fun _ hb => by
          have := nbeq.1 hreq
          rw [← this, Nat.testBit_and, Bool.and_eq_true] at hb
          exact hb.1
        rcases ht.log q e' hq with ⟨k1, _⟩ | ⟨k1, _⟩ | ⟨k1, k2, _⟩ | ⟨k1, k2⟩ | ⟨k1, k2, x, k3⟩
        · omega
        · omega
        · have : e'.kd = 2 := by omega
          rw [this] at k2
          exact passed_of k2
        · exact .inr (hpiv k1 k2)
        · rcases early_of hz1 k3 with k4 | k4 | k4
          · exact .inr k4
          · omega
          · omega
      · cases h1
  · rename_i hc0 hc1 hc2
    have pivot : ∀ {v : SV} {t1 : List (Nat × SV)} {h' : SH}, c.anc + 1 = 2 ^ pre.length → t1.Sublist s.t → OpOK P A o s v ⟨t1, h'⟩ → n v lg (req ||| 2 ^ pre.length) ⟨t1, h'⟩ = some out →
        ∃ (e : En) (lg' : Log) (req' : Nat) (s1 : SS), n e.v lg' req' s1 = some out ∧ e.c = c ∧ e.s = s ∧ e.s' = ⟨putD c.dst e.v s1.t, s1.h⟩ ∧ EnOK P A nt o pre.length e ∧ (∀ i e', pre[i]? = some e' → PairOK i e' e) ∧ Told (pre ++ [e]) lg' req' ∧ Uniq s1.t ∧ ∀ p ∈ s1.t, p.1 < nt := by
      intro v t1 h' hanc hsub hop h1
      refine ⟨⟨c, s, v, [], ⟨putD c.dst v t1, h'⟩, 3, false⟩, lg, _, ⟨t1, h'⟩, h1, rfl, rfl, rfl, ⟨hu, hb, hdst, fun h => (by cases h), .inr (.inr (.inr ⟨rfl, hrun _ _ _ _ _, hanc, t1, hsub, rfl, hop⟩))⟩, fun i e' hi => .inl (bit_pivot hanc (List.getElem?_eq_some_iff.1 hi).1),
        ht.cons (fun _ h => h) (fun i h => by rw [Nat.testBit_or, h]; rfl) (.inr (.inr (.inr (.inl ⟨rfl, by rw [Nat.testBit_or, Nat.testBit_two_pow_self]; simp⟩)))) (.inl rfl), hu.sub hsub, fun p hp => hb p (hsub.mem hp)⟩
    split at h
    · rename_i f args hcop
      split at h
      · rename_i g a b hv
        split at h
        · rename_i sp hg
          obtain ⟨callee, cargs, ats, ho, hf, hal⟩ : ∃ callee cargs ats, o.op = .call { callee := .value callee, args := cargs, argTypes := ats } ∧ coA callee = some f ∧ coL cargs.toList = some args := coOp_call (by rw [hco, hcop])
          rw [hcop] at hv h
          cases hpu : nmem g A.pu with
          | true =>
            rw [hpu, cond_true] at h
            cases hmt : mentT (fun _ => true) (keepT (opsOf (.call f args)) s.t) with
            | true => rw [hmt] at h; cases h
            | false =>
              rw [hmt, cond_false] at h
              obtain ⟨r, m, sc, h', h1, h2, h3⟩ := snd_call (s := ⟨keepT (opsOf (.call f args)) s.t, []⟩) ho hf hal he hv hg h
              dsimp only at h1
              split at h1
              · cases hvt : ment (fun _ => true) r with
                | true => rw [hvt] at h1; cases h1
                | false =>
                  rw [hvt, cond_false] at h1
                  have h2' : OpOK0 P o ⟨keepT (opsOf (.call f args)) s.t, []⟩ r ⟨keepT (opsOf (.call f args)) s.t, []⟩ := by
                    have : (fun l => nmem l []) = fun _ => false := funext fun l => by simp [nmem]
                    rw [this] at h2
                    exact h2
                  exact ⟨⟨c, s, r, [], ⟨putD c.dst r s.t, s.h⟩, 1, false⟩, lg, req, s, h1, rfl, rfl, rfl, ⟨hu, hb, hdst, fun h => (by cases h), .inr (.inl ⟨rfl, hrun _ _ _ _ _, rfl, by simp, [], by simp [hget], by unfold needOf; rw [hcop]; exact look_call h2' hmt hvt []⟩)⟩, pair_of ht hreq (.inl ⟨.inr rfl, rfl⟩), ht.cons (fun _ h => h) (fun _ h => h) (.inr (.inl ⟨rfl, rfl⟩)) (.inl rfl), hu, hb⟩
              · cases h1
          | false =>
          rw [hpu, cond_false] at h
          obtain ⟨r, m, sc, h', h1, h2, h3⟩ := snd_call (s := ⟨keepT (opsOf (.call f args)) s.t, s.h⟩) ho hf hal he hv hg h
          dsimp only at h1
          split at h1
          · obtain ⟨hcp, h1⟩ := cond_some h1
            have h2' : OpOK0 P o ⟨keepT (opsOf (.call f args)) s.t, s.h⟩ r ⟨keepT (opsOf (.call f args)) s.t, h'⟩ := by
              have : (fun l => nmem l []) = fun _ => false := funext fun l => by simp [nmem]
              rw [this] at h2
              exact h2
            exact ⟨⟨c, s, r, m, ⟨putD c.dst r s.t, h'⟩, 2, false⟩, _, req, ⟨s.t, h'⟩, h1, rfl, rfl, rfl, ⟨hu, hb, hdst, fun h => (by cases h), .inr (.inr (.inl ⟨rfl, hrun _ _ _ _ _, rfl, h3, by unfold needOf; rw [hcop]; exact h2'⟩))⟩, pair_of ht hreq (.inr (.inl ⟨.inr rfl, hcp⟩)),
              ht.cons (fun _ h => List.mem_cons_of_mem _ h) (fun _ h => h) (.inr (.inr (.inl ⟨.inr rfl, by simp, rfl⟩))) (.inl rfl), hu, hb⟩
          · obtain ⟨hcp, h1⟩ := cond_some h1
            simp only [Bool.and_eq_true] at hcp
            refine pivot (nbeq.1 hcp.1) scrubTs_sub (fun cx w ac hG ht next Q hn => ?_) h1
            refine h2 cx w ac hG (fun i x hx => ht i x (keepT_mem hx).2) next Q fun cx' w' v' gr hr _ hG' => ?_
            exact hn cx' w' v' (gr.weak fun l hl => allOk_no hcp.2 hl) hr (TRep.scrubs gr ht) hG'
        · simp at h
      · simp at h
    · rename_i e sz by_ kd x y hcop
      cases hcp : Nat.beq (c.anc + 1) (2 ^ pre.length) with
      | true =>
        rw [hcp, cond_true, ← hcop] at h
        have hp : Plain P A o s (fun v _ s' => n v lg (req ||| 2 ^ pre.length) s') out := by
          rcases sop_sound he hco h with ⟨_, h⟩ | ⟨_, h⟩ | ⟨_, h⟩
          · exact h.plain
          · exact h.plain
          · exact h
        obtain ⟨v, m, s', h1, h2, h3⟩ := hp
        exact pivot (nbeq.1 hcp) h2 h3 h1
      | false =>
        rw [hcp, cond_false] at h
        have hp : PlainE P o ⟨keepT (opsOf c.op) s.t, s.h⟩ (fun v m s' => bif compat c.anc 2 m lg then n v ((pre.length, 2, m) :: lg) req ⟨s.t, s'.h⟩ else none) out := coOp_app (by rw [hco, hcop]) h
        obtain ⟨v, m, h', h1, h2, h3⟩ := hp
        obtain ⟨hcp, h1⟩ := cond_some h1
        exact ⟨⟨c, s, v, m, ⟨putD c.dst v s.t, h'⟩, 2, false⟩, _, req, ⟨s.t, h'⟩, h1, rfl, rfl, rfl, ⟨hu, hb, hdst, fun h => (by cases h), .inr (.inr (.inl ⟨rfl, hrun _ _ _ _ _, rfl, h3, h2⟩))⟩, pair_of ht hreq (.inr (.inl ⟨.inr rfl, hcp⟩)),
          ht.cons (fun _ h => List.mem_cons_of_mem _ h) (fun _ h => h) (.inr (.inr (.inl ⟨.inr rfl, by simp, rfl⟩))) (.inl rfl), hu, hb⟩
    · simp at h
end
end Go.Sx

/- Regions that draw their order, second part: the whole trace. -/
namespace Go.Sx

/-- The state ahead of entry i. -/
def stA (es : List En) (sf : SS) (i : Nat) : SS := match es[i]? with
  | some e => e.s
  | none => sf

def GuardOK (all : List Oper) (o : Oper) (c : CR) : Prop := match o.guard with
  | none => c.guard = none
  | some (j, w) => ∃ d, (all[j]?).bind (·.dst) = some d ∧ c.guard = some (d, w)

structure Trc (P : Program) (A : Ann) (nt : Nat) (all : List Oper) (pre : List En) (l : List Oper) (cs : List CR) (s : SS) (es : List En) (sf : SS) : Prop where
  len : es.length = l.length
  uniq : Uniq sf.t
  bnd : ∀ p ∈ sf.t, p.1 < nt
  ok : ∀ (i : Nat) (o : Oper) (e : En), l[i]? = some o → es[i]? = some e → EnOK P A nt o (pre.length + i) e ∧ GuardOK all o e.c ∧ cs[i]? = some e.c ∧
    e.c.anc = ancOf ((pre ++ es.take i).map (·.c.anc)) o ∧ (∀ x ∈ o.after, Region.binds .any x = true → x.on < pre.length + i) ∧ (∀ d, o.dst = some d → d < nt)
  pair : ∀ (j : Nat) (e : En), es[j]? = some e → ∀ (i : Nat) (e' : En), i < pre.length + j → (pre ++ es)[i]? = some e' → PairOK i e' e
  fol : ∀ (j : Nat) (e : En), es[j]? = some e → ∀ (i : Nat) (e' : En), i < pre.length + j → (pre ++ es)[i]? = some e' → Fol (pre ++ es) i e' e
  head : (∀ x, lk (stA es sf 0).t x = lk s.t x) ∧ (stA es sf 0).h = s.h
  link : ∀ (i : Nat) (e : En), es[i]? = some e → Link e (stA es sf (i + 1))

theorem Trc.cons {P : Program} {A : Ann} {nt : Nat} {all : List Oper} {pre : List En} {o : Oper} {l : List Oper} {c : CR} {cs : List CR} {s0 : SS} {e : En} {es : List En} {sf : SS}
    (h : Trc P A nt all (pre ++ [e]) l cs e.s' es sf) (hs : (∀ x, lk e.s.t x = lk s0.t x) ∧ e.s.h = s0.h) (hok : EnOK P A nt o pre.length e) (hg : GuardOK all o e.c) (hc : c = e.c) (ha : e.c.anc = ancOf (pre.map (·.c.anc)) o)
    (hb : ∀ x ∈ o.after, Region.binds .any x = true → x.on < pre.length) (hd : ∀ d, o.dst = some d → d < nt) (hp : ∀ i e', pre[i]? = some e' → PairOK i e' e) (hf : ∀ i e', pre[i]? = some e' → Fol pre i e' e) :
    Trc P A nt all pre (o :: l) (c :: cs) s0 (e :: es) sf where
  len := by simp [h.len]
  uniq := h.uniq
  bnd := h.bnd
  ok := fun i o' e' h1 h2 => by
    cases i with
    | zero =>
      simp only [List.getElem?_cons_zero, Option.some.injEq] at h1 h2
      subst h1; subst h2
      exact ⟨hok, hg, by simp [hc], by simpa using ha, by simpa using hb, hd⟩
    | succ i =>
      simp only [List.getElem?_cons_succ] at h1 h2
      have := h.ok i o' e' h1 h2
      simp only [List.length_append, List.length_cons, List.length_nil, List.append_assoc, List.singleton_append] at this
      rw [show pre.length + (i + 1) = pre.length + (0 + 1) + i by omega]
      simpa using this
  pair := fun j e' h1 i e'' hi h2 => by
    cases j with
    | zero =>
      simp only [List.getElem?_cons_zero, Option.some.injEq] at h1
      subst h1
      rw [List.getElem?_append_left (by omega)] at h2
      exact hp i e'' h2
    | succ j =>
      simp only [List.getElem?_cons_succ] at h1
      exact h.pair j e' h1 i e'' (by simp; omega) (by simpa using h2)
  fol := fun j e' h1 i e'' hi h2 => by
    cases j with
    | zero =>
      simp only [List.getElem?_cons_zero, Option.some.injEq] at h1
      subst h1
      rw [List.getElem?_append_left (by omega)] at h2
      intro her hb q x hq hx h3
      rw [List.getElem?_append_left (by omega)] at hx
      exact hf i e'' h2 her hb q x hq hx h3
    | succ j =>
      simp only [List.getElem?_cons_succ] at h1
      have := h.fol j e' h1 i e'' (by simp; omega) (by simpa using h2)
      simpa using this
  head := hs
  link := fun i e' h1 => by
    cases i with
    | zero =>
      simp only [List.getElem?_cons_zero, Option.some.injEq] at h1
      subst h1
      exact h.head
    | succ i =>
      simp only [List.getElem?_cons_succ] at h1
      exact h.link i e' h1

section
variable {P : Program} {A : Ann} {Ω : Type} {env : Env Ω} {out : Ω}

theorem sregD_trace (he : EnvOK P env) {nt : Nat} {all : List Oper} {k : SS → Option Ω} :
    ∀ (l : List Oper) (cs : List CR) (pre : List En) (lg : Log) (req : Nat) (s : SS), coR P nt true all l (pre.map (·.c.anc)) = some cs → sregD env A cs pre.length lg req s k = some out →
    Uniq s.t → (∀ p ∈ s.t, p.1 < nt) → Told pre lg req → ∃ (es : List En) (sf : SS), k sf = some out ∧ Trc P A nt all pre l cs s es sf
  | [], cs, pre, lg, req, s, hc, h, hu, hb, ht => by
    simp only [coR, Option.some.injEq] at hc; subst hc
    simp only [sregD] at h
    exact ⟨[], s, h, ⟨rfl, hu, hb, by simp, by simp, by simp, ⟨fun x => rfl, rfl⟩, by simp⟩⟩
  | o :: r, cs, pre, lg, req, s, hc, h, hu, hb, ht => by
    simp only [coR] at hc
    obtain ⟨hchk, hc⟩ := cond_some hc
    simp only [Bool.and_eq_true, Bool.not_true, Bool.false_or] at hchk
    have hdst : ∀ d, o.dst = some d → d < nt := fun d hd => by
      have := hchk.1
      rw [hd] at this; exact nlt this
    have hedge : ∀ x ∈ o.after, Region.binds .any x = true → x.on < pre.length := fun x hx hbx => by
      have := List.all_eq_true.1 hchk.2 x (by simpa using hx)
      simp only [hbx, Bool.not_true, Bool.false_or, List.length_map] at this
      exact nlt this
    split at hc
    · rename_i c l hco hr
      simp only [cond_true] at hr hc
      have main : ∀ (g : Option (Nat × Bool)), GuardOK all o ⟨o.dst, c, g, ancOf (pre.map (·.c.anc)) o⟩ → cs = ⟨o.dst, c, g, ancOf (pre.map (·.c.anc)) o⟩ :: l → ∃ (es : List En) (sf : SS), k sf = some out ∧ Trc P A nt all pre (o :: r) cs s es sf := by
        intro g hgd hcs
        subst hcs
        simp only [sregD] at h
        obtain ⟨hreq, h⟩ := cond_some h
        simp only [Bool.and_eq_true] at hreq
        obtain ⟨hreq, hfw⟩ := hreq
        have run : ∀ (s1 : SS), Uniq s1.t → (∀ p ∈ s1.t, p.1 < nt) → (∀ x, lk s1.t x = lk s.t x) → s1.h = s.h → (∀ v ls s' kd er, runs ⟨⟨o.dst, c, g, ancOf (pre.map (·.c.anc)) o⟩, s1, v, ls, s', kd, er⟩ true) →
            dop env A ⟨o.dst, c, g, ancOf (pre.map (·.c.anc)) o⟩ pre.length lg req s1 (fun v lg req s' => sregD env A l (pre.length + 1) lg req ⟨putD o.dst v s'.t, s'.h⟩ k) = some out →
            ∃ (es : List En) (sf : SS), k sf = some out ∧ Trc P A nt all pre (o :: r) (⟨o.dst, c, g, ancOf (pre.map (·.c.anc)) o⟩ :: l) s es sf := by
          intro s1 hu1 hb1 hl1 hh1 hr1 h1
          obtain ⟨e, lg', req', s2, h2, e1, e2, e3, hok, hp, ht', hu2, hb2⟩ := dop_sound (P := P) (o := o) (nt := nt) he rfl hchk.1 hco hu1 hb1 hr1 ht hreq h1
          have e1' := e1
          obtain ⟨es, sf, hk, T⟩ := sregD_trace he r l (pre ++ [e]) lg' req' ⟨putD o.dst e.v s2.t, s2.h⟩ (by simpa [e1] using hr) (by simpa using h2) (putD_uniq (d := o.dst) (x := e.v) hu2).1 (putD_bnd (d := o.dst) (v := e.v) hu2 hb2 hchk.1) ht'
          rw [e3.symm.trans rfl |> fun _ => show (⟨putD o.dst e.v s2.t, s2.h⟩ : SS) = e.s' from e3.symm] at T
          exact ⟨e :: es, sf, hk, T.cons ⟨fun x => by rw [e2]; exact hl1 x, by rw [e2]; exact hh1⟩ hok (by rw [e1]; exact hgd) e1.symm (by rw [e1]) hedge hdst hp (fol_of ht (by rw [e1]; exact hfw))⟩
        have skip : ∀ (s1 : SS), Uniq s1.t → (∀ p ∈ s1.t, p.1 < nt) → (∀ x, lk s1.t x = lk s.t x) → s1.h = s.h → (∀ v ls s' kd er, runs ⟨⟨o.dst, c, g, ancOf (pre.map (·.c.anc)) o⟩, s1, v, ls, s', kd, er⟩ false) →
            sregD env A l (pre.length + 1) lg req ⟨putD o.dst (.tup []) s1.t, s1.h⟩ k = some out →
            ∃ (es : List En) (sf : SS), k sf = some out ∧ Trc P A nt all pre (o :: r) (⟨o.dst, c, g, ancOf (pre.map (·.c.anc)) o⟩ :: l) s es sf := by
          intro s1 hu1 hb1 hl1 hh1 hr1 h1
          let e : En := ⟨⟨o.dst, c, g, ancOf (pre.map (·.c.anc)) o⟩, s1, .tup [], [], ⟨putD o.dst (.tup []) s1.t, s1.h⟩, 0, false⟩
          have ht' : Told (pre ++ [e]) lg req := ht.cons (fun _ h => h) (fun _ h => h) (.inl ⟨rfl, rfl⟩) (.inl rfl)
          obtain ⟨es, sf, hk, T⟩ := sregD_trace he r l (pre ++ [e]) lg req ⟨putD o.dst (.tup []) s1.t, s1.h⟩ (by simpa [e] using hr) (by simpa using h1) (putD_uniq (d := o.dst) (x := .tup []) hu1).1 (putD_bnd (d := o.dst) (v := .tup []) hu1 hb1 hchk.1) ht'
          exact ⟨e :: es, sf, hk, Trc.cons (e := e) T ⟨hl1, hh1⟩ ⟨hu1, hb1, rfl, fun h => (by cases h), .inl ⟨rfl, hr1 _ _ _ _ _, rfl, rfl, rfl⟩⟩ hgd rfl rfl hedge hdst (pair_of ht hreq (.inl ⟨.inl rfl, rfl⟩)) (fol_of ht hfw)⟩
        rcases g with _ | ⟨d, want⟩
        · exact run s hu hb (fun _ => rfl) rfl (fun _ _ _ _ _ => by simp [runs]) h
        · dsimp only at h
          split at h
          · rename_i b hlb
            have hbd : ∀ v, ∀ p ∈ stt s.t d v, p.1 < nt := fun v p hp => by
              rcases (stt_uniq hu).2 p hp with rfl | ⟨_, h⟩
              · exact hb (d, lk s.t d) (lk_mem (n := d) (t := s.t) (by rw [hlb]; simp))
              · exact hb p h
            rcases br_some h with ⟨rfl, h⟩ | ⟨rfl, h⟩
            · have hl : ∀ x, lk (stt s.t d (.d (.v (.bool true)))) x = lk s.t x := fun x => by
                rw [lk_stt]; split
                · rename_i e; subst e; exact hlb.symm
                · rfl
              cases want with
              | true => exact run ⟨_, s.h⟩ (stt_uniq hu).1 (hbd _) hl rfl (fun _ _ _ _ _ => by simp only [runs]; exact .inl ⟨true, by rw [hl]; exact hlb, rfl⟩) h
              | false => exact skip ⟨_, s.h⟩ (stt_uniq hu).1 (hbd _) hl rfl (fun _ _ _ _ _ => by simp only [runs]; exact .inl ⟨true, by rw [hl]; exact hlb, rfl⟩) h
            · have hl : ∀ x, lk (stt s.t d (.d (.v (.bool false)))) x = lk s.t x := fun x => by
                rw [lk_stt]; split
                · rename_i e; subst e; exact hlb.symm
                · rfl
              cases want with
              | true => exact skip ⟨_, s.h⟩ (stt_uniq hu).1 (hbd _) hl rfl (fun _ _ _ _ _ => by simp only [runs]; exact .inl ⟨false, by rw [hl]; exact hlb, rfl⟩) h
              | false => exact run ⟨_, s.h⟩ (stt_uniq hu).1 (hbd _) hl rfl (fun _ _ _ _ _ => by simp only [runs]; exact .inl ⟨false, by rw [hl]; exact hlb, rfl⟩) h
          · rename_i hlb
            exact skip s hu hb (fun _ => rfl) rfl (fun _ _ _ _ _ => by simp only [runs]; exact .inr ⟨hlb, trivial⟩) h
          · simp at h
      split at hc
      · rename_i hgd
        simp only [Option.some.injEq] at hc
        exact main none (by simp [GuardOK, hgd]) hc.symm
      · rename_i j want hgd
        split at hc
        · rename_i d hd
          simp only [Option.some.injEq] at hc
          exact main (some (d, want)) (by simp only [GuardOK, hgd]; exact ⟨d, hd, rfl⟩) hc.symm
        · simp at hc
    · simp at hc
end
end Go.Sx

/- Regions that draw their order, third part: every order does what the text's order does. -/
namespace Go.Sx

def dstE (es : List En) (i : Nat) : Option Nat := (es[i]?).bind (·.c.dst)
def valE (es : List En) (i : Nat) : SV := match es[i]? with
  | some e => e.v
  | none => .top
def kdE (es : List En) (i : Nat) : Nat := match es[i]? with
  | some e => e.kd
  | none => 0
def ancE (es : List En) (i : Nat) : Nat := match es[i]? with
  | some e => e.c.anc
  | none => 0

def K (es : List En) (D : Nat → Bool) (f0 : Nat → SV) (b : Nat) : Nat → Nat → SV
  | 0, x => f0 x
  | m + 1, x => if D (b + m) = true ∧ dstE es (b + m) = some x then valE es (b + m) else K es D f0 b m x

section
variable {es : List En} {D D' : Nat → Bool} {f0 : Nat → SV} {b x : Nat}

theorem K_congr : ∀ m, (∀ i, i < m → dstE es (b + i) = some x → D (b + i) = D' (b + i)) → K es D f0 b m x = K es D' f0 b m x
  | 0, _ => rfl
  | m + 1, h => by
    simp only [K]
    by_cases hd : dstE es (b + m) = some x
    · rw [h m (by omega) hd, K_congr m fun i hi => h i (by omega)]
    · simp only [hd, and_false, if_false]
      exact K_congr m fun i hi => h i (by omega)

theorem K_skip {m : Nat} : ∀ k, (∀ i, m ≤ i → i < m + k → dstE es (b + i) = some x → D (b + i) = false) → K es D f0 b (m + k) x = K es D f0 b m x
  | 0, _ => rfl
  | k + 1, h => by
    rw [← Nat.add_assoc]
    simp only [K]
    rw [if_neg (fun ⟨h1, h2⟩ => by rw [h (m + k) (by omega) (by omega) h2] at h1; cases h1)]
    exact K_skip k fun i h1 h2 => h i h1 (by omega)
end

section
variable {P : Program} {A : Ann} {nt : Nat} {ops : Array Oper} {cs : List CR} {s : SS} {es : List En} {sf : SS}

theorem Trc.get (T : Trc P A nt ops.toList [] ops.toList cs s es sf) {i : Nat} (hi : i < es.length) : ∃ o e, ops[i]? = some o ∧ es[i]? = some e ∧ EnOK P A nt o i e ∧ GuardOK ops.toList o e.c ∧ cs[i]? = some e.c ∧
    e.c.anc = ancOf ((es.take i).map (·.c.anc)) o ∧ (∀ x ∈ o.after, Region.binds .any x = true → x.on < i) ∧ (∀ d, o.dst = some d → d < nt) := by
  have hl : i < ops.toList.length := by rw [← T.len]; exact hi
  have h1 : ops[i]? = some (ops.toList[i]) := by rw [← Array.getElem?_toList]; exact List.getElem?_eq_getElem hl
  have h2 : es[i]? = some es[i] := List.getElem?_eq_getElem hi
  have := T.ok i _ _ (List.getElem?_eq_getElem hl) h2
  simp only [List.length_nil, Nat.zero_add, List.nil_append] at this
  exact ⟨_, _, h1, h2, this⟩

theorem stA_some {i : Nat} {e : En} (h : es[i]? = some e) : stA es sf i = e.s := by simp [stA, h]

theorem st_step (T : Trc P A nt ops.toList [] ops.toList cs s es sf) {i : Nat} {e : En} (he : es[i]? = some e) (hk : e.kd ≠ 3) (x : Nat) : lk (stA es sf (i + 1)).t x = if e.c.dst = some x then e.v else lk (stA es sf i).t x := by
  obtain ⟨o, e', h1, h2, hok, _⟩ := T.get (List.getElem?_eq_some_iff.1 he).1
  rw [he] at h2; simp only [Option.some.injEq] at h2; subst h2
  rw [(T.link i e he).1 x, stA_some he]
  have : e.s'.t = putD e.c.dst e.v e.s.t := by
    rcases hok.kind with ⟨_, _, h3, _, h4⟩ | ⟨_, _, h4, _⟩ | ⟨_, _, h4, _⟩ | ⟨h3, _⟩
    · rw [h4, h3]
    · rw [h4]
    · exact h4
    · exact absurd h3 hk
  rw [this, lk_putD hok.uniq]

theorem K_seq (T : Trc P A nt ops.toList [] ops.toList cs s es sf) {b x : Nat} : ∀ m, (∀ i, i < m → kdE es (b + i) ≠ 3) → b + m ≤ es.length → K es (fun _ => true) (lk (stA es sf b).t) b m x = lk (stA es sf (b + m)).t x
  | 0, _, _ => rfl
  | m + 1, h, hl => by
    have hi : b + m < es.length := by omega
    have he : es[b + m]? = some es[b + m] := List.getElem?_eq_getElem hi
    have hk := h m (by omega)
    simp only [kdE, he] at hk
    rw [← Nat.add_assoc, st_step T he hk]
    simp only [K, true_and, dstE, valE, he, Option.bind_some]
    rw [K_seq T m (fun i hi => h i (by omega)) (by omega)]

theorem heap_step (T : Trc P A nt ops.toList [] ops.toList cs s es sf) {i l : Nat} {e : En} (he : es[i]? = some e) (hk : e.kd ≠ 3) (hl : e.kd = 2 → l ∉ e.ls) (hlt : l < (stA es sf i).h.length) :
    hget (stA es sf (i + 1)).h l = hget (stA es sf i).h l ∧ l < (stA es sf (i + 1)).h.length := by
  obtain ⟨o, e', h1, h2, hok, _⟩ := T.get (List.getElem?_eq_some_iff.1 he).1
  rw [he] at h2; simp only [Option.some.injEq] at h2; subst h2
  rw [(T.link i e he).2]
  rw [stA_some he] at hlt ⊢
  rcases hok.kind with ⟨_, _, _, _, h4⟩ | ⟨_, _, h4, _⟩ | ⟨h3, _, _, h4, _⟩ | ⟨h3, _⟩
  · rw [h4]; exact ⟨rfl, hlt⟩
  · rw [h4]; exact ⟨rfl, hlt⟩
  · exact ⟨h4.2 l hlt (nmem_iff.2 (hl h3)), Nat.lt_of_lt_of_le hlt h4.1⟩
  · exact absurd h3 hk

theorem heap_fwd (T : Trc P A nt ops.toList [] ops.toList cs s es sf) {p l : Nat} (hlt : l < (stA es sf p).h.length) : ∀ k, p + k ≤ es.length → (∀ i e, p ≤ i → i < p + k → es[i]? = some e → e.kd ≠ 3 ∧ (e.kd = 2 → l ∉ e.ls)) →
    hget (stA es sf (p + k)).h l = hget (stA es sf p).h l ∧ l < (stA es sf (p + k)).h.length
  | 0, _, _ => ⟨rfl, hlt⟩
  | k + 1, hk, h => by
    obtain ⟨h1, h2⟩ := heap_fwd T hlt k (by omega) fun i e a b => h i e a (by omega)
    have he : es[p + k]? = some es[p + k] := List.getElem?_eq_getElem (by omega)
    obtain ⟨h3, h4⟩ := h (p + k) _ (by omega) (by omega) he
    obtain ⟨h5, h6⟩ := heap_step T he h3 h4 h2
    exact ⟨by rw [← Nat.add_assoc, h5, h1], h6⟩

theorem heap_const (T : Trc P A nt ops.toList [] ops.toList cs s es sf) {p : Nat} : ∀ k, p + k ≤ es.length → (∀ i, p ≤ i → i < p + k → kdE es i < 2) → (stA es sf (p + k)).h = (stA es sf p).h
  | 0, _, _ => rfl
  | k + 1, hk, h => by
    have he : es[p + k]? = some es[p + k] := List.getElem?_eq_getElem (by omega)
    have h1 := h (p + k) (by omega) (by omega)
    simp only [kdE, he] at h1
    obtain ⟨o, e', _, h2, hok, _⟩ := T.get (i := p + k) (by omega)
    rw [he] at h2; simp only [Option.some.injEq] at h2; subst h2
    rw [← Nat.add_assoc, (T.link _ _ he).2, ← heap_const T k (by omega) fun i a b => h i a (by omega), stA_some he]
    rcases hok.kind with ⟨_, _, _, _, h4⟩ | ⟨_, _, h4, _⟩ | ⟨h3, _, _, h4, _⟩ | ⟨h3, _⟩
    · rw [h4]
    · rw [h4]
    · omega
    · omega

def Good (cx : Cx) (w : World) (tm : Array Value) (x : Nat) (v : SV) : Prop := v = .top ∨ (x < tm.size ∧ SRep cx w v (tm.getD x undef))

theorem Good.grow {cx cx' : Cx} {w w' : World} {tm : Array Value} {x : Nat} {v : SV} (g : Grow0 cx w cx' w') (h : Good cx w tm x v) : Good cx' w' tm x v := h.imp id fun ⟨a, b⟩ => ⟨a, b.grow g⟩

structure Inv (nt : Nat) (es : List En) (sf : SS) (D : Nat → Bool) (cx : Cx) (w : World) (tm : Array Value) (b p : Nat) : Prop where
  ble : b ≤ es.length
  ple : p ≤ es.length
  low : ∀ i, i < b → D i = true
  piv : ∀ i, b ≤ i → D i = true → kdE es i ≠ 3
  eff : ∀ i, i < es.length → 2 ≤ kdE es i → (D i = true ↔ i < p)
  clo : ∀ i, D i = true → ∀ x, Nat.testBit (ancE es i) x = true → D x = true
  gam : Gam cx (stA es sf p).h w
  tmp : ∀ x, Good cx w tm x (K es D (lk (stA es sf b).t) b (es.length - b) x)
  size : tm.size = nt

theorem ancOf_bit {acc : List Nat} {o : Oper} {x : Nat} (h : Nat.testBit (ancOf acc o) x = true) : ∃ e ∈ o.after, Region.binds .any e = true ∧ (x = e.on ∨ Nat.testBit (acc.getD e.on 0) x = true) := by
  unfold ancOf at h
  have : ∀ (l : List Edge) (s : Nat), Nat.testBit (l.foldl (fun s e => bif Region.binds .any e then s ||| (2 ^ e.on ||| acc.getD e.on 0) else s) s) x = true → Nat.testBit s x = true ∨ ∃ e ∈ l, Region.binds .any e = true ∧ (x = e.on ∨ Nat.testBit (acc.getD e.on 0) x = true) := by
    intro l
    induction l with
    | nil => intro s h; exact .inl h
    | cons e r ih =>
      intro s h
      simp only [List.foldl_cons] at h
      rcases ih _ h with h | ⟨e', h1, h2⟩
      · cases hb : Region.binds .any e with
        | true =>
          rw [hb] at h
          simp only [cond_true, Nat.testBit_or, Bool.or_eq_true] at h
          rcases h with h | h | h
          · exact .inl h
          · refine .inr ⟨e, by simp, hb, .inl ?_⟩
            rw [Nat.testBit_two_pow] at h
            simpa [eq_comm] using h
          · exact .inr ⟨e, by simp, hb, .inr h⟩
        | false => rw [hb] at h; exact .inl h
      · exact .inr ⟨e', by simp [h1], h2⟩
  rcases this _ _ h with h | ⟨e, h1, h2⟩
  · simp at h
  · exact ⟨e, by simpa using h1, h2⟩

theorem apart_of {i : Nat} {x o : CR} : ∀ {rev : List CR} {n : Nat}, apartTo o rev n = true → rev.length = n → i < n → rev[n - 1 - i]? = some x → Nat.testBit o.anc i = true ∨ apart x o = true
  | [], n, _, hl, hi, _ => by simp at hl; omega
  | y :: r, n, h, hl, hi, hx => by
    simp only [apartTo, Bool.and_eq_true] at h
    by_cases he : i = n - 1
    · subst he
      simp at hx; subst hx
      simpa using h.1
    · obtain ⟨q, hq⟩ : ∃ q, n - 1 - i = q + 1 := ⟨n - 1 - i - 1, by omega⟩
      rw [hq] at hx
      simp only [List.getElem?_cons_succ] at hx
      refine apart_of (rev := r) (n := n - 1) h.2 (by simp at hl; omega) (by omega) ?_
      rw [show n - 1 - 1 - i = q by omega]; exact hx

theorem apartAll_of {i j : Nat} {x y : CR} : ∀ {l rev : List CR} {n : Nat}, apartAll l rev n = true → rev.length = n → i < j → (rev.reverse ++ l)[i]? = some x → (rev.reverse ++ l)[j]? = some y → n ≤ j → Nat.testBit y.anc i = true ∨ apart x y = true
  | [], rev, n, _, hl, hij, _, hy, hn => by
    have := (List.getElem?_eq_some_iff.1 hy).1
    simp at this; omega
  | o :: r, rev, n, h, hl, hij, hx, hy, hn => by
    simp only [apartAll, Bool.and_eq_true] at h
    by_cases he : j = n
    · subst he
      have hy' : y = o := by
        rw [List.getElem?_append_right (by simp; omega)] at hy
        simp [hl] at hy; exact hy.symm
      subst hy'
      refine apart_of h.1 hl hij ?_
      rw [List.getElem?_append_left (by simp; omega), List.getElem?_reverse (by omega)] at hx
      rw [← hl]; exact hx
    · refine apartAll_of (l := r) (rev := o :: rev) (n := n + 1) h.2 (by simp [hl]) hij ?_ ?_ (by omega)
      · simpa using hx
      · simpa using hy
end
end Go.Sx
