/- Regions that draw their order, first part: the trace of the text's order. -/
import Derived.Test.YtpnnnklahanecaaSxReg
import Derived.Orders
namespace Go.Sx

theorem keepT_mem {ks : List Nat} : ∀ {t : List (Nat × SV)} {p : Nat × SV}, p ∈ keepT ks t → p.1 ∈ ks ∧ p ∈ t
  | [], p, h => by simp [keepT] at h
  | (k, v) :: r, p, h => by
    simp only [keepT] at h
    cases hm : nmem k ks with
    | true =>
      rw [hm] at h; simp only [cond_true] at h
      rcases List.mem_cons.1 h with rfl | h
      · refine ⟨?_, by simp⟩
        rcases Decidable.em (k ∈ ks) with h | h
        · exact h
        · rw [nmem_iff.2 h] at hm; cases hm
      · exact ⟨(keepT_mem h).1, by simp [(keepT_mem h).2]⟩
    | false =>
      rw [hm] at h; simp only [cond_false] at h
      exact ⟨(keepT_mem h).1, by simp [(keepT_mem h).2]⟩

theorem keepT_sub {ks : List Nat} : ∀ {t : List (Nat × SV)}, (keepT ks t).Sublist t
  | [] => .slnil
  | (k, v) :: r => by
    simp only [keepT]
    cases nmem k ks with
    | true => exact (keepT_sub (t := r)).cons_cons _
    | false => exact (keepT_sub (t := r)).cons _

theorem uniq_lk : ∀ {t : List (Nat × SV)} {i : Nat} {x : SV}, Uniq t → (i, x) ∈ t → lk t i = x
  | (k, v) :: r, i, x, h, hm => by
    simp only [lk]
    rcases List.mem_cons.1 hm with e | hm
    · simp only [Prod.mk.injEq] at e
      obtain ⟨rfl, rfl⟩ := e
      simp
    · have := (List.pairwise_cons.1 h).1 _ hm
      have hne : Nat.beq k i = false := nbne.2 (by simp at this; omega)
      rw [hne]; exact uniq_lk (List.pairwise_cons.1 h).2 hm

theorem lk_none : ∀ {t : List (Nat × SV)} {i : Nat}, (∀ x, (i, x) ∉ t) → lk t i = .top
  | [], _, _ => rfl
  | (k, v) :: r, i, h => by
    simp only [lk]
    cases hb : Nat.beq k i with
    | true => have := nbeq.1 hb; subst this; exact absurd (List.mem_cons_self) (h v)
    | false => exact lk_none fun x hx => h x (by simp [hx])

theorem lk_stt {d : Nat} {v : SV} {x : Nat} : ∀ {t : List (Nat × SV)}, lk (stt t d v) x = if d = x then v else lk t x
  | [] => by
    simp only [stt, lk]
    by_cases h : d = x
    · subst h; simp
    · simp [nbne.2 h, h]
  | (k, u) :: r => by
    simp only [stt]
    cases h1 : Nat.beq k d with
    | true =>
      have := nbeq.1 h1; subst this
      simp only [cond_true, lk]
      by_cases h : k = x
      · subst h; simp
      · simp [nbne.2 h, h]
    | false =>
      cases h2 : Nat.blt d k with
      | true =>
        simp only [cond_true, cond_false, lk]
        by_cases h : d = x
        · subst h; simp
        · simp [nbne.2 h, h]
      | false =>
        simp only [cond_false, lk]
        by_cases h : k = x
        · subst h; simp; intro e; exact absurd e.symm (nbne.1 h1)
        · simp only [nbne.2 h, cond_false]; exact lk_stt

theorem lk_dropT {d x : Nat} {t : List (Nat × SV)} (hu : Uniq t) : lk (dropT t d) x = if d = x then .top else lk t x := by
  by_cases h : d = x
  · subst h
    rw [if_pos rfl]
    exact lk_none fun v hv => ((dropT_uniq hu).2 _ hv).1 rfl
  · rw [if_neg h]
    clear hu
    induction t with
    | nil => rfl
    | cons p r ih =>
      obtain ⟨k, v⟩ := p
      simp only [dropT, lk]
      cases h1 : Nat.beq k d with
      | true =>
        have := nbeq.1 h1; subst this
        simp [nbne.2 h]
      | false => simp only [cond_false, lk, ih]

theorem lk_putD {d : Option Nat} {v : SV} {t : List (Nat × SV)} (hu : Uniq t) (x : Nat) : lk (putD d v t) x = if d = some x then v else lk t x := by
  unfold putD
  split
  · simp
  · rename_i d'
    split
    · rw [lk_dropT hu]; simp
    · rw [lk_stt]; simp

theorem maskH_get {ls : List Nat} : ∀ {h : SH} {i l : Nat}, hget (maskH ls i h) l = .dead ∨ (i + l ∈ ls ∧ hget (maskH ls i h) l = hget h l)
  | [], i, l => .inl (by simp [maskH, hget])
  | o :: r, i, 0 => by
    simp only [maskH, hget, List.getD_cons_zero, Nat.add_zero]
    cases hm : nmem i ls with
    | true =>
      refine .inr ⟨?_, rfl⟩
      rcases Decidable.em (i ∈ ls) with h | h
      · exact h
      · rw [nmem_iff.2 h] at hm; cases hm
    | false => exact .inl rfl
  | o :: r, i, l + 1 => by
    have := @maskH_get ls r (i + 1) l
    simp only [hget, maskH, List.getD_cons_succ] at this ⊢
    rw [show i + (l + 1) = i + 1 + l by omega]; exact this

/-- One operation of the trace. -/
structure En where
  c : CR
  s : SS
  v : SV
  ls : List Nat
  s' : SS
  kd : Nat

def needOf (e : En) : List (Nat × SV) := keepT (opsOf e.c.op) e.s.t

/-- Does its guard let it run? -/
def runs (e : En) (b : Bool) : Prop := match e.c.guard with
  | none => b = true
  | some (d, want) => (∃ x, lk e.s.t d = .d (.v (.bool x)) ∧ b = (x == want)) ∨ (lk e.s.t d = .tup [] ∧ b = false)

structure EnOK (P : Program) (A : Ann) (nt : Nat) (o : Oper) (i : Nat) (e : En) : Prop where
  uniq : Uniq e.s.t
  bnd : ∀ p ∈ e.s.t, p.1 < nt
  dst : o.dst = e.c.dst
  kind : (e.kd = 0 ∧ runs e false ∧ e.v = .tup [] ∧ e.ls = [] ∧ e.s' = ⟨putD e.c.dst (.tup []) e.s.t, e.s.h⟩) ∨
    (e.kd = 1 ∧ runs e true ∧ e.s' = ⟨putD e.c.dst e.v e.s.t, e.s.h⟩ ∧ (∀ l ∈ e.ls, ∃ n ∈ opsOf e.c.op, l ∈ locsOf (lk e.s.t n)) ∧
      ∃ hm, (∀ l, hget hm l = .dead ∨ (l ∈ e.ls ∧ hget hm l = hget e.s.h l)) ∧ Still P o ⟨needOf e, hm⟩ e.v) ∨
    (e.kd = 2 ∧ runs e true ∧ e.s'.t = putD e.c.dst e.v e.s.t ∧ Keeps e.ls e.s.h e.s'.h ∧ OpOK0 P o ⟨needOf e, e.s.h⟩ e.v ⟨needOf e, e.s'.h⟩) ∨
    (e.kd = 3 ∧ runs e true ∧ e.c.anc + 1 = 2 ^ i ∧ ∃ t1, t1.Sublist e.s.t ∧ e.s'.t = putD e.c.dst e.v t1 ∧ OpOK P A o e.s e.v ⟨t1, e.s'.h⟩)

/-- Two operations, the first ahead of the second in the text: the second waits for it, or their turns do not matter. -/
def PairOK (i : Nat) (e' : En) (e : En) : Prop :=
  Nat.testBit e.c.anc i = true ∨ (e.kd ≠ 3 ∧ e'.kd ≠ 3 ∧ ¬ (e.kd = 2 ∧ e'.kd = 2) ∧ ((e.kd = 2 ∨ e'.kd = 2) → ∀ l ∈ e.ls, l ∉ e'.ls))

theorem disj_of {a b : List Nat} (h : disj a b = true) : ∀ l ∈ a, l ∉ b := fun l hl => by
  have := List.all_eq_true.1 h l hl
  exact nmem_iff.1 (by simpa using this)

theorem compat_of {anc c : Nat} {ls : List Nat} : ∀ {lg : Log}, compat anc c ls lg = true → ∀ {i c' : Nat} {ls' : List Nat}, (i, c', ls') ∈ lg →
    Nat.testBit anc i = true ∨ (¬ (c = 2 ∧ c' = 2) ∧ ((c = 2 ∨ c' = 2) → ∀ l ∈ ls, l ∉ ls'))
  | (i0, c0, l0) :: r, h, i, c', ls', hm => by
    simp only [compat, Bool.and_eq_true] at h
    rcases List.mem_cons.1 hm with e | hm
    · simp only [Prod.mk.injEq] at e
      obtain ⟨rfl, rfl, rfl⟩ := e
      have h1 := h.1
      simp only [Bool.or_eq_true, Bool.and_eq_true, Bool.not_eq_true'] at h1
      rcases h1 with h1 | ⟨h1, h2⟩
      · exact .inl h1
      · refine .inr ⟨fun ⟨a, b⟩ => ?_, fun hor => ?_⟩
        · subst a; subst b; simp at h1
        · rcases h2 with h2 | h2
          · rcases hor with e | e
            · subst e; simp at h2
            · subst e; simp at h2
          · exact disj_of h2
    · exact compat_of h.2 hm

/-- The log and the mask tell of what has been. -/
structure Told (pre : List En) (lg : Log) (req : Nat) : Prop where
  log : ∀ i e, pre[i]? = some e → (e.kd = 0 ∧ e.ls = []) ∨ (e.kd = 1 ∧ e.ls = []) ∨ ((e.kd = 1 ∨ e.kd = 2) ∧ (i, e.kd, e.ls) ∈ lg) ∨ (e.kd = 3 ∧ Nat.testBit req i = true)

theorem pair_of {pre : List En} {lg : Log} {req : Nat} (ht : Told pre lg req) {e : En} (hreq : Nat.beq (e.c.anc &&& req) req = true)
    (h : ((e.kd = 0 ∨ e.kd = 1) ∧ e.ls = []) ∨ ((e.kd = 1 ∨ e.kd = 2) ∧ compat e.c.anc e.kd e.ls lg = true)) : ∀ i e', pre[i]? = some e' → PairOK i e' e := by
  intro i e' hi
  unfold PairOK
  have hpiv : e'.kd = 3 → Nat.testBit req i = true → Nat.testBit e.c.anc i = true := fun _ hb => by
    have := nbeq.1 hreq
    rw [← this, Nat.testBit_and, Bool.and_eq_true] at hb
    exact hb.1
  rcases ht.log i e' hi with ⟨h1, h2⟩ | ⟨h1, h2⟩ | ⟨h1, h2⟩ | ⟨h1, h2⟩
  · rcases h with ⟨h3, h4⟩ | ⟨h3, h4⟩
    · refine .inr ⟨by omega, by omega, by omega, fun _ l hl => by rw [h4] at hl; simp at hl⟩
    · refine .inr ⟨by omega, by omega, by omega, fun _ l hl => by rw [h2]; simp⟩
  · rcases h with ⟨h3, h4⟩ | ⟨h3, h4⟩
    · refine .inr ⟨by omega, by omega, by omega, fun _ l hl => by rw [h4] at hl; simp at hl⟩
    · refine .inr ⟨by omega, by omega, by omega, fun _ l hl => by rw [h2]; simp⟩
  · rcases h with ⟨h3, h4⟩ | ⟨h3, h4⟩
    · refine .inr ⟨by omega, by omega, by omega, fun _ l hl => by rw [h4] at hl; simp at hl⟩
    · rcases compat_of h4 h2 with h5 | ⟨h5, h6⟩
      · exact .inl h5
      · exact .inr ⟨by omega, by omega, h5, h6⟩
  · exact .inl (hpiv h1 h2)

theorem bit_pivot {anc i j : Nat} (h : anc + 1 = 2 ^ i) (hj : j < i) : Nat.testBit anc j = true := by
  have : anc = 2 ^ i - 1 := by omega
  rw [this, Nat.testBit_two_pow_sub_one]; simp [hj]

theorem Told.cons {pre : List En} {lg lg' : Log} {req req' : Nat} (ht : Told pre lg req) {e : En} (hl : ∀ x, x ∈ lg → x ∈ lg') (hr : ∀ i, Nat.testBit req i = true → Nat.testBit req' i = true)
    (he : (e.kd = 0 ∧ e.ls = []) ∨ (e.kd = 1 ∧ e.ls = []) ∨ ((e.kd = 1 ∨ e.kd = 2) ∧ (pre.length, e.kd, e.ls) ∈ lg') ∨ (e.kd = 3 ∧ Nat.testBit req' pre.length = true)) : Told (pre ++ [e]) lg' req' :=
  ⟨fun i x hx => by
    rcases Nat.lt_or_ge i pre.length with h | h
    · rw [List.getElem?_append_left h] at hx
      rcases ht.log i x hx with h1 | h1 | ⟨h1, h2⟩ | ⟨h1, h2⟩
      · exact .inl h1
      · exact .inr (.inl h1)
      · exact .inr (.inr (.inl ⟨h1, hl _ h2⟩))
      · exact .inr (.inr (.inr ⟨h1, hr _ h2⟩))
    · rw [List.getElem?_append_right h] at hx
      have : i = pre.length := by
        rcases Nat.lt_or_ge (i - pre.length) 1 with h' | h'
        · omega
        · simp [List.getElem?_eq_none (show ([e] : List En).length ≤ i - pre.length by simpa using h')] at hx
      subst this
      simp at hx; subst hx
      exact he⟩

theorem putD_bnd {nt : Nat} {d : Option Nat} {v : SV} {t : List (Nat × SV)} (hu : Uniq t) (h : ∀ p ∈ t, p.1 < nt) (hd : dstOkT nt d = true) : ∀ p ∈ putD d v t, p.1 < nt := by
  intro p hp
  rcases (putD_uniq hu).2 p hp with ⟨d', rfl, rfl⟩ | ⟨_, h2⟩
  · exact nlt hd
  · exact h p h2

theorem reads_of {t : List (Nat × SV)} {c : CO} : ∀ l ∈ readsOf t c, ∃ n ∈ opsOf c, l ∈ locsOf (lk t n) := by
  intro l hl
  unfold readsOf at hl
  split at hl
  · exact ⟨_, by simp [opsOf, tOf], hl⟩
  · exact ⟨_, by simp [opsOf, tOfL], hl⟩
  · exact ⟨_, by simp [opsOf, tOf], hl⟩
  · exact ⟨_, by simp [opsOf, tOf], hl⟩
  · exact ⟨_, by simp [opsOf, tOfL], hl⟩
  · simp at hl

/-- How two entries follow each other. -/
def Link (e : En) (s : SS) : Prop := (∀ x, lk s.t x = lk e.s'.t x) ∧ s.h = e.s'.h

section
variable {P : Program} {A : Ann} {Ω : Type} {env : Env Ω} {out : Ω}

theorem coB_call {b : Builtin} {ats : List TypeId} {l : List CA} {f : CA} {args : List CA} (h : coB P b ats l = some (.call f args)) : False := by
  unfold coB at h
  split at h
  · split at h <;> simp at h
  · split at h
    · have := (cond_some h).2; simp at this
    · simp at h
  · simp at h
  · simp at h
  · simp at h

theorem coOp_call {op : Op} {f : CA} {args : List CA} (h : coOp P op = some (.call f args)) :
    ∃ callee cargs ats, op = .call { callee := .value callee, args := cargs, argTypes := ats } ∧ coA callee = some f ∧ coL cargs.toList = some args := by
  unfold coOp at h
  split at h
  all_goals try (simp [Option.map_eq_some_iff] at h; done)
  all_goals try (split at h)
  all_goals try (simp [Option.map_eq_some_iff] at h; done)
  all_goals try (have h := (cond_some h).2; simp [Option.map_eq_some_iff] at h; done)
  all_goals try (split at h)
  all_goals try (simp [Option.map_eq_some_iff] at h; done)
  all_goals try (have h := (cond_some h).2; simp [Option.map_eq_some_iff] at h; done)
  all_goals try (have h := (and_some h).2; simp [Option.map_eq_some_iff] at h; done)
  · rename_i c' _ _ f' args' e1 e2
    obtain ⟨callee, cargs, ats⟩ := c'
    obtain ⟨f'', h1, h2⟩ := Option.map_eq_some_iff.1 h
    simp only [CO.call.injEq] at h2
    obtain ⟨rfl, rfl⟩ := h2
    try simp only at e1
    subst e1
    exact ⟨_, _, _, rfl, h1, e2⟩
  · exact (coB_call h).elim

/-- One operation of a drawn region that its guard lets run. -/
theorem dop_sound (he : EnvOK P env) {nt : Nat} {o : Oper} {c : CR} (hdst : o.dst = c.dst) (hdk : dstOkT nt c.dst = true) (hco : coOp P o.op = some c.op) {s : SS} (hu : Uniq s.t) (hb : ∀ p ∈ s.t, p.1 < nt) (hrun : ∀ v ls s' kd, runs ⟨c, s, v, ls, s', kd⟩ true)
    {pre : List En} {lg : Log} {req : Nat} (ht : Told pre lg req) (hreq : Nat.beq (c.anc &&& req) req = true) {n : SV → Log → Nat → SS → Option Ω} (h : dop env A c pre.length lg req s n = some out) :
    ∃ (e : En) (lg' : Log) (req' : Nat) (s1 : SS), n e.v lg' req' s1 = some out ∧ e.c = c ∧ e.s = s ∧ e.s' = ⟨putD c.dst e.v s1.t, s1.h⟩ ∧ EnOK P A nt o pre.length e ∧ (∀ i e', pre[i]? = some e' → PairOK i e' e) ∧ Told (pre ++ [e]) lg' req' ∧ Uniq s1.t ∧ ∀ p ∈ s1.t, p.1 < nt := by
  unfold dop at h
  split at h
  · -- it looks at nothing
    rename_i hc
    have hp : PlainV P o ⟨keepT (opsOf c.op) s.t, []⟩ (fun v _ _ => n v lg req s) out := by
      rcases sop_sound he hco h with ⟨_, h⟩ | ⟨h1, _⟩ | ⟨h1, _⟩
      · exact h
      · omega
      · omega
    obtain ⟨v, h1, h2⟩ := hp
    refine ⟨⟨c, s, v, [], ⟨putD c.dst v s.t, s.h⟩, 1⟩, lg, req, s, h1, rfl, rfl, rfl, ⟨hu, hb, hdst, .inr (.inl ⟨rfl, hrun _ _ _ _, rfl, by simp, [], by simp [hget], h2⟩)⟩, pair_of ht hreq (.inl ⟨.inr rfl, rfl⟩), ht.cons (fun _ h => h) (fun _ h => h) (.inr (.inl ⟨rfl, rfl⟩)), hu, hb⟩
  · rename_i hc
    obtain ⟨hcp, h⟩ := cond_some h
    have hp : PlainV P o ⟨keepT (opsOf c.op) s.t, maskH (readsOf s.t c.op) 0 s.h⟩ (fun v _ _ => n v ((pre.length, 1, readsOf s.t c.op) :: lg) req s) out := by
      rcases sop_sound he hco h with ⟨_, h⟩ | ⟨h1, _⟩ | ⟨h1, _⟩
      · exact h
      · omega
      · omega
    obtain ⟨v, h1, h2⟩ := hp
    refine ⟨⟨c, s, v, readsOf s.t c.op, ⟨putD c.dst v s.t, s.h⟩, 1⟩, _, req, s, h1, rfl, rfl, rfl, ⟨hu, hb, hdst, .inr (.inl ⟨rfl, hrun _ _ _ _, rfl, reads_of, _, fun l => ?_, h2⟩)⟩, pair_of ht hreq (.inr ⟨.inl rfl, hcp⟩),
      ht.cons (fun _ h => List.mem_cons_of_mem _ h) (fun _ h => h) (.inr (.inr (.inl ⟨.inl rfl, by simp⟩))), hu, hb⟩
    rcases maskH_get (ls := readsOf s.t c.op) (h := s.h) (i := 0) (l := l) with h3 | ⟨h3, h4⟩
    · exact .inl h3
    · exact .inr ⟨by simpa using h3, h4⟩
  · rename_i hc
    have hp : PlainE P o ⟨keepT (opsOf c.op) s.t, s.h⟩ (fun v m s' => bif compat c.anc 2 m lg then n v ((pre.length, 2, m) :: lg) req ⟨s.t, s'.h⟩ else none) out := by
      rcases sop_sound he hco h with ⟨h1, _⟩ | ⟨_, h⟩ | ⟨h1, _⟩
      · omega
      · exact h
      · omega
    obtain ⟨v, m, h', h1, h2, h3⟩ := hp
    obtain ⟨hcp, h1⟩ := cond_some h1
    exact ⟨⟨c, s, v, m, ⟨putD c.dst v s.t, h'⟩, 2⟩, _, req, ⟨s.t, h'⟩, h1, rfl, rfl, rfl, ⟨hu, hb, hdst, .inr (.inr (.inl ⟨rfl, hrun _ _ _ _, rfl, h3, h2⟩))⟩, pair_of ht hreq (.inr ⟨.inr rfl, hcp⟩),
      ht.cons (fun _ h => List.mem_cons_of_mem _ h) (fun _ h => h) (.inr (.inr (.inl ⟨.inr rfl, by simp⟩))), hu, hb⟩
  · rename_i hc0 hc1 hc2
    have pivot : ∀ {v : SV} {t1 : List (Nat × SV)} {h' : SH}, c.anc + 1 = 2 ^ pre.length → t1.Sublist s.t → OpOK P A o s v ⟨t1, h'⟩ → n v lg (req ||| 2 ^ pre.length) ⟨t1, h'⟩ = some out →
        ∃ (e : En) (lg' : Log) (req' : Nat) (s1 : SS), n e.v lg' req' s1 = some out ∧ e.c = c ∧ e.s = s ∧ e.s' = ⟨putD c.dst e.v s1.t, s1.h⟩ ∧ EnOK P A nt o pre.length e ∧ (∀ i e', pre[i]? = some e' → PairOK i e' e) ∧ Told (pre ++ [e]) lg' req' ∧ Uniq s1.t ∧ ∀ p ∈ s1.t, p.1 < nt := by
      intro v t1 h' hanc hsub hop h1
      refine ⟨⟨c, s, v, [], ⟨putD c.dst v t1, h'⟩, 3⟩, lg, _, ⟨t1, h'⟩, h1, rfl, rfl, rfl, ⟨hu, hb, hdst, .inr (.inr (.inr ⟨rfl, hrun _ _ _ _, hanc, t1, hsub, rfl, hop⟩))⟩, fun i e' hi => .inl (bit_pivot hanc (List.getElem?_eq_some_iff.1 hi).1),
        ht.cons (fun _ h => h) (fun i h => by rw [Nat.testBit_or, h]; rfl) (.inr (.inr (.inr ⟨rfl, by rw [Nat.testBit_or, Nat.testBit_two_pow_self]; simp⟩))), hu.sub hsub, fun p hp => hb p (hsub.mem hp)⟩
    split at h
    · rename_i f args hcop
      split at h
      · rename_i g a b hv
        split at h
        · rename_i sp hg
          obtain ⟨callee, cargs, ats, ho, hf, hal⟩ : ∃ callee cargs ats, o.op = .call { callee := .value callee, args := cargs, argTypes := ats } ∧ coA callee = some f ∧ coL cargs.toList = some args := coOp_call (by rw [hco, hcop])
          rw [hcop] at hv h
          obtain ⟨r, m, sc, h', h1, h2, h3⟩ := snd_call (s := ⟨keepT (opsOf (.call f args)) s.t, s.h⟩) ho hf hal he hv hg h
          dsimp only at h1
          split at h1
          · obtain ⟨hcp, h1⟩ := cond_some h1
            have h2' : OpOK0 P o ⟨keepT (opsOf (.call f args)) s.t, s.h⟩ r ⟨keepT (opsOf (.call f args)) s.t, h'⟩ := by
              have : (fun l => nmem l []) = fun _ => false := funext fun l => by simp [nmem]
              rw [this] at h2
              exact h2
            exact ⟨⟨c, s, r, m, ⟨putD c.dst r s.t, h'⟩, 2⟩, _, req, ⟨s.t, h'⟩, h1, rfl, rfl, rfl, ⟨hu, hb, hdst, .inr (.inr (.inl ⟨rfl, hrun _ _ _ _, rfl, h3, by unfold needOf; rw [hcop]; exact h2'⟩))⟩, pair_of ht hreq (.inr ⟨.inr rfl, hcp⟩),
              ht.cons (fun _ h => List.mem_cons_of_mem _ h) (fun _ h => h) (.inr (.inr (.inl ⟨.inr rfl, by simp⟩))), hu, hb⟩
          · obtain ⟨hcp, h1⟩ := cond_some h1
            simp only [Bool.and_eq_true] at hcp
            refine pivot (nbeq.1 hcp.1) scrubTs_sub (fun cx w ac hG ht next Q hn => ?_) h1
            refine h2 cx w ac hG (fun i x hx => ht i x (keepT_mem hx).2) next Q fun cx' w' v' gr hr _ hG' => ?_
            exact hn cx' w' v' (gr.weak fun l hl => allOk_no hcp.2 hl) hr (TRep.scrubs gr ht) hG'
        · simp at h
      · simp at h
    · obtain ⟨hcp, h⟩ := cond_some h
      have hp : Plain P A o s (fun v _ s' => n v lg (req ||| 2 ^ pre.length) s') out := by
        rcases sop_sound he hco h with ⟨_, h⟩ | ⟨_, h⟩ | ⟨_, h⟩
        · exact h.plain
        · exact h.plain
        · exact h
      obtain ⟨v, m, s', h1, h2, h3⟩ := hp
      exact pivot (nbeq.1 hcp) h2 h3 h1
end
end Go.Sx
