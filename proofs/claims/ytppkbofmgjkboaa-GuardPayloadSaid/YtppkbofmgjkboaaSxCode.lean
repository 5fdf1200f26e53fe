/- Regions that draw their order, third part: every order does what the text's order does. -/
import Derived.Test.YtppkbofmgjkboaaSxDraw2
set_option linter.all false
set_option linter.unusedVariables false
set_option linter.unusedSimpArgs false
set_option linter.unnecessarySimpa false
namespace Go.Sx

def dstE (es : List En) (i : Nat) : Option Nat := (es[i]?).bind (·.c.dst)
def valE (es : List En) (i : Nat) : SV := match es[i]? with
  | some e => e.v
  | none => .top
def kdE (es : List En) (i : Nat) : Nat := match es[i]? with
  | some e => e.kd
  | none => 0
def ancE (es : List En) (i : Nat) : Nat := match es[i]? with
  | some e => e.c.anc
  | none => 0

def K (es : List En) (D : Nat → Bool) (f0 : Nat → SV) (b : Nat) : Nat → Nat → SV
  | 0, x => f0 x
  | m + 1, x => if D (b + m) = true ∧ dstE es (b + m) = some x then valE es (b + m) else K es D f0 b m x

section
variable {es : List En} {D D' : Nat → Bool} {f0 : Nat → SV} {b x : Nat}

theorem K_congr : ∀ m, (∀ i, i < m → dstE es (b + i) = some x → D (b + i) = D' (b + i)) → K es D f0 b m x = K es D' f0 b m x
  | 0, _ => rfl
  | m + 1, h => by
    simp only [K]
    by_cases hd : dstE es (b + m) = some x
    · rw [h m (by omega) hd, K_congr m fun i hi => h i (by omega)]
    · simp only [hd, and_false, if_false]
      exact K_congr m fun i hi => h i (by omega)

theorem K_skip {m : Nat} : ∀ k, (∀ i, m ≤ i → i < m + k → dstE es (b + i) = some x → D (b + i) = false) → K es D f0 b (m + k) x = K es D f0 b m x
  | 0, _ => rfl
  | k + 1, h => by
    rw [← Nat.add_assoc]
    simp only [K]
    rw [if_neg (fun ⟨h1, h2⟩ => by rw [h (m + k) (by omega) (by omega) h2] at h1; cases h1)]
    exact K_skip k fun i h1 h2 => h i h1 (by omega)
end

section
variable {P : Program} {A : Ann} {nt : Nat} {ops : Array Oper} {cs : List CR} {s : SS} {es : List En} {sf : SS}

theorem Trc.get (T : Trc P A nt ops.toList [] ops.toList cs s es sf) {i : Nat} (hi : i < es.length) : ∃ o e, ops[i]? = some o ∧ es[i]? = some e ∧ EnOK P A nt o i e ∧ GuardOK ops.toList o e.c ∧ cs[i]? = some e.c ∧
    e.c.anc = ancOf ((es.take i).map (·.c.anc)) o ∧ (∀ x ∈ o.after, Region.binds .any x = true → x.on < i) ∧ (∀ d, o.dst = some d → d < nt) := by
  have hl : i < ops.toList.length := by rw [← T.len]; exact hi
  have h1 : ops[i]? = some (ops.toList[i]) := by rw [← Array.getElem?_toList]; exact List.getElem?_eq_getElem hl
  have h2 : es[i]? = some es[i] := List.getElem?_eq_getElem hi
  have := T.ok i _ _ (List.getElem?_eq_getElem hl) h2
  simp only [List.length_nil, Nat.zero_add, List.nil_append] at this
  exact ⟨_, _, h1, h2, this⟩

theorem stA_some {i : Nat} {e : En} (h : es[i]? = some e) : stA es sf i = e.s := by simp [stA, h]

theorem st_step (T : Trc P A nt ops.toList [] ops.toList cs s es sf) {i : Nat} {e : En} (he : es[i]? = some e) (hk : e.kd ≠ 3) (x : Nat) : lk (stA es sf (i + 1)).t x = if e.c.dst = some x then e.v else lk (stA es sf i).t x := by
  obtain ⟨o, e', h1, h2, hok, _⟩ := T.get (List.getElem?_eq_some_iff.1 he).1
  rw [he] at h2; simp only [Option.some.injEq] at h2; subst h2
  rw [(T.link i e he).1 x, stA_some he]
  have : e.s'.t = putD e.c.dst e.v e.s.t := by
    rcases hok.kind with ⟨_, _, h3, _, h4⟩ | ⟨_, _, h4, _⟩ | ⟨_, _, h4, _⟩ | ⟨h3, _⟩
    · rw [h4, h3]
    · rw [h4]
    · exact h4
    · exact absurd h3 hk
  rw [this, lk_putD hok.uniq]

theorem K_seq (T : Trc P A nt ops.toList [] ops.toList cs s es sf) {b x : Nat} : ∀ m, (∀ i, i < m → kdE es (b + i) ≠ 3) → b + m ≤ es.length → K es (fun _ => true) (lk (stA es sf b).t) b m x = lk (stA es sf (b + m)).t x
  | 0, _, _ => rfl
  | m + 1, h, hl => by
    have hi : b + m < es.length := by omega
    have he : es[b + m]? = some es[b + m] := List.getElem?_eq_getElem hi
    have hk := h m (by omega)
    simp only [kdE, he] at hk
    rw [← Nat.add_assoc, st_step T he hk]
    simp only [K, true_and, dstE, valE, he, Option.bind_some]
    rw [K_seq T m (fun i hi => h i (by omega)) (by omega)]

theorem heap_step (T : Trc P A nt ops.toList [] ops.toList cs s es sf) {i l : Nat} {e : En} (he : es[i]? = some e) (hk : e.kd ≠ 3) (hl : e.kd = 2 → l ∉ e.ls) (hlt : l < (stA es sf i).h.length) :
    hget (stA es sf (i + 1)).h l = hget (stA es sf i).h l ∧ l < (stA es sf (i + 1)).h.length := by
  obtain ⟨o, e', h1, h2, hok, _⟩ := T.get (List.getElem?_eq_some_iff.1 he).1
  rw [he] at h2; simp only [Option.some.injEq] at h2; subst h2
  rw [(T.link i e he).2]
  rw [stA_some he] at hlt ⊢
  rcases hok.kind with ⟨_, _, _, _, h4⟩ | ⟨_, _, h4, _⟩ | ⟨h3, _, _, h4, _⟩ | ⟨h3, _⟩
  · rw [h4]; exact ⟨rfl, hlt⟩
  · rw [h4]; exact ⟨rfl, hlt⟩
  · exact ⟨h4.2 l hlt (nmem_iff.2 (hl h3)), Nat.lt_of_lt_of_le hlt h4.1⟩
  · exact absurd h3 hk

theorem heap_fwd (T : Trc P A nt ops.toList [] ops.toList cs s es sf) {p l : Nat} (hlt : l < (stA es sf p).h.length) : ∀ k, p + k ≤ es.length → (∀ i e, p ≤ i → i < p + k → es[i]? = some e → e.kd ≠ 3 ∧ (e.kd = 2 → l ∉ e.ls)) →
    hget (stA es sf (p + k)).h l = hget (stA es sf p).h l ∧ l < (stA es sf (p + k)).h.length
  | 0, _, _ => ⟨rfl, hlt⟩
  | k + 1, hk, h => by
    obtain ⟨h1, h2⟩ := heap_fwd T hlt k (by omega) fun i e a b => h i e a (by omega)
    have he : es[p + k]? = some es[p + k] := List.getElem?_eq_getElem (by omega)
    obtain ⟨h3, h4⟩ := h (p + k) _ (by omega) (by omega) he
    obtain ⟨h5, h6⟩ := heap_step T he h3 h4 h2
    exact ⟨by rw [← Nat.add_assoc, h5, h1], h6⟩

theorem heap_const (T : Trc P A nt ops.toList [] ops.toList cs s es sf) {p : Nat} : ∀ k, p + k ≤ es.length → (∀ i, p ≤ i → i < p + k → kdE es i < 2) → (stA es sf (p + k)).h = (stA es sf p).h
  | 0, _, _ => rfl
  | k + 1, hk, h => by
    have he : es[p + k]? = some es[p + k] := List.getElem?_eq_getElem (by omega)
    have h1 := h (p + k) (by omega) (by omega)
    simp only [kdE, he] at h1
    obtain ⟨o, e', _, h2, hok, _⟩ := T.get (i := p + k) (by omega)
    rw [he] at h2; simp only [Option.some.injEq] at h2; subst h2
    rw [← Nat.add_assoc, (T.link _ _ he).2, ← heap_const T k (by omega) fun i a b => h i a (by omega), stA_some he]
    rcases hok.kind with ⟨_, _, _, _, h4⟩ | ⟨_, _, h4, _⟩ | ⟨h3, _, _, h4, _⟩ | ⟨h3, _⟩
    · rw [h4]
    · rw [h4]
    · omega
    · omega

def Good (cx : Cx) (w : World) (tm : Array Value) (x : Nat) (v : SV) : Prop := v = .top ∨ (x < tm.size ∧ SRep cx w v (tm.getD x undef))

theorem Good.grow {cx cx' : Cx} {w w' : World} {tm : Array Value} {x : Nat} {v : SV} (g : Grow0 cx w cx' w') (h : Good cx w tm x v) : Good cx' w' tm x v := h.imp id fun ⟨a, b⟩ => ⟨a, b.grow g⟩

structure Inv (nt : Nat) (es : List En) (sf : SS) (D : Nat → Bool) (cx : Cx) (w : World) (tm : Array Value) (b p : Nat) : Prop where
  ble : b ≤ es.length
  ple : p ≤ es.length
  low : ∀ i, i < b → D i = true
  piv : ∀ i, b ≤ i → D i = true → kdE es i ≠ 3
  eff : ∀ i, i < es.length → 2 ≤ kdE es i → (D i = true ↔ i < p)
  clo : ∀ i, D i = true → ∀ x, Nat.testBit (ancE es i) x = true → D x = true
  gam : Gam cx (stA es sf p).h w
  tmp : ∀ x, Good cx w tm x (K es D (lk (stA es sf b).t) b (es.length - b) x)
  size : tm.size = nt

theorem ancOf_bit {acc : List Nat} {o : Oper} {x : Nat} (h : Nat.testBit (ancOf acc o) x = true) : ∃ e ∈ o.after, Region.binds .any e = true ∧ (x = e.on ∨ Nat.testBit (acc.getD e.on 0) x = true) := by
  unfold ancOf at h
  have : ∀ (l : List Edge) (s : Nat), Nat.testBit (l.foldl (fun s e => bif Region.binds .any e then s ||| (2 ^ e.on ||| acc.getD e.on 0) else s) s) x = true → Nat.testBit s x = true ∨ ∃ e ∈ l, Region.binds .any e = true ∧ (x = e.on ∨ Nat.testBit (acc.getD e.on 0) x = true) := by
    intro l
    induction l with
    | nil => intro s h; exact .inl h
    | cons e r ih =>
      intro s h
      simp only [List.foldl_cons] at h
      rcases ih _ h with h | ⟨e', h1, h2⟩
      · cases hb : Region.binds .any e with
        | true =>
          rw [hb] at h
          simp only [cond_true, Nat.testBit_or, Bool.or_eq_true] at h
          rcases h with h | h | h
          · exact .inl h
          · refine .inr ⟨e, by simp, hb, .inl ?_⟩
            rw [Nat.testBit_two_pow] at h
            simpa [eq_comm] using h
          · exact .inr ⟨e, by simp, hb, .inr h⟩
        | false => rw [hb] at h; exact .inl h
      · exact .inr ⟨e', by simp [h1], h2⟩
  rcases this _ _ h with h | ⟨e, h1, h2⟩
  · simp at h
  · exact ⟨e, by simpa using h1, h2⟩

theorem apart_of {i : Nat} {x o : CR} : ∀ {rev : List CR} {n : Nat}, apartTo o rev n = true → rev.length = n → i < n → rev[n - 1 - i]? = some x → Nat.testBit o.anc i = true ∨ apart x o = true
  | [], n, _, hl, hi, _ => by simp at hl; omega
  | y :: r, n, h, hl, hi, hx => by
    simp only [apartTo, Bool.and_eq_true] at h
    by_cases he : i = n - 1
    · subst he
      simp at hx; subst hx
      simpa using h.1
    · obtain ⟨q, hq⟩ : ∃ q, n - 1 - i = q + 1 := ⟨n - 1 - i - 1, by omega⟩
      rw [hq] at hx
      simp only [List.getElem?_cons_succ] at hx
      refine apart_of (rev := r) (n := n - 1) h.2 (by simp at hl; omega) (by omega) ?_
      rw [show n - 1 - 1 - i = q by omega]; exact hx

theorem apartAll_of {i j : Nat} {x y : CR} : ∀ {l rev : List CR} {n : Nat}, apartAll l rev n = true → rev.length = n → i < j → (rev.reverse ++ l)[i]? = some x → (rev.reverse ++ l)[j]? = some y → n ≤ j → Nat.testBit y.anc i = true ∨ apart x y = true
  | [], rev, n, _, hl, hij, _, hy, hn => by
    have := (List.getElem?_eq_some_iff.1 hy).1
    simp at this; omega
  | o :: r, rev, n, h, hl, hij, hx, hy, hn => by
    simp only [apartAll, Bool.and_eq_true] at h
    by_cases he : j = n
    · subst he
      have hy' : y = o := by
        rw [List.getElem?_append_right (by simp; omega)] at hy
        simp [hl] at hy; exact hy.symm
      subst hy'
      refine apart_of h.1 hl hij ?_
      rw [List.getElem?_append_left (by simp; omega), List.getElem?_reverse (by omega)] at hx
      rw [← hl]; exact hx
    · refine apartAll_of (l := r) (rev := o :: rev) (n := n + 1) h.2 (by simp [hl]) hij ?_ ?_ (by omega)
      · simpa using hx
      · simpa using hy
end
end Go.Sx

/- Regions that draw their order, fourth part: one operation in any order; all of them. -/
namespace Go.Sx

theorem yielded_at {all : List Oper} {ops : Array Oper} (hops : ops.toList = all) {j d : Nat} (hd : (all[j]?).bind (·.dst) = some d) {tm : Array Value} {b : Bool} (h1 : d < tm.size) (h3 : tm.getD d undef = .bool b) : yielded ops tm j = some b := by
  unfold yielded
  have : ops[j]? = all[j]? := by rw [← hops]; simp
  rw [this, hd]
  simp only [Option.bind_some]
  rw [Array.getElem?_eq_getElem h1]
  rw [Array.getD_eq_getD_getElem?, Array.getElem?_eq_getElem h1] at h3
  simp only [Option.getD_some] at h3
  rw [h3]

theorem yielded_at_tup {all : List Oper} {ops : Array Oper} (hops : ops.toList = all) {j d : Nat} (hd : (all[j]?).bind (·.dst) = some d) {tm : Array Value} {cx : Cx} {w : World} (h1 : d < tm.size) (h2 : SRep cx w (.tup []) (tm.getD d undef)) : yielded ops tm j = none := by
  simp only [SRep] at h2
  obtain ⟨c', h3, _⟩ := h2
  unfold yielded
  have : ops[j]? = all[j]? := by rw [← hops]; simp
  rw [this, hd]
  simp only [Option.bind_some]
  rw [Array.getElem?_eq_getElem h1]
  rw [Array.getD_eq_getD_getElem?, Array.getElem?_eq_getElem h1] at h3
  simp only [Option.getD_some] at h3
  rw [h3]

theorem locs_lt {cx : Cx} {w : World} {x : SV} {u : Value} (h : SRep cx w x u) : ∀ l ∈ locsOf x, l < cx.n := by
  intro l hl
  cases x <;> simp only [locsOf, List.mem_singleton, List.not_mem_nil] at hl
  all_goals subst hl; simp only [SRep] at h; exact h.1

section
variable {P : Program} {A : Ann} {nt : Nat} {ops : Array Oper} {cs : List CR} {s : SS} {es : List En} {sf : SS}

/-- What is known where operation j comes up. -/
structure Up (es : List En) (sf : SS) (D : Nat → Bool) (e : En) (j b p : Nat) (cx : Cx) (w : World) (tm : Array Value) : Prop where
  bj : b ≤ j
  anc : ∀ x, Nat.testBit e.c.anc x = true → D x = true
  above : ∀ i, D i = true → Nat.testBit (ancE es i) j = false
  look : ∀ x ∈ looks e.c, Good cx w tm x (lk e.s.t x)

theorem Trc.up (T : Trc P A nt ops.toList [] ops.toList cs s es sf) (hap : apartAll cs [] 0 = true) {D : Nat → Bool} {cx : Cx} {w : World} {tm : Array Value} {b p : Nat} (I : Inv nt es sf D cx w tm b p) {j : Nat} {o : Oper} {e : En}
    (ho : ops[j]? = some o) (he : es[j]? = some e) (hD : D j = false) (hr : ∀ x ∈ o.after, Region.binds .any x = true → D x.on = true) : Up es sf D e j b p cx w tm := by
  have hj := (List.getElem?_eq_some_iff.1 he).1
  obtain ⟨o', e', h1, h2, hok, hgd, hcs, hanc, hedge, hdst⟩ := T.get hj
  rw [he] at h2; simp only [Option.some.injEq] at h2; subst h2
  rw [ho] at h1; simp only [Option.some.injEq] at h1; subst h1
  have hbj : b ≤ j := by
    rcases Nat.lt_or_ge j b with h | h
    · rw [I.low j h] at hD; cases hD
    · exact h
  have hA : ∀ x, Nat.testBit e.c.anc x = true → D x = true := fun x hx => by
    rw [hanc] at hx
    obtain ⟨ed, h3, h4, h5⟩ := ancOf_bit hx
    have h6 := hr ed h3 h4
    rcases h5 with rfl | h5
    · exact h6
    · have h7 := hedge ed h3 h4
      refine I.clo ed.on h6 x ?_
      have : ((es.take j).map (·.c.anc)).getD ed.on 0 = ancE es ed.on := by
        rw [List.getD_eq_getElem?_getD, List.getElem?_map, List.getElem?_take_of_lt h7]
        unfold ancE
        cases es[ed.on]? <;> rfl
      rw [this] at h5; exact h5
  have hB : ∀ i, D i = true → Nat.testBit (ancE es i) j = false := fun i hi => by
    cases hb : Nat.testBit (ancE es i) j with
    | false => rfl
    | true => rw [I.clo i hi j hb] at hD; cases hD
  refine ⟨hbj, hA, hB, fun x hx => ?_⟩
  have hcs' : ∀ (i : Nat) (e' : En), es[i]? = some e' → cs[i]? = some e'.c := fun i e' hi => by
    obtain ⟨_, e'', _, h4, _, _, h5, _⟩ := T.get (List.getElem?_eq_some_iff.1 hi).1
    rw [hi] at h4; simp only [Option.some.injEq] at h4; subst h4; exact h5
  -- those with this temporary
  have hbefore : ∀ i, i < j → dstE es i = some x → D i = true := fun i hij hd => by
    have hei : es[i]? = some es[i] := List.getElem?_eq_getElem (by omega)
    simp only [dstE, hei, Option.bind_some] at hd
    rcases apartAll_of (i := i) (j := j) (l := cs) (rev := []) hap rfl hij (by simpa using hcs' i _ hei) (by simpa using hcs' j _ he) (by omega) with h | h
    · exact hA i h
    · simp only [Sx.apart, Bool.and_eq_true] at h
      have h3 := h.1
      rw [hd] at h3
      simp only [notIn, Bool.not_eq_true'] at h3
      exact absurd hx (nmem_iff.1 h3)
  have hafter : ∀ i, j ≤ i → dstE es i = some x → D i = false := fun i hji hd => by
    cases hDi : D i with
    | false => rfl
    | true =>
      have hne : i ≠ j := fun e => by rw [e, hD] at hDi; cases hDi
      cases hei' : es[i]? with
      | none => simp [dstE, hei'] at hd
      | some ei =>
        simp only [dstE, hei', Option.bind_some] at hd
        have hBi := hB i hDi
        simp only [ancE, hei'] at hBi
        rcases apartAll_of (i := j) (j := i) (l := cs) (rev := []) hap rfl (by omega) (by simpa using hcs' j _ he) (by simpa using hcs' i _ hei') (by omega) with h | h
        · rw [hBi] at h; cases h
        · simp only [Sx.apart, Bool.and_eq_true] at h
          have h3 := h.2.1
          rw [hd] at h3
          simp only [notIn, Bool.not_eq_true'] at h3
          exact absurd hx (nmem_iff.1 h3)
  have hpiv : ∀ i, i < j - b → kdE es (b + i) ≠ 3 := fun i hi h3 => by
    have hei : es[b + i]? = some es[b + i] := List.getElem?_eq_getElem (by omega)
    simp only [kdE, hei] at h3
    have hD' : D (b + i) = true := by
      rcases T.pair j e he (b + i) _ (by simp; omega) (by rw [List.nil_append]; exact hei) with h | ⟨_, h, _⟩
      · exact hA _ h
      · exact absurd h3 h
    exact I.piv (b + i) (by omega) hD' (by simp only [kdE, hei]; exact h3)
  have h3 := I.tmp x
  have e1 : es.length - b = (j - b) + (es.length - j) := by omega
  rw [e1, K_skip (es.length - j) (fun i a1 _ a3 => hafter (b + i) (by omega) a3), K_congr (D' := fun _ => true) (j - b) (fun i a1 a2 => hbefore (b + i) (by omega) a2), K_seq T (j - b) hpiv (by omega), show b + (j - b) = j by omega, stA_some he] at h3
  exact h3

theorem Up.need {cx : Cx} {w : World} {tm : Array Value} {D : Nat → Bool} {e : En} {j b p : Nat} (U : Up es sf D e j b p cx w tm) (hu : Uniq e.s.t) (hb : ∀ q ∈ e.s.t, q.1 < tm.size) : TRep cx w (needOf e) tm := by
  intro i x hx
  obtain ⟨h1, h2⟩ := keepT_mem hx
  have h3 := U.look i (by
    unfold looks
    split
    · exact List.mem_cons_of_mem _ h1
    · exact h1)
  rw [uniq_lk hu h2] at h3
  rcases h3 with h3 | h3
  · exact ⟨hb _ h2, by rw [h3]; exact SRep.anyTop _ _ _⟩
  · exact h3

theorem Up.wanted {cx : Cx} {w : World} {tm : Array Value} {D : Nat → Bool} {e : En} {j b p : Nat} (U : Up es sf D e j b p cx w tm) {o : Oper} (hg : GuardOK ops.toList o e.c) {r : Bool} (hr : runs e r) : Region.wanted o (yielded ops tm) = r := by
  unfold GuardOK at hg
  unfold runs at hr
  unfold Region.wanted
  split at hg
  · rename_i h; rw [hg] at hr; simp [h, hr]
  · rename_i j' w' h
    obtain ⟨d, h1, h2⟩ := hg
    rw [h2] at hr
    rcases hr with ⟨x, h3, h4⟩ | ⟨h3, h4⟩
    rotate_left
    · have h5 := U.look d (by simp [looks, h2])
      rw [h3] at h5
      rcases h5 with h5 | ⟨h5, h6⟩
      · cases h5
      · have h7 := yielded_at_tup (ops := ops) rfl h1 h5 h6
        simp [h, h7, h4]
    have h5 := U.look d (by simp [looks, h2])
    rw [h3] at h5
    rcases h5 with h5 | ⟨h5, h6⟩
    · cases h5
    · have h7 := yielded_at (ops := ops) rfl h1 h5 (bool_of h6)
      simp only [h, h7, h4]
      cases x <;> cases w' <;> rfl
end
end Go.Sx

/- Regions that draw their order, fifth part: the step, and all orders. -/
namespace Go.Sx

section
variable {P : Program} {A : Ann} {nt : Nat} {ops : Array Oper} {cs : List CR} {s : SS} {es : List En} {sf : SS}

def addD (D : Nat → Bool) (j : Nat) : Nat → Bool := fun i => D i || i == j

theorem addD_ne {D : Nat → Bool} {i j : Nat} (h : i ≠ j) : addD D j i = D i := by simp [addD, h]
theorem addD_eq {D : Nat → Bool} {j : Nat} : addD D j j = true := by simp [addD]

theorem Trc.pairs (T : Trc P A nt ops.toList [] ops.toList cs s es sf) {i j : Nat} {e e' : En} (hij : i < j) (he' : es[i]? = some e') (he : es[j]? = some e) : PairOK i e' e :=
  T.pair j e he i e' (by simp; omega) (by rw [List.nil_append]; exact he')

theorem Trc.apts (T : Trc P A nt ops.toList [] ops.toList cs s es sf) (hap : apartAll cs [] 0 = true) {i j : Nat} {e e' : En} (hij : i < j) (he' : es[i]? = some e') (he : es[j]? = some e) : Nat.testBit e.c.anc i = true ∨ apart e'.c e.c = true := by
  have hcs' : ∀ (i : Nat) (e' : En), es[i]? = some e' → cs[i]? = some e'.c := fun i e' hi => by
    obtain ⟨_, e'', _, h4, _, _, h5, _⟩ := T.get (List.getElem?_eq_some_iff.1 hi).1
    rw [hi] at h4; simp only [Option.some.injEq] at h4; subst h4; exact h5
  exact apartAll_of (i := i) (j := j) (l := cs) (rev := []) hap rfl hij (by simpa using hcs' i _ he') (by simpa using hcs' j _ he) (by omega)

/-- Temporaries behind an operation that scrubs none. -/
theorem tmp_step (T : Trc P A nt ops.toList [] ops.toList cs s es sf) (hap : apartAll cs [] 0 = true) {D : Nat → Bool} {cx cx' : Cx} {w w' : World} {a : Act} {b p : Nat} (I : Inv nt es sf D cx w a.tmps b p) {j : Nat} {o : Oper} {e : En}
    (he : es[j]? = some e) (hdst : o.dst = e.c.dst) (hds : ∀ d, o.dst = some d → d < nt) (U : Up es sf D e j b p cx w a.tmps) (gr : Grow0 cx w cx' w') {v' : Value} (hv : SRep cx' w' e.v v') (x : Nat) :
    Good cx' w' (a.put o.dst v').tmps x (K es (addD D j) (lk (stA es sf b).t) b (es.length - b) x) := by
  have hj := (List.getElem?_eq_some_iff.1 he).1
  have hbj := U.bj
  by_cases hd : dstE es j = some x
  · have hd' : o.dst = some x := by rw [hdst]; simpa [dstE, he] using hd
    have hx : x < a.tmps.size := by rw [I.size]; exact hds x hd'
    have hafter : ∀ i, j < i → dstE es i = some x → addD D j i = false := fun i hji hdi => by
      rw [addD_ne (by omega)]
      cases hDi : D i with
      | false => rfl
      | true =>
        cases hei' : es[i]? with
        | none => simp [dstE, hei'] at hdi
        | some ei =>
          have hBi := U.above i hDi
          simp only [ancE, hei'] at hBi
          rcases T.apts hap hji he hei' with h | h
          · rw [hBi] at h; cases h
          · simp only [Sx.apart, Bool.and_eq_true] at h
            have h3 := h.2.2
            simp only [dstE, hei', he, Option.bind_some] at hdi hd
            rw [hdi, hd] at h3
            simp at h3
    have e1 : es.length - b = (j - b + 1) + (es.length - j - 1) := by omega
    have e2 : K es (addD D j) (lk (stA es sf b).t) b (es.length - b) x = e.v := by
      rw [e1, K_skip _ (fun i a1 _ a3 => hafter (b + i) (by omega) a3)]
      simp only [K]
      rw [show b + (j - b) = j by omega, if_pos ⟨addD_eq, hd⟩]
      simp [valE, he]
    rw [e2]
    refine .inr ⟨by rw [put_size]; exact hx, ?_⟩
    rw [hd', put_get_eq hx]; exact hv
  · have e2 : K es (addD D j) (lk (stA es sf b).t) b (es.length - b) x = K es D (lk (stA es sf b).t) b (es.length - b) x :=
      K_congr _ fun i _ h => addD_ne (fun e1 => hd (by rw [← e1]; exact h))
    rw [e2]
    have hne : o.dst ≠ some x := fun h => hd (by simpa [dstE, he, ← hdst] using h)
    rcases (I.tmp x).grow gr with h | ⟨h1, h2⟩
    · exact .inl h
    · exact .inr ⟨by rw [put_size]; exact h1, by rw [put_get_ne hne]; exact h2⟩

theorem clo_step {D : Nat → Bool} {cx : Cx} {w : World} {tm : Array Value} {b p : Nat} (I : Inv nt es sf D cx w tm b p) {j : Nat} {e : En} (he : es[j]? = some e) (U : Up es sf D e j b p cx w tm) :
    ∀ i, addD D j i = true → ∀ x, Nat.testBit (ancE es i) x = true → addD D j x = true := by
  intro i hi x hx
  by_cases h : i = j
  · subst h
    simp only [ancE, he] at hx
    simp [addD, U.anc x hx]
  · rw [addD_ne h] at hi
    simp [addD, I.clo i hi x hx]

theorem draw_op (T : Trc P A nt ops.toList [] ops.toList cs s es sf) (hap : apartAll cs [] 0 = true) {D : Nat → Bool} {cx : Cx} {w : World} {a : Act} {b p : Nat} (I : Inv nt es sf D cx w a.tmps b p) {j : Nat} {o : Oper}
    (ho : ops[j]? = some o) (hj : j < es.length) (hD : D j = false) (hr : ∀ x ∈ o.after, Region.binds .any x = true → D x.on = true) {Q : Exit → Act → World → Prop} {KK : Act → World → Prop}
    (hk : ∀ cx' w' a' b' p', Grow A.p cx w cx' w' → Inv nt es sf (addD D j) cx' w' a'.tmps b' p' → Frm a a' → KK a' w') :
    if Region.wanted o (yielded ops a.tmps) then o.wp P a w KK Q ∨ (o.asks P a w ∧ LetsOut Q) else KK (a.put o.dst undef) w := by
  obtain ⟨o', e, h1, he, hok, hgd, hcs, hanc, hedge, hdst⟩ := T.get hj
  rw [ho] at h1; simp only [Option.some.injEq] at h1; subst h1
  have U := T.up hap I ho he hD hr
  have hclo := clo_step I he U
  have hnb : ∀ q ∈ e.s.t, q.1 < a.tmps.size := fun q hq => by rw [I.size]; exact hok.bnd q hq
  have hneed : TRep cx w (needOf e) a.tmps := U.need hok.uniq hnb
  have hkd : kdE es j = e.kd := by simp [kdE, he]
  have hbj := U.bj
  -- an effect ahead of j in the text has been, where j is an effect
  have hpre : 2 ≤ e.kd → ∀ i, i < j → 2 ≤ kdE es i → D i = true := fun h2 i hij hi => by
    have hei : es[i]? = some es[i] := List.getElem?_eq_getElem (by omega)
    simp only [kdE, hei] at hi
    rcases T.pairs hij hei he with h | ⟨h4, h5, h6, _⟩
    · exact U.anc i h
    · have k3 : e.kd = 2 ∧ es[i].kd = 2 := by
        have hb1 : e.kd ≤ 3 := by rcases hok.kind with h | h | h | h <;> omega
        obtain ⟨_, e'', _, q2, hok', _⟩ := T.get (i := i) (by omega)
        rw [hei] at q2; simp only [Option.some.injEq] at q2; subst q2
        have hb2 : es[i].kd ≤ 3 := by rcases hok'.kind with h | h | h | h <;> omega
        omega
      exact absurd k3 h6
  have hpost : 2 ≤ e.kd → ∀ i, j < i → i < es.length → 2 ≤ kdE es i → D i = false := fun h2 i hij hil hi => by
    have hei : es[i]? = some es[i] := List.getElem?_eq_getElem hil
    simp only [kdE, hei] at hi
    cases hDi : D i with
    | false => rfl
    | true =>
      have hBi := U.above i hDi
      simp only [ancE, hei] at hBi
      rcases T.pairs hij he hei with h | ⟨h4, h5, h6, _⟩
      · rw [hBi] at h; cases h
      · have k3 : es[i].kd = 2 ∧ e.kd = 2 := by
          have hb1 : e.kd ≤ 3 := by rcases hok.kind with h | h | h | h <;> omega
          obtain ⟨_, e'', _, q2, hok', _⟩ := T.get (i := i) hil
          rw [hei] at q2; simp only [Option.some.injEq] at q2; subst q2
          have hb2 : es[i].kd ≤ 3 := by rcases hok'.kind with h | h | h | h <;> omega
          omega
        exact absurd k3 h6
  -- the heap, where j is an effect
  have hheap : 2 ≤ e.kd → p ≤ j ∧ (stA es sf p).h = e.s.h := fun h2 => by
    have hpj : p ≤ j := by
      rcases Nat.lt_or_ge j p with h | h
      · have := (I.eff j hj (by rw [hkd]; exact h2)).2 h
        rw [hD] at this; cases this
      · exact h
    refine ⟨hpj, ?_⟩
    have := heap_const T (p := p) (j - p) (by omega) (fun i a1 a2 => by
      rcases Nat.lt_or_ge (kdE es i) 2 with h | h
      · exact h
      · have h3 := hpre h2 i (by omega) h
        have h4 := (I.eff i (by omega) h).1 h3
        omega)
    rw [show p + (j - p) = j by omega, stA_some he] at this
    exact this.symm
  rcases hok.kind with ⟨k0, hrun, hv, hls, hs'⟩ | ⟨k1, hrun, hs', hls, hm, hhm, hst⟩ | ⟨k2, hrun, hs', hkp, hop⟩ | ⟨k3, hrun, hpa, t1, hsub, hs', hop⟩
  · -- not wanted
    rw [U.wanted hgd hrun, if_neg (by simp)]
    refine hk cx w _ b p (Grow.refl _ _ _) ⟨I.ble, I.ple, fun i hi => by simp [addD, I.low i hi], fun i hi hDi => ?_, fun i hi h2 => ?_, hclo, I.gam, fun x => tmp_step T hap I he hok.dst hdst U (Grow.refl _ _ _) (by rw [hv]; exact srep_undef _ _) x, by rw [put_size]; exact I.size⟩ (Frm.put _ _ _)
    · by_cases h : i = j
      · subst h; rw [hkd]; omega
      · rw [addD_ne h] at hDi; exact I.piv i hi hDi
    · have : i ≠ j := fun e1 => by subst e1; omega
      rw [addD_ne this]; exact I.eff i hi h2
  · -- it looks
    rw [U.wanted hgd hrun, if_pos rfl]
    left
    have hseen : Seen cx hm w := ⟨fun l => by
      rcases hhm l with h | ⟨h, h'⟩
      · rw [h]; trivial
      · rw [h']
        obtain ⟨n, hn, hln⟩ := hls l h
        have hgo := U.look n (by
          unfold looks
          split
          · exact List.mem_cons_of_mem _ hn
          · exact hn)
        rcases hgo with hgo | ⟨_, hgo⟩
        · rw [hgo] at hln; simp [locsOf] at hln
        · have hlt := locs_lt hgo l hln
          rw [I.gam.n] at hlt
          have hobj := I.gam.obj l
          rcases Nat.le_total p j with hpj | hpj
          · have := heap_fwd T hlt (j - p) (by omega) (fun i ei a1 a2 hei => by
              have hDi : ei.kd = 2 ∨ ei.kd = 3 → D i = false := fun h2 => by
                cases hDi : D i with
                | false => rfl
                | true => have := (I.eff i (by omega) (by simp only [kdE, hei]; omega)).1 hDi; omega
              have hna : ei.kd = 2 ∨ ei.kd = 3 → ¬ Nat.testBit e.c.anc i = true := fun h2 hb => by
                rw [U.anc i hb] at hDi; exact absurd (hDi h2) (by simp)
              rcases T.pairs (by omega) hei he with hb | ⟨_, h5, _, h7⟩
              · exact ⟨fun h3 => hna (.inr h3) hb, fun h3 => absurd hb (hna (.inl h3))⟩
              · exact ⟨h5, fun h3 => h7 (.inr h3) l h⟩)
            rw [show p + (j - p) = j by omega, stA_some he] at this
            rw [this.1]; exact hobj
          · rcases Nat.lt_or_ge l e.s.h.length with hl2 | hl2
            · have := heap_fwd T (p := j) (l := l) (by rw [stA_some he]; exact hl2) (p - j) (by have := I.ple; omega) (fun i ei a1 a2 hei => by
                by_cases hij : i = j
                · subst hij
                  rw [he] at hei; simp only [Option.some.injEq] at hei; subst hei
                  exact ⟨by omega, fun h3 => by omega⟩
                · have hil := (List.getElem?_eq_some_iff.1 hei).1
                  have hDi : ei.kd = 2 ∨ ei.kd = 3 → D i = true := fun h2 => (I.eff i hil (by simp only [kdE, hei]; omega)).2 (by omega)
                  refine ⟨fun h3 => I.piv i (by omega) (hDi (.inr h3)) (by simp only [kdE, hei]; exact h3), fun h3 => ?_⟩
                  have hBi := U.above i (hDi (.inl h3))
                  simp only [ancE, hei] at hBi
                  rcases T.pairs (by omega) he hei with hb | ⟨_, _, _, h7⟩
                  · rw [hBi] at hb; cases hb
                  · exact fun hmem => h7 (.inl h3) l hmem h)
              rw [show j + (p - j) = p by omega, stA_some he] at this
              rw [← this.1]; exact hobj
            · rw [hget_ge hl2]; trivial⟩
    refine hst cx w a _ I.gam hseen hneed _ _ fun cx' w' v' gr hv hG' => ?_
    refine hk cx' w' _ b p gr.to ⟨I.ble, I.ple, fun i hi => by simp [addD, I.low i hi], fun i hi hDi => ?_, fun i hi h2 => ?_, hclo, hG', fun x => tmp_step T hap I he hok.dst hdst U gr hv x, by rw [put_size]; exact I.size⟩ (Frm.put _ _ _)
    · by_cases h : i = j
      · subst h; rw [hkd]; omega
      · rw [addD_ne h] at hDi; exact I.piv i hi hDi
    · have : i ≠ j := fun e1 => by subst e1; omega
      rw [addD_ne this]; exact I.eff i hi h2
  · -- an effect
    rw [U.wanted hgd hrun, if_pos rfl]
    left
    obtain ⟨hpj, hh⟩ := hheap (by omega)
    have hG := I.gam
    rw [hh] at hG
    refine hop cx w a hG hneed _ _ fun cx' w' v' gr hv _ hG' => ?_
    refine hk cx' w' _ b (j + 1) gr.to ⟨I.ble, by omega, fun i hi => by simp [addD, I.low i hi], fun i hi hDi => ?_, fun i hi h2 => ?_, hclo, by rw [(T.link j e he).2]; exact hG', fun x => tmp_step T hap I he hok.dst hdst U gr hv x, by rw [put_size]; exact I.size⟩ (Frm.put _ _ _)
    · by_cases h : i = j
      · subst h; rw [hkd]; omega
      · rw [addD_ne h] at hDi; exact I.piv i hi hDi
    · by_cases h : i = j
      · subst h; simp [addD]
      · rw [addD_ne h]
        rcases Nat.lt_or_ge i j with h3 | h3
        · simp [hpre (by omega) i h3 h2]; omega
        · simp [hpost (by omega) i (by omega) hi h2]; omega
  · -- a pivot
    rw [U.wanted hgd hrun, if_pos rfl]
    left
    obtain ⟨hpj, hh⟩ := hheap (by omega)
    have hG := I.gam
    rw [hh] at hG
    have hall : ∀ i, i < j → D i = true := fun i hi => U.anc i (bit_pivot hpa hi)
    have hnone : ∀ i, j ≤ i → i < es.length → D i = false := fun i hji hil => by
      by_cases h : i = j
      · rw [h]; exact hD
      · cases hDi : D i with
        | false => rfl
        | true =>
          have hei : es[i]? = some es[i] := List.getElem?_eq_getElem hil
          have hBi := U.above i hDi
          simp only [ancE, hei] at hBi
          rcases T.pairs (by omega) he hei with hb | ⟨_, h5, _⟩
          · rw [hBi] at hb; cases hb
          · exact absurd k3 h5
    have hTR : TRep cx w e.s.t a.tmps := by
      intro x y hxy
      have hlk := uniq_lk hok.uniq hxy
      have hg := I.tmp x
      have hpv : ∀ i, i < j - b → kdE es (b + i) ≠ 3 := fun i hi => I.piv (b + i) (by omega) (hall (b + i) (by omega))
      rw [show es.length - b = (j - b) + (es.length - j) by omega, K_skip (es.length - j) (fun i a1 a2 _ => hnone (b + i) (by omega) (by omega)), K_congr (D' := fun _ => true) (j - b) (fun i a1 _ => hall (b + i) (by omega)), K_seq T (j - b) hpv (by omega), show b + (j - b) = j by omega, stA_some he, hlk] at hg
      rcases hg with hg | hg
      · exact ⟨hnb _ hxy, by rw [hg]; exact SRep.anyTop _ _ _⟩
      · exact hg
    refine hop cx w a hG hTR _ _ fun cx' w' v' gr hv ht' hG' => ?_
    have hnone' : ∀ i, j + 1 ≤ i → i < es.length → addD D j i = false := fun i h3 h4 => by
      rw [addD_ne (by omega)]; exact hnone i (by omega) h4
    refine hk cx' w' _ (j + 1) (j + 1) gr ⟨by omega, by omega, fun i hi => ?_, fun i hi hDi => ?_, fun i hi h2 => ?_, hclo, by rw [(T.link j e he).2]; exact hG', fun x => ?_, by rw [put_size]; exact I.size⟩ (Frm.put _ _ _)
    · by_cases h : i = j
      · subst h; exact addD_eq
      · rw [addD_ne h]; exact hall i (by omega)
    · rcases Nat.lt_or_ge i es.length with h | h
      · rw [hnone' i hi h] at hDi; cases hDi
      · simp [kdE, List.getElem?_eq_none h]
    · by_cases h : i = j
      · subst h; simp [addD]
      · rw [addD_ne h]
        rcases Nat.lt_or_ge i j with h3 | h3
        · simp [hall i h3]; omega
        · simp [hnone i (by omega) hi]; omega
    · have e0 : es.length - (j + 1) = 0 + (es.length - (j + 1)) := by omega
      rw [e0, K_skip _ (fun i a1 a2 _ => hnone' (j + 1 + i) (by omega) (by omega))]
      simp only [K]
      rw [(T.link j e he).1, hs']
      have htp := TRep.put (v := e.v) (hok.uniq.sub hsub) ht' (d := o.dst) (fun d hd => by rw [I.size]; exact hdst d hd) hv
      rw [← hok.dst]
      by_cases ht : lk (putD o.dst e.v t1) x = .top
      · exact .inl ht
      · exact .inr (htp x _ (lk_mem ht))
end
end Go.Sx

/- Regions that draw their order, sixth part: all orders. -/
namespace Go.Sx

theorem countP_lt {α : Type} {p q : α → Bool} {x : α} : ∀ {l : List α}, (∀ y ∈ l, q y = true → p y = true) → x ∈ l → p x = true → q x = false → l.countP q < l.countP p
  | [], _, hx, _, _ => by simp at hx
  | y :: r, h, hx, hp, hq => by
    have hr : ∀ z ∈ r, q z = true → p z = true := fun z hz => h z (by simp [hz])
    have hle : r.countP q ≤ r.countP p := List.countP_mono_left hr
    simp only [List.countP_cons]
    rcases List.mem_cons.1 hx with rfl | hx
    · simp [hp, hq]; omega
    · have := countP_lt hr hx hp hq
      cases hqy : q y with
      | false => simp; split <;> omega
      | true => simp [h y (by simp) hqy]; omega

section
variable {P : Program} {A : Ann} {nt : Nat} {ops : Array Oper} {cs : List CR} {s : SS} {es : List En} {sf : SS}

theorem draw_end (T : Trc P A nt ops.toList [] ops.toList cs s es sf) {D : Nat → Bool} {cx : Cx} {w : World} {tm : Array Value} {b p : Nat} (I : Inv nt es sf D cx w tm b p) (hall : ∀ i, i < es.length → D i = true) : Gam cx sf.h w ∧ TRep cx w sf.t tm := by
  have hsf : stA es sf es.length = sf := by simp [stA]
  constructor
  · have := heap_const T (p := p) (es.length - p) (by have := I.ple; omega) (fun i a1 a2 => by
      rcases Nat.lt_or_ge (kdE es i) 2 with h | h
      · exact h
      · have h2 := (I.eff i (by omega) h).1 (hall i (by omega))
        omega)
    rw [show p + (es.length - p) = es.length by have := I.ple; omega, hsf] at this
    rw [this]; exact I.gam
  · intro x y hxy
    have hlk := uniq_lk T.uniq hxy
    have hg := I.tmp x
    have hb := I.ble
    rw [K_congr (D' := fun _ => true) (es.length - b) (fun i a1 _ => hall (b + i) (by omega)), K_seq T (es.length - b) (fun i a1 => I.piv (b + i) (by omega) (hall (b + i) (by omega))) (by omega), show b + (es.length - b) = es.length by omega, hsf, hlk] at hg
    rcases hg with hg | hg
    · exact ⟨by rw [I.size]; exact T.bnd _ hxy, by rw [hg]; exact SRep.anyTop _ _ _⟩
    · exact hg

theorem ready_nil (T : Trc P A nt ops.toList [] ops.toList cs s es sf) {listed : Array Bool} (hsz : listed.size = es.length) (h : Region.ready .any ops listed = []) : ∀ i, i < es.length → listed.getD i false = true := by
  intro i
  induction i using Nat.strongRecOn with
  | _ i ih =>
    intro hi
    cases hb : listed.getD i false with
    | true => rfl
    | false =>
      exfalso
      obtain ⟨o, e, h1, _, _, _, _, _, hedge, _⟩ := T.get hi
      have : i ∈ Region.ready .any ops listed := mem_ready.2 ⟨by
        rw [Array.getD_eq_getD_getElem?] at hb ⊢
        rw [Array.getElem?_eq_getElem (by omega)] at hb ⊢
        simpa using hb, o, h1, fun x hx hbx => ih x.on (hedge x hx hbx) (by have := hedge x hx hbx; omega)⟩
      rw [h] at this; cases this

theorem draw_any (T : Trc P A nt ops.toList [] ops.toList cs s es sf) (hap : apartAll cs [] 0 = true) {Q : Exit → Act → World → Prop} : ∀ (fuel : Nat) (listed : Array Bool) (a : Act) (w : World) (cx : Cx) (b p : Nat),
    listed.size = es.length → (List.range es.length).countP (fun i => !listed.getD i false) ≤ fuel → Inv nt es sf (fun i => listed.getD i false) cx w a.tmps b p →
    (∀ cx' w' a', Grow A.p cx w cx' w' → Gam cx' sf.h w' → TRep cx' w' sf.t a'.tmps → Frm a a' → Q .normal a' w') → wpAny P .any ops Q fuel listed a w
  | 0, listed, a, w, cx, b, p, hsz, hc, I, hk => by
    have hall : ∀ i, i < es.length → listed.getD i false = true := fun i hi => by
      cases hb : listed.getD i false with
      | true => rfl
      | false =>
        have h0 : (List.range es.length).countP (fun i => !listed.getD i false) = 0 := by omega
        have := List.countP_eq_zero.1 h0 i (List.mem_range.2 hi)
        simp [hb] at this
    refine ⟨?_, hk cx w a (Grow.refl _ _ _) (draw_end T I hall).1 (draw_end T I hall).2 (Frm.refl a)⟩
    cases hr : Region.ready .any ops listed with
    | nil => rfl
    | cons i r =>
      have hi : i ∈ Region.ready .any ops listed := by rw [hr]; simp
      obtain ⟨h1, o, h2, _⟩ := mem_ready.1 hi
      have hlt : i < es.length := by
        rw [T.len]; have := (Array.getElem?_eq_some_iff.1 h2).1; simpa using this
      have h3 := hall i hlt
      rw [Array.getD_eq_getD_getElem?] at h1 h3
      rw [Array.getElem?_eq_getElem (by omega)] at h1 h3
      simp at h1 h3
      rw [h1] at h3; cases h3
  | fuel + 1, listed, a, w, cx, b, p, hsz, hc, I, hk => by
    refine ⟨fun hn => ?_, fun j hj => ?_⟩
    · have hall := ready_nil T hsz hn
      exact hk cx w a (Grow.refl _ _ _) (draw_end T I hall).1 (draw_end T I hall).2 (Frm.refl a)
    · obtain ⟨h1, o, h2, h3⟩ := mem_ready.1 hj
      have hlt : j < es.length := by
        rw [T.len]; have := (Array.getElem?_eq_some_iff.1 h2).1; simpa using this
      have hD : listed.getD j false = false := by
        rw [Array.getD_eq_getD_getElem?] at h1 ⊢
        rw [Array.getElem?_eq_getElem (by omega)] at h1 ⊢
        simpa using h1
      have hset : (fun i => (listed.setIfInBounds j true).getD i false) = addD (fun i => listed.getD i false) j := by
        funext i
        by_cases h : i = j
        · subst h
          rw [addD_eq, Array.getD_eq_getD_getElem?, Array.getElem?_setIfInBounds_self_of_lt (by omega)]; rfl
        · rw [addD_ne h, Array.getD_eq_getD_getElem?, Array.getElem?_setIfInBounds_ne (Ne.symm h), Array.getD_eq_getD_getElem?]
      unfold wpOp
      rw [h2]
      refine draw_op T hap I h2 hlt hD h3 fun cx' w' a' b' p' gr I' fr => ?_
      refine draw_any T hap fuel _ a' w' cx' b' p' (by simp [hsz]) ?_ (by rw [hset]; exact I') fun cx2 w2 a2 g2 h4 h5 h6 => hk cx2 w2 a2 (gr.trans g2) h4 h5 (fr.trans h6)
      have := countP_lt (l := List.range es.length) (p := fun i => !listed.getD i false) (q := fun i => !(listed.setIfInBounds j true).getD i false) (x := j) (fun y _ hy => by
        have e : (listed.setIfInBounds j true).getD y false = addD (fun i => listed.getD i false) j y := congrFun hset y
        rw [e] at hy
        simp only [addD, Bool.not_or, Bool.and_eq_true] at hy
        exact hy.1) (List.mem_range.2 hlt) (by simp [hD]) (by
        have e : (listed.setIfInBounds j true).getD j false = addD (fun i => listed.getD i false) j j := congrFun hset j
        rw [e, addD_eq]; rfl)
      omega

/-- A region that draws its order. -/
theorem sregD_sound {Ω : Type} {env : Env Ω} {out : Ω} (he : EnvOK P env) (hmix : P.follows .mixedOrders = true) {k : SS → Option Ω} {Q : Exit → Act → World → Prop} {id : Nat}
    (hc : coR P nt true ops.toList ops.toList [] = some cs) (hap : apartAll cs [] 0 = true) (h : sregD env A cs 0 [] 0 s k = some out)
    {cx : Cx} {w : World} {a : Act} (hsz : a.tmps.size = nt) (hu : Uniq s.t) (hg : Gam cx s.h w) (ht : TRep cx w s.t a.tmps)
    (hk : ∀ cx' w' a' s', k s' = some out → Frm a a' → Uniq s'.t → Grow A.p cx w cx' w' → Gam cx' s'.h w' → TRep cx' w' s'.t a'.tmps → Q .normal a' w') : (Code.region id ops true).wp P Q a w := by
  obtain ⟨es, sf, hksf, T⟩ := sregD_trace (P := P) (A := A) he ops.toList cs [] [] 0 s hc h hu (fun p hp => by rw [← hsz]; exact (ht p.1 p.2 hp).1) ⟨by simp⟩
  have hn : es.length = ops.size := by rw [T.len]; simp
  refine wp_region_any hmix ?_
  have hg' : Gam cx s.h { w with drawn := w.drawn + 1 } := (Gam.world hg (w' := { w with drawn := w.drawn + 1 }) rfl rfl rfl).1
  have gr0 : Grow0 cx w cx { w with drawn := w.drawn + 1 } := (Gam.world hg (w' := { w with drawn := w.drawn + 1 }) rfl rfl rfl).2
  have hlist : ∀ i, (Array.replicate ops.size false).getD i false = false := fun i => by
    rw [Array.getD_eq_getD_getElem?, Array.getElem?_replicate]; split <;> rfl
  refine draw_any T hap ops.size _ a _ cx 0 0 (by simp [hn]) ?_ ?_ fun cx' w' a' gr h1 h2 h3 => hk cx' w' a' sf hksf h3 T.uniq (gr0.to.trans gr) h1 h2
  · have := List.countP_le_length (p := fun i => !(Array.replicate ops.size false).getD i false) (l := List.range es.length)
    simp only [List.length_range] at this
    omega
  · refine ⟨Nat.zero_le _, Nat.zero_le _, fun i hi => absurd hi (by omega), fun i _ h => absurd h (by simp only [hlist]; simp), fun i _ _ => by simp only [hlist]; simp, fun i h => absurd h (by simp only [hlist]; simp), ?_, fun x => ?_, hsz⟩
    · rw [T.head.2]; exact hg'
    · have e0 : es.length - 0 = 0 + es.length := by omega
      rw [e0, K_skip es.length (fun i _ _ _ => hlist _)]
      simp only [K]
      rw [T.head.1]
      by_cases h : lk s.t x = .top
      · exact .inl h
      · have := ht x _ (lk_mem h)
        exact .inr ⟨this.1, this.2.grow gr0⟩
end
end Go.Sx

/- Code: what the abstract interpreter reaches, the machine does. -/
namespace Go.Sx

 mutual
theorem SRep.cut {cx : Cx} {w : World} {n : Nat} : ∀ (x : SV) (u : Value), ment (Nat.ble n) x = false → SRep cx w x u → SRep { cx with n := min n cx.n } w x u
  | .d x, u, _, h => by simp only [SRep] at h ⊢; exact h
  | .ptr l o, u, hm, h => by simp only [SRep, ment] at h hm ⊢; exact ⟨by have := nge' hm; omega, h.2⟩
  | .pe l i o, u, hm, h => by simp only [SRep, ment] at h hm ⊢; exact ⟨by have := nge' hm; omega, h.2⟩
  | .rp sz f o, u, _, h => by simp only [SRep] at h ⊢; exact h
  | .own l, u, hm, h => by simp only [SRep, ment] at h hm ⊢; exact ⟨by have := nge' hm; omega, h.2⟩
  | .cs l o sz n' c, u, hm, h => by simp only [SRep, ment] at h hm ⊢; exact ⟨by have := nge' hm; omega, h.2⟩
  | .mp l, u, hm, h => by simp only [SRep, ment] at h hm ⊢; exact ⟨by have := nge' hm; omega, h.2⟩
  | .fn q a b, u, hm, h => by
      simp only [SRep, ment, Bool.or_eq_false_iff] at h hm ⊢
      obtain ⟨a', b', e, ha, hb⟩ := h
      exact ⟨a', b', e, SRepL.cut a a' hm.1 ha, SRepL.cut b b' hm.2 hb⟩
  | .agg c, u, hm, h => by
      simp only [SRep, ment] at h hm ⊢
      obtain ⟨c', e, hc⟩ := h
      exact ⟨c', e, SRepL.cut c c' hm hc⟩
  | .tup c, u, hm, h => by
      simp only [SRep, ment] at h hm ⊢
      obtain ⟨c', e, hc⟩ := h
      exact ⟨c', e, SRepL.cut c c' hm hc⟩
  | .md ks c, u, hm, h => by
      simp only [SRep, ment] at h hm ⊢
      obtain ⟨b, e, c', vs, eu, hb, hw, hl, hk, hc⟩ := h
      exact ⟨b, e, c', vs, eu, hb, hw, hl, hk, SRepL.cut c vs hm hc⟩
  | .rc c o, u, hm, h => by
      simp only [SRep, ment] at h hm ⊢
      obtain ⟨b, vs, eu, hb, hw, hc⟩ := h
      exact ⟨b, vs, eu, hb, hw, SRepL.cut c vs hm hc⟩
  | .top, u, _, _ => by simp only [SRep]
theorem SRepL.cut {cx : Cx} {w : World} {n : Nat} : ∀ (c : List SV) (c' : List Value), mentL (Nat.ble n) c = false → SRepL cx w c c' → SRepL { cx with n := min n cx.n } w c c'
  | [], [], _, _ => by simp only [SRepL]
  | x :: r, v :: vs, hm, h => by
      simp only [SRepL, mentL, Bool.or_eq_false_iff] at h hm ⊢
      exact ⟨SRep.cut x v hm.1 h.1, SRepL.cut r vs hm.2 h.2⟩
  | [], _ :: _, _, h => by simp [SRepL] at h
  | _ :: _, [], _, h => by simp [SRepL] at h
theorem nge' {a b : Nat} (h : Nat.ble a b = false) : b < a := by
  rcases Nat.lt_or_ge b a with h' | h'
  · exact h'
  · have := Nat.ble_eq_true_of_le h'; rw [h] at this; cases this
end

theorem SRepE.cut {cx : Cx} {w : World} {n : Nat} : ∀ (c : List (Value × SV)) (c' : List (Value × Value)), mentE (Nat.ble n) c = false → SRepE cx w c c' → SRepE { cx with n := min n cx.n } w c c'
  | [], [], _, _ => by simp only [SRepE]
  | (q, x) :: r, (q', v) :: vs, hm, h => by
      simp only [SRepE, mentE, Bool.or_eq_false_iff] at h hm ⊢
      exact ⟨h.1, SRep.cut x v hm.1 h.2.1, SRepE.cut r vs hm.2 h.2.2⟩
  | [], _ :: _, _, h => by simp [SRepE] at h
  | _ :: _, [], _, h => by simp [SRepE] at h

theorem ORep.cut {cx : Cx} {w : World} {n l : Nat} {o : SO} (hm : mentO (Nat.ble n) o = false) (h : ORep cx w l o) : ORep { cx with n := min n cx.n } w l o := by
  cases o with
  | cells t c =>
    obtain ⟨t', c', h1, h2⟩ := h
    exact ⟨t', c', h1, SRepL.cut c c' hm h2⟩
  | maps es =>
    obtain ⟨e, c, h1, h2⟩ := h
    exact ⟨e, c, h1, SRepE.cut es _ hm h2⟩
  | dead => trivial
  | rowi t k xs => exact h
  | row t sz n' f => exact h
  | mapi k es => exact h
  | mapb es => exact h

theorem mentT_mem {p : Nat → Bool} : ∀ {t : List (Nat × SV)}, mentT p t = false → ∀ i x, (i, x) ∈ t → ment p x = false
  | (k, v) :: r, h, i, x, hx => by
    simp only [mentT, Bool.or_eq_false_iff] at h
    rcases List.mem_cons.1 hx with e | hx
    · simp only [Prod.mk.injEq] at e; rw [e.2]; exact h.1
    · exact mentT_mem h.2 i x hx

theorem mentH_get {p : Nat → Bool} : ∀ {h : SH}, mentH p h = false → ∀ l, mentO p (hget h l) = false
  | [], _, l => by simp [hget, mentO]
  | o :: r, h, 0 => by simp only [mentH, Bool.or_eq_false_iff] at h; simpa [hget] using h.1
  | o :: r, h, l + 1 => by
    simp only [mentH, Bool.or_eq_false_iff] at h
    have := mentH_get h.2 l
    simpa [hget] using this

theorem hget_take {h : SH} {n l : Nat} : hget (h.take n) l = if l < n then hget h l else .dead := by
  simp only [hget, List.getD_eq_getElem?_getD, List.getElem?_take]
  split <;> rfl

theorem liv_take {cx : Cx} {h : SH} {n l m : Nat} (hl : liv { cx with n := m } (h.take n) l) : liv cx h l := by
  unfold liv at *
  rw [hget_take] at hl
  by_cases hn : l < n
  · rw [if_pos hn] at hl; exact hl
  · rw [if_neg hn] at hl; exact hl.elim

theorem Gam.fade {cx : Cx} {h h2 : SH} {w : World} (g : Gam cx h w) (hl : h2.length = h.length) (hd : ∀ l, hget h2 l = hget h l ∨ hget h2 l = .dead) : Gam cx h2 w := by
  have hlv : ∀ l, liv cx h2 l → liv cx h l := fun l hv => by
    unfold liv at hv ⊢
    rcases hd l with e | e
    · rw [e] at hv; exact hv
    · rw [e] at hv; exact hv.elim
  refine ⟨by rw [hl]; exact g.n, fun l => ?_, fun l hv => g.lt l (hlv l hv), fun l hv => g.own l (hlv l hv), fun l m hv hm e => g.inj l m (hlv l hv) (hlv m hm) e, g.fzlt, g.dj⟩
  rcases hd l with e | e
  · rw [e]; exact g.obj l
  · rw [e]; trivial

theorem fadeH_spec {ks : List Nat} {n0 : Nat} : ∀ {h : SH} {i : Nat}, (fadeH ks n0 i h).length = h.length ∧ ∀ l, hget (fadeH ks n0 i h) l = hget h l ∨ hget (fadeH ks n0 i h) l = .dead
  | [], i => ⟨rfl, fun l => .inl rfl⟩
  | o :: r, i => by
    obtain ⟨h1, h2⟩ := @fadeH_spec ks n0 r (i + 1)
    refine ⟨by simp [fadeH, h1], fun l => ?_⟩
    cases l with
    | zero =>
      simp only [fadeH, hget, List.getD_cons_zero]
      cases (Nat.blt i n0 || nmem i ks) with
      | true => exact .inl rfl
      | false => exact .inr rfl
    | succ l => simpa [fadeH, hget] using h2 l

theorem gc_t {lv : List Nat} {n : Nat} {s : SS} : (gc lv n s).t = keepT lv s.t := by
  unfold gc
  dsimp only
  cases (mentT (Nat.ble (max n (topOf (clos s.h 100000 (locsT (keepT lv s.t) ++ locsH (s.h.take n)) [])))) (keepT lv s.t) || mentH (Nat.ble (max n (topOf (clos s.h 100000 (locsT (keepT lv s.t) ++ locsH (s.h.take n)) [])))) ((fadeH (clos s.h 100000 (locsT (keepT lv s.t) ++ locsH (s.h.take n)) []) n 0 s.h).take (max n (topOf (clos s.h 100000 (locsT (keepT lv s.t) ++ locsH (s.h.take n)) []))))) <;> rfl

theorem gc_sound {p : Nat → Bool} {cx0 cx : Cx} {w0 w : World} {lv : List Nat} {s : SS} {tm : Array Value} (hg : Gam cx s.h w) (ht : TRep cx w s.t tm) (gr : Grow p cx0 w0 cx w) :
    ∃ cx', Gam cx' (gc lv cx0.n s).h w ∧ TRep cx' w (gc lv cx0.n s).t tm ∧ Grow p cx0 w0 cx' w := by
  unfold gc
  dsimp only
  generalize clos s.h 100000 (locsT (keepT lv s.t) ++ locsH (s.h.take cx0.n)) [] = ks
  obtain ⟨f1, f2⟩ := @fadeH_spec ks cx0.n s.h 0
  have hg2 := hg.fade f1 f2
  generalize fadeH ks cx0.n 0 s.h = h2 at *
  generalize hn : max cx0.n (topOf ks) = n1
  cases hb : (mentT (Nat.ble n1) (keepT lv s.t) || mentH (Nat.ble n1) (h2.take n1)) with
  | true =>
    simp only [cond_true]
    exact ⟨cx, hg2, fun i x hx => ht i x (keepT_mem hx).2, gr⟩
  | false =>
    simp only [cond_false]
    rw [Bool.or_eq_false_iff] at hb
    refine ⟨{ cx with n := min n1 cx.n }, ⟨by simp [hg2.n], fun l => ?_, fun l hl => hg2.lt l (liv_take hl), fun l hl => hg2.own l (liv_take hl), fun l m hl hm => hg2.inj l m (liv_take hl) (liv_take hm), hg2.fzlt, hg2.dj⟩, fun i x hx => ?_, ⟨gr.fz, gr.same, gr.size, fun l hl hp => ?_, gr.fr, gr.io⟩⟩
    · have h1 := mentH_get hb.2 l
      rw [hget_take] at h1 ⊢
      split
      · rename_i h; rw [if_pos h] at h1; exact ORep.cut h1 (hg2.obj l)
      · trivial
    · have h2 := ht i x (keepT_mem hx).2
      exact ⟨h2.1, SRep.cut x _ (mentT_mem hb.1 i x hx) h2.2⟩
    · obtain ⟨h1, h2⟩ := gr.loc l hl hp
      exact ⟨by simp only; omega, h2⟩

theorem dropT_sub {d : Nat} : ∀ {t : List (Nat × SV)}, (dropT t d).Sublist t
  | [] => .slnil
  | (k, v) :: r => by
    simp only [dropT]
    cases Nat.beq k d with
    | true => exact List.sublist_cons_self _ _
    | false => exact (dropT_sub (t := r)).cons_cons _

theorem condT_uniq {A : Ann} {t : List (Nat × SV)} {n : Nat} {b : Bool} (hu : Uniq t) : Uniq (condT A t n b) := by
  unfold condT
  cases nmem n A.kc with
  | true => exact (stt_uniq hu).1
  | false => exact hu.sub dropT_sub

theorem condT_trep {A : Ann} {cx : Cx} {w : World} {t : List (Nat × SV)} {tm : Array Value} {n : Nat} {b : Bool} (hu : Uniq t) (ht : TRep cx w t tm) (hn : n < tm.size) (hv : SRep cx w (.d (.v (.bool b))) (tm.getD n undef)) : TRep cx w (condT A t n b) tm := by
  unfold condT
  cases nmem n A.kc with
  | true => exact TRep.stt hu ht hn hv
  | false => exact fun i x hx => ht i x (dropT_sub.mem hx)

/-- How an end of code looks to the machine. -/
def exitOf : SE → Exit
  | .norm => .normal
  | .exit id => .exit id
  | .ret => .ret

theorem exists_least {J : Nat → Prop} (h : ∃ n, J n) : ∃ n, J n ∧ ∀ m, m < n → ¬ J m := by
  obtain ⟨n, hn⟩ := h
  induction n using Nat.strongRecOn with
  | _ n ih =>
    by_cases hm : ∃ m, m < n ∧ J m
    · obtain ⟨m, h1, h2⟩ := hm; exact ih m h1 h2
    · exact ⟨n, hn, fun m h1 h2 => hm ⟨m, h1, h2⟩⟩

open Classical in
 noncomputable def leastOf (J : Nat → Prop) : Nat := if h : ∃ n, J n then Classical.choose (exists_least h) else 0

theorem leastOf_spec {J : Nat → Prop} (h : ∃ n, J n) : J (leastOf J) ∧ ∀ m, J m → leastOf J ≤ m := by
  have hs := Classical.choose_spec (exists_least h)
  have e : leastOf J = Classical.choose (exists_least h) := by unfold leastOf; rw [dif_pos h]
  rw [e]
  exact ⟨hs.1, fun m hm => by
    rcases Nat.lt_or_ge m (Classical.choose (exists_least h)) with h' | h'
    · exact absurd hm (hs.2 m h')
    · exact h'⟩

section
variable {P : Program} {A : Ann} {Ω : Type} {env : Env Ω} {out : Ω}

theorem sx_sound (he : EnvOK P env) (hmix : P.follows .mixedOrders = true) {nt : Nat} : ∀ (c : Code) (cc : CC) (id : Nat) (s : SS) (k : SE → SS → Option Ω), coC P nt c = some cc → sx env A cc id s k = some out →
    ∀ (Q : Exit → Act → World → Prop) (cx : Cx) (w : World) (a : Act), a.tmps.size = nt → Uniq s.t → Gam cx s.h w → TRep cx w s.t a.tmps →
    (∀ e s' cx' w' a', k e s' = some out → Frm a a' → Uniq s'.t → Grow A.p cx w cx' w' → Gam cx' s'.h w' → TRep cx' w' s'.t a'.tmps → Q (exitOf e) a' w') → c.wp P Q a w := by
  intro c
  induction c with
  | skip =>
    intro cc id s k hc h Q cx w a hsz hu hg ht hk
    simp only [coC, Option.some.injEq] at hc; subst hc
    simp only [sx] at h
    exact wp_skip (hk .norm s cx w a h (Frm.refl a) hu (Grow.refl _ _ _) hg ht)
  | region rid ops draw =>
    intro cc id s k hc h Q cx w a hsz hu hg ht hk
    simp only [coC] at hc
    split at hc
    · rename_i l hl
      obtain ⟨hap, hc⟩ := cond_some hc
      simp only [Option.some.injEq] at hc; subst hc
      simp only [sx] at h
      have fin : ∀ (cx' : Cx) (w' : World) (a' : Act) (s' : SS), k .norm ⟨keepT A.keep s'.t, s'.h⟩ = some out → Frm a a' → Uniq s'.t → Grow A.p cx w cx' w' → Gam cx' s'.h w' → TRep cx' w' s'.t a'.tmps → Q .normal a' w' := fun cx' w' a' s' h1 h2 h3 h4 h5 h6 =>
        hk .norm _ cx' w' a' h1 h2 (h3.sub keepT_sub) h4 h5 fun i x hx => h6 i x (keepT_mem hx).2
      cases draw with
      | true =>
        simp only [cond_true] at h
        exact sregD_sound he hmix hl (by simpa using hap) h hsz hu hg ht fin
      | false =>
        simp only [cond_false] at h
        exact wp_region_list (sreg_sound he rfl ops.toList [] l s hl h cx w a hsz hu hg ht fin)
    · simp at hc
  | seq x y ihx ihy =>
    intro cc id s k hc h Q cx w a hsz hu hg ht hk
    simp only [coC] at hc
    split at hc
    · rename_i x' y' hx hy
      simp only [Option.some.injEq] at hc; subst hc
      simp only [sx] at h
      refine wp_seq (ihx x' id s _ hx h _ cx w a hsz hu hg ht fun e s' cx' w' a' h1 h2 h3 h4 h5 h6 => ?_)
      cases e with
      | norm =>
        simp only [exitOf, Exit.then]
        exact ihy y' id s' k hy h1 Q cx' w' a' (h2.size.trans hsz) h3 h5 h6 fun e s2 cx2 w2 a2 k1 k2 k3 k4 k5 k6 => hk e s2 cx2 w2 a2 k1 (h2.trans k2) k3 (h4.trans k4) k5 k6
      | exit i => exact hk (.exit i) s' cx' w' a' h1 h2 h3 h4 h5 h6
      | ret => exact hk .ret s' cx' w' a' h1 h2 h3 h4 h5 h6
    · simp at hc
  | cond c x y ihx ihy =>
    intro cc id s k hc h Q cx w a hsz hu hg ht hk
    cases c with
    | tmp n =>
      simp only [coC] at hc
      split at hc
      · rename_i x' y' hx hy
        simp only [Option.some.injEq] at hc; subst hc
        simp only [sx] at h
        split at h
        · rename_i t hlt
          have hm := lk_mem (n := n) (t := s.t) (by rw [hlt]; simp)
          have h2 := (ht _ _ hm).2
          rw [hlt] at h2
          have h3 : a.eval (.tmp n) = .bool t := bool_of h2
          rcases br_some h with ⟨rfl, h⟩ | ⟨rfl, h⟩
          · exact wp_cond_true h3 (ihx x' id _ k hx h Q cx w a hsz (condT_uniq hu) hg (condT_trep hu ht (ht _ _ hm).1 h2) hk)
          · exact wp_cond_false h3 (ihy y' id _ k hy h Q cx w a hsz (condT_uniq hu) hg (condT_trep hu ht (ht _ _ hm).1 h2) hk)
        · simp at h
      · simp at hc
    | const _ => simp only [coC, Option.some.injEq] at hc; subst hc; simp [sx] at h
    | func _ => simp only [coC, Option.some.injEq] at hc; subst hc; simp [sx] at h
    | global _ => simp only [coC, Option.some.injEq] at hc; subst hc; simp [sx] at h
  | block bid x ihx =>
    intro cc id s k hc h Q cx w a hsz hu hg ht hk
    simp only [coC] at hc
    obtain ⟨x', hx, rfl⟩ := Option.map_eq_some_iff.1 hc
    simp only [sx] at h
    refine wp_block (ihx x' bid s _ hx h _ cx w a hsz hu hg ht fun e s' cx' w' a' h1 h2 h3 h4 h5 h6 => ?_)
    cases e with
    | norm => exact hk .norm s' cx' w' a' h1 h2 h3 h4 h5 h6
    | exit i =>
      simp only [exitOf, Exit.inBlock]
      cases hb : Nat.beq i bid with
      | true =>
        simp only [hb, cond_true] at h1
        rw [if_pos (nbeq.1 hb)]
        exact hk .norm s' cx' w' a' h1 h2 h3 h4 h5 h6
      | false =>
        simp only [hb, cond_false] at h1
        rw [if_neg (nbne.1 hb)]
        exact hk (.exit i) s' cx' w' a' h1 h2 h3 h4 h5 h6
    | ret => exact hk .ret s' cx' w' a' h1 h2 h3 h4 h5 h6
  | loop x ihx =>
    intro cc id s k hc h Q cx w a hsz hu hg ht hk
    simp only [coC] at hc
    obtain ⟨x', hx, rfl⟩ := Option.map_eq_some_iff.1 hc
    simp only [sx] at h
    rw [← hg.n] at h
    let J : Act → World → Nat → Prop := fun a' w' n => ∃ s' cx', iter (A.at id) cx.n (sx env A x' id) n s' k = some out ∧ Frm a a' ∧ Uniq s'.t ∧ Grow A.p cx w cx' w' ∧ Gam cx' s'.h w' ∧ TRep cx' w' s'.t a'.tmps
    obtain ⟨cx0, e1, e2, e3⟩ := gc_sound (lv := A.at id) hg ht (Grow.refl A.p cx w)
    refine wp_loop (fun a' w' => ∃ n, J a' w' n) (fun a' w' => leastOf (J a' w')) ⟨big, _, cx0, h, Frm.refl a, hu.sub (by rw [gc_t]; exact keepT_sub), e3, e1, e2⟩ fun a1 w1 hI => ?_
    obtain ⟨⟨s1, cx1, h1, h2, h3, h4, h5, h6⟩, hleast⟩ := leastOf_spec hI
    generalize hn : leastOf (J a1 w1) = n at *
    cases n with
    | zero => simp [iter] at h1
    | succ n =>
      simp only [iter] at h1
      refine ihx x' id s1 _ hx h1 _ cx1 w1 a1 (h2.size.trans hsz) h3 h5 h6 fun e s' cx' w' a' k1 k2 k3 k4 k5 k6 => ?_
      cases e with
      | norm =>
        simp only [exitOf, Exit.then]
        obtain ⟨cx2, g1, g2, g3⟩ := gc_sound (lv := A.at id) k5 k6 (h4.trans k4)
        have hJ : J a' w' n := ⟨_, cx2, k1, h2.trans k2, k3.sub (by rw [gc_t]; exact keepT_sub), g3, g1, g2⟩
        exact ⟨⟨n, hJ⟩, by have := (leastOf_spec ⟨n, hJ⟩).2 n hJ; omega⟩
      | exit i => exact hk (.exit i) s' cx' w' a' k1 (h2.trans k2) k3 (h4.trans k4) k5 k6
      | ret => exact hk .ret s' cx' w' a' k1 (h2.trans k2) k3 (h4.trans k4) k5 k6
  | exit i =>
    intro cc id s k hc h Q cx w a hsz hu hg ht hk
    simp only [coC, Option.some.injEq] at hc; subst hc
    simp only [sx] at h
    exact wp_exit (hk (.exit i) s cx w a h (Frm.refl a) hu (Grow.refl _ _ _) hg ht)
  | ret =>
    intro cc id s k hc h Q cx w a hsz hu hg ht hk
    simp only [coC, Option.some.injEq] at hc; subst hc
    simp only [sx] at h
    exact wp_ret (hk .ret s cx w a h (Frm.refl a) hu (Grow.refl _ _ _) hg ht)
  | rangeFunc _ _ _ _ => intro cc id s k hc h; simp only [coC, Option.some.injEq] at hc; subst hc; simp [sx] at h
  | scope _ => intro cc id s k hc h; simp only [coC, Option.some.injEq] at hc; subst hc; simp [sx] at h
  | label _ => intro cc id s k hc h; simp only [coC, Option.some.injEq] at hc; subst hc; simp [sx] at h
  | goto _ => intro cc id s k hc h; simp only [coC, Option.some.injEq] at hc; subst hc; simp [sx] at h
  | refuse _ => intro cc id s k hc h; simp only [coC, Option.some.injEq] at hc; subst hc; simp [sx] at h
end
end Go.Sx
