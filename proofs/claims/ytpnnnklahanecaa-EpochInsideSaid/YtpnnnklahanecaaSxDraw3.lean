/- Regions that draw their order, third part: every order does what the text's order does. -/
import Derived.Test.YtpnnnklahanecaaSxDraw2
namespace Go.Sx

def dstE (es : List En) (i : Nat) : Option Nat := (es[i]?).bind (·.c.dst)
def valE (es : List En) (i : Nat) : SV := match es[i]? with
  | some e => e.v
  | none => .top
def kdE (es : List En) (i : Nat) : Nat := match es[i]? with
  | some e => e.kd
  | none => 0
def ancE (es : List En) (i : Nat) : Nat := match es[i]? with
  | some e => e.c.anc
  | none => 0

def K (es : List En) (D : Nat → Bool) (f0 : Nat → SV) (b : Nat) : Nat → Nat → SV
  | 0, x => f0 x
  | m + 1, x => if D (b + m) = true ∧ dstE es (b + m) = some x then valE es (b + m) else K es D f0 b m x

section
variable {es : List En} {D D' : Nat → Bool} {f0 : Nat → SV} {b x : Nat}

theorem K_congr : ∀ m, (∀ i, i < m → dstE es (b + i) = some x → D (b + i) = D' (b + i)) → K es D f0 b m x = K es D' f0 b m x
  | 0, _ => rfl
  | m + 1, h => by
    simp only [K]
    by_cases hd : dstE es (b + m) = some x
    · rw [h m (by omega) hd, K_congr m fun i hi => h i (by omega)]
    · simp only [hd, and_false, if_false]
      exact K_congr m fun i hi => h i (by omega)

theorem K_skip {m : Nat} : ∀ k, (∀ i, m ≤ i → i < m + k → dstE es (b + i) = some x → D (b + i) = false) → K es D f0 b (m + k) x = K es D f0 b m x
  | 0, _ => rfl
  | k + 1, h => by
    rw [← Nat.add_assoc]
    simp only [K]
    rw [if_neg (fun ⟨h1, h2⟩ => by rw [h (m + k) (by omega) (by omega) h2] at h1; cases h1)]
    exact K_skip k fun i h1 h2 => h i h1 (by omega)
end

section
variable {P : Program} {A : Ann} {nt : Nat} {ops : Array Oper} {cs : List CR} {s : SS} {es : List En} {sf : SS}

theorem Trc.get (T : Trc P A nt ops.toList [] ops.toList cs s es sf) {i : Nat} (hi : i < es.length) : ∃ o e, ops[i]? = some o ∧ es[i]? = some e ∧ EnOK P A nt o i e ∧ GuardOK ops.toList o e.c ∧ cs[i]? = some e.c ∧
    e.c.anc = ancOf ((es.take i).map (·.c.anc)) o ∧ (∀ x ∈ o.after, Region.binds .any x = true → x.on < i) ∧ (∀ d, o.dst = some d → d < nt) := by
  have hl : i < ops.toList.length := by rw [← T.len]; exact hi
  have h1 : ops[i]? = some (ops.toList[i]) := by rw [← Array.getElem?_toList]; exact List.getElem?_eq_getElem hl
  have h2 : es[i]? = some es[i] := List.getElem?_eq_getElem hi
  have := T.ok i _ _ (List.getElem?_eq_getElem hl) h2
  simp only [List.length_nil, Nat.zero_add, List.nil_append] at this
  exact ⟨_, _, h1, h2, this⟩

theorem stA_some {i : Nat} {e : En} (h : es[i]? = some e) : stA es sf i = e.s := by simp [stA, h]

theorem st_step (T : Trc P A nt ops.toList [] ops.toList cs s es sf) {i : Nat} {e : En} (he : es[i]? = some e) (hk : e.kd ≠ 3) (x : Nat) : lk (stA es sf (i + 1)).t x = if e.c.dst = some x then e.v else lk (stA es sf i).t x := by
  obtain ⟨o, e', h1, h2, hok, _⟩ := T.get (List.getElem?_eq_some_iff.1 he).1
  rw [he] at h2; simp only [Option.some.injEq] at h2; subst h2
  rw [(T.link i e he).1 x, stA_some he]
  have : e.s'.t = putD e.c.dst e.v e.s.t := by
    rcases hok.kind with ⟨_, _, h3, _, h4⟩ | ⟨_, _, h4, _⟩ | ⟨_, _, h4, _⟩ | ⟨h3, _⟩
    · rw [h4, h3]
    · rw [h4]
    · exact h4
    · exact absurd h3 hk
  rw [this, lk_putD hok.uniq]

theorem K_seq (T : Trc P A nt ops.toList [] ops.toList cs s es sf) {b x : Nat} : ∀ m, (∀ i, i < m → kdE es (b + i) ≠ 3) → b + m ≤ es.length → K es (fun _ => true) (lk (stA es sf b).t) b m x = lk (stA es sf (b + m)).t x
  | 0, _, _ => rfl
  | m + 1, h, hl => by
    have hi : b + m < es.length := by omega
    have he : es[b + m]? = some es[b + m] := List.getElem?_eq_getElem hi
    have hk := h m (by omega)
    simp only [kdE, he] at hk
    rw [← Nat.add_assoc, st_step T he hk]
    simp only [K, true_and, dstE, valE, he, Option.bind_some]
    rw [K_seq T m (fun i hi => h i (by omega)) (by omega)]

theorem heap_step (T : Trc P A nt ops.toList [] ops.toList cs s es sf) {i l : Nat} {e : En} (he : es[i]? = some e) (hk : e.kd ≠ 3) (hl : e.kd = 2 → l ∉ e.ls) (hlt : l < (stA es sf i).h.length) :
    hget (stA es sf (i + 1)).h l = hget (stA es sf i).h l ∧ l < (stA es sf (i + 1)).h.length := by
  obtain ⟨o, e', h1, h2, hok, _⟩ := T.get (List.getElem?_eq_some_iff.1 he).1
  rw [he] at h2; simp only [Option.some.injEq] at h2; subst h2
  rw [(T.link i e he).2]
  rw [stA_some he] at hlt ⊢
  rcases hok.kind with ⟨_, _, _, _, h4⟩ | ⟨_, _, h4, _⟩ | ⟨h3, _, _, h4, _⟩ | ⟨h3, _⟩
  · rw [h4]; exact ⟨rfl, hlt⟩
  · rw [h4]; exact ⟨rfl, hlt⟩
  · exact ⟨h4.2 l hlt (nmem_iff.2 (hl h3)), Nat.lt_of_lt_of_le hlt h4.1⟩
  · exact absurd h3 hk

theorem heap_fwd (T : Trc P A nt ops.toList [] ops.toList cs s es sf) {p l : Nat} (hlt : l < (stA es sf p).h.length) : ∀ k, p + k ≤ es.length → (∀ i e, p ≤ i → i < p + k → es[i]? = some e → e.kd ≠ 3 ∧ (e.kd = 2 → l ∉ e.ls)) →
    hget (stA es sf (p + k)).h l = hget (stA es sf p).h l ∧ l < (stA es sf (p + k)).h.length
  | 0, _, _ => ⟨rfl, hlt⟩
  | k + 1, hk, h => by
    obtain ⟨h1, h2⟩ := heap_fwd T hlt k (by omega) fun i e a b => h i e a (by omega)
    have he : es[p + k]? = some es[p + k] := List.getElem?_eq_getElem (by omega)
    obtain ⟨h3, h4⟩ := h (p + k) _ (by omega) (by omega) he
    obtain ⟨h5, h6⟩ := heap_step T he h3 h4 h2
    exact ⟨by rw [← Nat.add_assoc, h5, h1], h6⟩

theorem heap_const (T : Trc P A nt ops.toList [] ops.toList cs s es sf) {p : Nat} : ∀ k, p + k ≤ es.length → (∀ i, p ≤ i → i < p + k → kdE es i < 2) → (stA es sf (p + k)).h = (stA es sf p).h
  | 0, _, _ => rfl
  | k + 1, hk, h => by
    have he : es[p + k]? = some es[p + k] := List.getElem?_eq_getElem (by omega)
    have h1 := h (p + k) (by omega) (by omega)
    simp only [kdE, he] at h1
    obtain ⟨o, e', _, h2, hok, _⟩ := T.get (i := p + k) (by omega)
    rw [he] at h2; simp only [Option.some.injEq] at h2; subst h2
    rw [← Nat.add_assoc, (T.link _ _ he).2, ← heap_const T k (by omega) fun i a b => h i a (by omega), stA_some he]
    rcases hok.kind with ⟨_, _, _, _, h4⟩ | ⟨_, _, h4, _⟩ | ⟨h3, _, _, h4, _⟩ | ⟨h3, _⟩
    · rw [h4]
    · rw [h4]
    · omega
    · omega

def Good (cx : Cx) (w : World) (tm : Array Value) (x : Nat) (v : SV) : Prop := v = .top ∨ (x < tm.size ∧ SRep cx w v (tm.getD x undef))

theorem Good.grow {cx cx' : Cx} {w w' : World} {tm : Array Value} {x : Nat} {v : SV} (g : Grow0 cx w cx' w') (h : Good cx w tm x v) : Good cx' w' tm x v := h.imp id fun ⟨a, b⟩ => ⟨a, b.grow g⟩

structure Inv (nt : Nat) (es : List En) (sf : SS) (D : Nat → Bool) (cx : Cx) (w : World) (tm : Array Value) (b p : Nat) : Prop where
  ble : b ≤ es.length
  ple : p ≤ es.length
  low : ∀ i, i < b → D i = true
  piv : ∀ i, b ≤ i → D i = true → kdE es i ≠ 3
  eff : ∀ i, i < es.length → 2 ≤ kdE es i → (D i = true ↔ i < p)
  clo : ∀ i, D i = true → ∀ x, Nat.testBit (ancE es i) x = true → D x = true
  gam : Gam cx (stA es sf p).h w
  tmp : ∀ x, Good cx w tm x (K es D (lk (stA es sf b).t) b (es.length - b) x)
  size : tm.size = nt

theorem ancOf_bit {acc : List Nat} {o : Oper} {x : Nat} (h : Nat.testBit (ancOf acc o) x = true) : ∃ e ∈ o.after, Region.binds .any e = true ∧ (x = e.on ∨ Nat.testBit (acc.getD e.on 0) x = true) := by
  unfold ancOf at h
  have : ∀ (l : List Edge) (s : Nat), Nat.testBit (l.foldl (fun s e => bif Region.binds .any e then s ||| (2 ^ e.on ||| acc.getD e.on 0) else s) s) x = true → Nat.testBit s x = true ∨ ∃ e ∈ l, Region.binds .any e = true ∧ (x = e.on ∨ Nat.testBit (acc.getD e.on 0) x = true) := by
    intro l
    induction l with
    | nil => intro s h; exact .inl h
    | cons e r ih =>
      intro s h
      simp only [List.foldl_cons] at h
      rcases ih _ h with h | ⟨e', h1, h2⟩
      · cases hb : Region.binds .any e with
        | true =>
          rw [hb] at h
          simp only [cond_true, Nat.testBit_or, Bool.or_eq_true] at h
          rcases h with h | h | h
          · exact .inl h
          · refine .inr ⟨e, by simp, hb, .inl ?_⟩
            rw [Nat.testBit_two_pow] at h
            simpa [eq_comm] using h
          · exact .inr ⟨e, by simp, hb, .inr h⟩
        | false => rw [hb] at h; exact .inl h
      · exact .inr ⟨e', by simp [h1], h2⟩
  rcases this _ _ h with h | ⟨e, h1, h2⟩
  · simp at h
  · exact ⟨e, by simpa using h1, h2⟩

theorem apart_of {i : Nat} {x o : CR} : ∀ {rev : List CR} {n : Nat}, apartTo o rev n = true → rev.length = n → i < n → rev[n - 1 - i]? = some x → Nat.testBit o.anc i = true ∨ apart x o = true
  | [], n, _, hl, hi, _ => by simp at hl; omega
  | y :: r, n, h, hl, hi, hx => by
    simp only [apartTo, Bool.and_eq_true] at h
    by_cases he : i = n - 1
    · subst he
      simp at hx; subst hx
      simpa using h.1
    · obtain ⟨q, hq⟩ : ∃ q, n - 1 - i = q + 1 := ⟨n - 1 - i - 1, by omega⟩
      rw [hq] at hx
      simp only [List.getElem?_cons_succ] at hx
      refine apart_of (rev := r) (n := n - 1) h.2 (by simp at hl; omega) (by omega) ?_
      rw [show n - 1 - 1 - i = q by omega]; exact hx

theorem apartAll_of {i j : Nat} {x y : CR} : ∀ {l rev : List CR} {n : Nat}, apartAll l rev n = true → rev.length = n → i < j → (rev.reverse ++ l)[i]? = some x → (rev.reverse ++ l)[j]? = some y → n ≤ j → Nat.testBit y.anc i = true ∨ apart x y = true
  | [], rev, n, _, hl, hij, _, hy, hn => by
    have := (List.getElem?_eq_some_iff.1 hy).1
    simp at this; omega
  | o :: r, rev, n, h, hl, hij, hx, hy, hn => by
    simp only [apartAll, Bool.and_eq_true] at h
    by_cases he : j = n
    · subst he
      have hy' : y = o := by
        rw [List.getElem?_append_right (by simp; omega)] at hy
        simp [hl] at hy; exact hy.symm
      subst hy'
      refine apart_of h.1 hl hij ?_
      rw [List.getElem?_append_left (by simp; omega), List.getElem?_reverse (by omega)] at hx
      rw [← hl]; exact hx
    · refine apartAll_of (l := r) (rev := o :: rev) (n := n + 1) h.2 (by simp [hl]) hij ?_ ?_ (by omega)
      · simpa using hx
      · simpa using hy
end
end Go.Sx
