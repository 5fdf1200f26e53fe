/- EpochHolds: the law answers true on symbolic arguments. -/
import Derived.Test.YtpnnnklahanecaaQ21
import Derived.Test.YtpnnnklahanecaaE3
set_option linter.unusedVariables false
set_option linter.unusedSimpArgs false
namespace Go.Sx.Pr
open Go Go.Sx Go.Sx.Md Go.Proofs
set_option maxRecDepth 100000

theorem lkD_out {l : List DV} {j : Nat} (h : l.length ≤ j) : lkD l j = .v undef := by
  unfold lkD
  rw [List.getD_eq_getElem?_getD, List.getElem?_eq_none h]; rfl
theorem rowW_upd {a : Nat → Wk} {w : Nat} {x : Wk} : updRow (rowW a) w 0 (List.map dv (encW x)) = rowW (upd a w x) := by
  funext i j
  have hl : ∀ y : Wk, (List.map dv (encW y)).length = 33 := fun _ => rfl
  unfold updRow
  rw [hl]
  by_cases e : i = w
  · subst e
    rw [show Nat.beq i i = true from Nat.beq_refl i, show Nat.ble 0 j = true from Nat.ble_eq_true_of_le (Nat.zero_le j)]
    simp only [rowW, upd_same, Bool.true_and]
    by_cases hj : j < 33
    · rw [show Nat.blt j (0 + 33) = true from Nat.ble_eq_true_of_le (by omega)]; rfl
    · rw [show Nat.blt j (0 + 33) = false by
        cases h : Nat.blt j (0 + 33) with
        | false => rfl
        | true => exact absurd (Nat.le_of_ble_eq_true h) (by omega)]
      rw [cond_false, lkD_out (by rw [hl]; omega), lkD_out (by rw [hl]; omega)]
  · rw [show Nat.beq i w = false by
      cases h : Nat.beq i w with
      | false => rfl
      | true => exact absurd (Nat.eq_of_beq_eq_true h) e]
    simp only [Bool.false_and, cond_false, rowW, upd_ne e]
theorem rowB_upd {s : Nat → Bool} {w : Nat} {b : Bool} : updRow (rowB s) w 0 [.v (.bool b)] = rowB (upd s w b) := by
  funext i j
  unfold updRow
  by_cases e : i = w
  · subst e
    rw [show Nat.beq i i = true from Nat.beq_refl i, show Nat.ble 0 j = true from Nat.ble_eq_true_of_le (Nat.zero_le j)]
    simp only [rowB, upd_same, Bool.true_and]
    cases j with
    | zero => rfl
    | succ j =>
      rw [show Nat.blt (j + 1) (0 + [DV.v (Value.bool b)].length) = false by
        cases h : Nat.blt (j + 1) (0 + [DV.v (Value.bool b)].length) with
        | false => rfl
        | true => exact absurd (Nat.le_of_ble_eq_true h) (by simp)]
      rw [cond_false, lkD_out (by simp), lkD_out (by simp)]
  · rw [show Nat.beq i w = false by
      cases h : Nat.beq i w with
      | false => rfl
      | true => exact absurd (Nat.eq_of_beq_eq_true h) e]
    simp only [Bool.false_and, cond_false, rowB, upd_ne e]

abbrev TO (c : Cf) (n : Nat) (m : Mm) (ps : List Int) (a : Nat → Wk) (s : Nat → Bool) (i : Int) : SS := ⟨[(1, .d (.ints .u8 ps)), (5, .ptr 0 0), (6, .ptr 8 0), (8, .own 9), (9, .own 10), (10, I i)], [.cells 24 (encC c), .dead, .dead, .dead, .dead, .dead, .dead, .rowi 22 .u64 m.ws, .cells 51 (memC m.c m.s 7), .row 73 33 n (rowW a), .row 4 1 n (rowB s)]⟩
abbrev TI (c : Cf) (n : Nat) (m : Mm) (ps : List Int) (a : Nat → Wk) (s : Nat → Bool) (i k now : Int) (x0 y0 : Wk) : SS := ⟨[(1, .d (.ints .u8 ps)), (5, .ptr 0 0), (6, .ptr 8 0), (8, .own 9), (9, .own 10), (10, I i), (16, U now), (17, I k)], [.cells 24 (encC c), .dead, .dead, .dead, .dead, .dead, .dead, .rowi 22 .u64 m.ws, .cells 51 (memC m.c m.s 7), .row 73 33 n (rowW a), .row 4 1 n (rowB s), .cells 73 (encW x0), .cells 73 (encW y0)]⟩

theorem inB_of {k n : Nat} (h : k < n) : inB (k : Int) n = true := by
  simp only [inB, Bool.and_eq_true, decide_eq_true_eq]; omega

section
variable {c : Cf} {n : Nat} {m : Mm} {ps : List Int} {a : Nat → Wk} {s : Nat → Bool} {i now : Int} {x0 y0 : Wk}
theorem inner11 {K : SE → SS → Option (SV × SH)} (hn : c.a = n) (hn8 : n ≤ 1000) (hh : ∀ k, k < n → s k = true → now = (a k).E ∨ now = wU ((a k).E + 1)) : ∀ (r k N : Nat), k + r = n → r < N →
    iter [1, 5, 6, 8, 9, 10, 16, 17] 13 (sxI itB E11 A11 L11_6 2) N (TI c n m ps a s i (k : Int) now x0 y0) (kblk 2 (kblk 1 K)) = K .norm (TI c n m ps a s i (n : Int) now x0 y0)
  | 0, k, N, hk, hN => by
    obtain ⟨N, rfl⟩ : ∃ q, N = q + 1 := ⟨N - 1, by omega⟩
    have : k = n := by omega
    subst this
    rw [iter_succ, nL22, decide_eq_false (by omega), br_f]
  | r + 1, k, N, hk, hN => by
    obtain ⟨N, rfl⟩ : ∃ q, N = q + 1 := ⟨N - 1, by omega⟩
    have ih := inner11 (K := K) hn hn8 hh r (k + 1) N (by omega) (by omega)
    rw [show ((k + 1 : Nat) : Int) = (k : Int) + 1 by push_cast; rfl] at ih
    rw [iter_succ, nL22, decide_eq_true (by omega), br_t, inB_of (by omega), br_t, br_t, br_t, Int.toNat_natCast, w64_id (x := (k : Int) + 1) (by omega) (by omega)]
    cases hs : s k with
    | false => rw [br_f]; exact ih
    | true =>
      rw [br_t]
      rcases hh k (by omega) hs with h | h
      · rw [show (!now == (a k).E) = false by simp [h], br_f]; exact ih
      · cases h1 : (!now == (a k).E) with
        | false => rw [br_f]; exact ih
        | true => rw [br_t, show (!now == wU ((a k).E + 1)) = false by simp [h], br_f]; exact ih

theorem leaf11 {IT : SS → Option (SV × SH)} (hn : c.a = n) (hn8 : n ≤ 1000) (h0 : 0 ≤ i) (h1 : i ≤ 100000) (hh : ∀ k, k < n → s k = true → now = (a k).E ∨ now = wU ((a k).E + 1)) :
    itB [1, 5, 6, 8, 9, 10, 16, 17] 13 (sxI itB E11 A11 L11_6 2) (TI c n m ps a s i 0 now x0 y0) (Z11_6 itB (kitV [1, 5, 6, 8, 9, 10] 11 IT (Z11_18 itB KS))) = IT (TO c n m ps a s (i + 1)) := by
  rw [itB_def]
  have := inner11 (m := m) (ps := ps) (i := i) (x0 := x0) (y0 := y0) (K := kseq itB E11 A11 K11_2 0 (kitV [1, 5, 6, 8, 9, 10] 11 IT (Z11_18 itB KS))) hn hn8 hh n 0 big (by omega) (by unfold big; omega)
  refine Eq.trans this ?_
  rw [nL23, w64_id (x := i + 1) (by omega) (by omega)]
end

/-- What the round keeps. -/
structure I11 (n : Nat) (m : Mm) (a : Nat → Wk) (s : Nat → Bool) (z : Int) : Prop where
  e : EI n m a s z
  m : okM m = true
  w : ∀ k, k < n → okW (a k) = true

theorem okW_ln11 {x : Wk} {q : Int} (h : okW x = true) : okW { x with line := q } = true := h

theorem round11 {c : Cf} {n : Nat} {m : Mm} {ps : List Int} {a : Nat → Wk} {s : Nat → Bool} {i : Int} (hn : c.a = n) (hn0 : 0 < n) (hn8 : n ≤ 8) (hp : ∀ x, x ∈ ps → 0 ≤ x ∧ x ≤ 255) (hi0 : 0 ≤ i) (hi : i < ps.length) (hi1 : i ≤ 1000) (h : I11 n m a s (2 + i)) :
    ∃ m' a' s', I11 n m' a' s' (2 + (i + 1)) ∧ ∀ IT : SS → Option (SV × SH), sxI itB E11 A11 L11_18 0 (TO c n m ps a s i) (kitV [1, 5, 6, 8, 9, 10] 11 IT (Z11_18 itB KS)) = IT (TO c n m' ps a' s' (i + 1)) := by
  have hin : inB i ps.length = true := by simp only [inB, Bool.and_eq_true, decide_eq_true_eq]; omega
  have hP : 0 ≤ ps.getD i.toNat 0 ∧ ps.getD i.toNat 0 ≤ 255 := by
    rw [List.getD_eq_getElem?_getD]
    cases hx : ps[i.toNat]? with
    | none => simp
    | some v => exact hp v (List.mem_of_getElem? hx)
  have hPw : w64' (ps.getD i.toNat 0) = ps.getD i.toNat 0 := w64_id (by omega) (by omega)
  have hc0 : (Cf.a c == 0) = false := by rw [hn]; simp; omega
  obtain ⟨w, hwI⟩ : ∃ w : Nat, Int.tmod (w64' (ps.getD i.toNat 0)) (Cf.a c) = w := ⟨_, (Int.toNat_of_nonneg (by rw [hPw]; exact Int.tmod_nonneg _ hP.1)).symm⟩
  have hw : w < n := by
    have := Int.tmod_lt_of_pos (w64' (ps.getD i.toNat 0)) (b := Cf.a c) (by omega)
    omega
  have hinW := inB_of hw
  have go : ∀ x, Beg (a w) (s w) x → okW x = true → I11 n (stepE w m x).m (upd a w (stepE w m x).x) (eS2 (stepE w m x) x w s) (2 + (i + 1)) ∧ (stepE w m x).ok = true := fun x hb hx => by
    obtain ⟨q1, q2⟩ := pickE h.e (by omega) hw (by omega) hb
    obtain ⟨p1, p2, _⟩ := presE (w := w) h.m hx
    rw [show 2 + (i + 1) = 2 + i + 1 by omega]
    exact ⟨⟨q2, p1, fun k hk => by
      by_cases e : k = w
      · subst e; rw [upd_same]; exact p2
      · rw [upd_ne e]; exact h.w k hk⟩, q1⟩
  have fin : ∀ (IT : SS → Option (SV × SH)) (x x0 : Wk) (s' : Nat → Bool), Beg (a w) (s w) x → okW x = true → eS2 (stepE w m x) x w s = s' →
      itB [1, 5, 6, 8, 9, 10, 16, 17] 13 (sxI itB E11 A11 L11_6 2) (TI c n (stepE w m x).m ps (upd a w (stepE w m x).x) s' i 0 (mLoadV (stepE w m x).m 0) x0 (stepE w m x).x) (Z11_6 itB (kitV [1, 5, 6, 8, 9, 10] 11 IT (Z11_18 itB KS))) = IT (TO c n (stepE w m x).m ps (upd a w (stepE w m x).x) (eS2 (stepE w m x) x w s) (i + 1)) := fun IT x x0 s' hb hx hs => by
    subst hs
    obtain ⟨g1, g2⟩ := go x hb hx
    exact leaf11 hn (by omega) hi0 (by omega) fun k hk hsk => g1.e.holds (by omega) hk hsk
  have hx := h.w w hw
  cases hl : (Wk.line (a w) == 0) with
  | true =>
    have hl0 : (a w).line = 0 := by simpa using hl
    cases hq : (!Int.tmod (w64' (Int.tdiv (w64' (List.getD ps (Int.toNat i) 0)) 8)) 3 == 0) with
    | true =>
      cases hs : s w with
      | true =>
        have hb : Beg (a w) (s w) { a w with line := 90 } := .inr ⟨hl0, .inr (.inr ⟨rfl, hs⟩)⟩
        refine ⟨_, _, _, (go _ hb (okW_ln11 hx)).1, fun IT => ?_⟩
        rw [nL21, decide_eq_true hi, hin, hc0, hwI, hinW, Int.toNat_natCast, hl, hq, hs, h.m, okW_ln11 (q := 90) hx]
        simp only [br_t, br_f, Bool.and_self, rowW_upd, rowB_upd]
        exact fin IT _ _ (upd s w false) hb (okW_ln11 hx) (by simp [eS2, eS1])
      | false =>
        have hb : Beg (a w) (s w) { a w with line := 1 } := .inr ⟨hl0, .inr (.inl ⟨rfl, hs⟩)⟩
        refine ⟨_, _, _, (go _ hb (okW_ln11 hx)).1, fun IT => ?_⟩
        rw [nL21, decide_eq_true hi, hin, hc0, hwI, hinW, Int.toNat_natCast, hl, hq, hs, h.m, okW_ln11 (q := 1) hx]
        simp only [br_t, br_f, Bool.and_self, rowW_upd, rowB_upd]
        exact fin IT _ _ s hb (okW_ln11 hx) (by simp [eS2, eS1])
    | false =>
      have hb : Beg (a w) (s w) { a w with line := 70 } := .inr ⟨hl0, .inl rfl⟩
      refine ⟨_, _, _, (go _ hb (okW_ln11 hx)).1, fun IT => ?_⟩
      rw [nL21, decide_eq_true hi, hin, hc0, hwI, hinW, Int.toNat_natCast, hl, hq, h.m, okW_ln11 (q := 70) hx]
      simp only [br_t, br_f, Bool.and_self, rowW_upd, rowB_upd]
      exact fin IT _ _ s hb (okW_ln11 hx) (by simp [eS2, eS1])
  | false =>
    have hl0 : (a w).line ≠ 0 := by simpa using hl
    have hb : Beg (a w) (s w) (a w) := .inl ⟨rfl, hl0⟩
    obtain ⟨g1, g2⟩ := go _ hb hx
    have h90 : (Wk.line (a w) == 90) = false := by
      have := (h.e.wk w hw).ln
      simp; omega
    refine ⟨_, _, _, g1, fun IT => ?_⟩
    rw [nL21, decide_eq_true hi, hin, hc0, hwI, hinW, Int.toNat_natCast, hl, h90, h.m, hx, g2]
    simp only [br_t, br_f, Bool.and_self, Bool.not_true, rowW_upd, rowB_upd]
    have e1 : eS1 (a w) w s = s := by
      have : (a w).line ≠ 90 := by simpa using h90
      simp [eS1, this]
    cases hy : (SR.way (stepE (w : Int) m (a w)) == 1) with
    | false =>
      rw [br_f]
      have e2 : eS2 (stepE (w : Int) m (a w)) (a w) w s = s := by
        have : ¬ SR.way (stepE (w : Int) m (a w)) = 1 := by simpa using hy
        simp [eS2, e1, this]
      exact fin IT _ _ s hb hx e2
    | true =>
      have hy' : SR.way (stepE (w : Int) m (a w)) = 1 := by simpa using hy
      rw [br_t]
      cases h3 : (Wk.line (a w) == 3) with
      | false =>
        rw [br_f]
        have e2 : eS2 (stepE (w : Int) m (a w)) (a w) w s = s := by
          have : ¬ (a w).line = 3 := by simpa using h3
          simp [eS2, e1, this]
        exact fin IT _ _ s hb hx e2
      | true =>
        rw [br_t]
        have e2 : eS2 (stepE (w : Int) m (a w)) (a w) w s = upd s w true := by
          have : (a w).line = 3 := by simpa using h3
          simp [eS2, e1, this, hy']
        exact fin IT _ _ (upd s w true) hb hx e2

theorem loop11 {c : Cf} {n : Nat} {ps : List Int} (hn : c.a = n) (hn0 : 0 < n) (hn8 : n ≤ 8) (hp : ∀ x, x ∈ ps → 0 ≤ x ∧ x ≤ 255) (hl : ps.length ≤ 800) : ∀ (r i N : Nat) (m : Mm) (a : Nat → Wk) (s : Nat → Bool), i + r = ps.length → r < N → I11 n m a s (2 + (i : Int)) →
    Tru (iter [1, 5, 6, 8, 9, 10] 11 (sxI itB E11 A11 L11_18 0) N (TO c n m ps a s (i : Int)) (Z11_18 itB KS))
  | 0, i, N, m, a, s, hr, hN, h => by
    obtain ⟨N, rfl⟩ : ∃ q, N = q + 1 := ⟨N - 1, by omega⟩
    rw [iter_succ, nL21, decide_eq_false (by omega), br_f]
    exact tru_ret
  | r + 1, i, N, m, a, s, hr, hN, h => by
    obtain ⟨N, rfl⟩ : ∃ q, N = q + 1 := ⟨N - 1, by omega⟩
    obtain ⟨m', a', s', h1, h2⟩ := round11 (c := c) hn hn0 hn8 hp (i := (i : Int)) (by omega) (by omega) (by omega) h
    rw [iter_succ, h2]
    have := loop11 (c := c) hn hn0 hn8 hp hl r (i + 1) N m' a' s' (by omega) (by omega) (by rw [show ((i + 1 : Nat) : Int) = (i : Int) + 1 by push_cast; rfl]; exact h1)
    rw [show ((i + 1 : Nat) : Int) = (i : Int) + 1 by push_cast; rfl] at this
    exact this
end Go.Sx.Pr
