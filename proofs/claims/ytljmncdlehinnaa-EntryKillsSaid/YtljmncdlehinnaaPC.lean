/- EntryKills: a pick. -/
import Derived.Test.YtljmncdlehinnaaE1
import Derived.Test.YtljmncdlehinnaaE1
import Derived.Test.YtljmncdlehinnaaR14
import Derived.KernelRfl
import Derived.Test.YtljmncdlehinnaaPA
import Derived.Test.YtljmncdlehinnaaR10
set_option linter.all false
set_option linter.unusedVariables false
set_option linter.unusedSimpArgs false
set_option linter.unnecessarySimpa false
namespace Go.Sx.Pr
open Go Go.Sx Go.Sx.Md Go.Proofs
set_option maxRecDepth 100000
theorem lkD_out6 {l : List DV} {j : Nat} (h : l.length ≤ j) : lkD l j = .v undef := by
  unfold lkD
  rw [List.getD_eq_getElem?_getD, List.getElem?_eq_none h]; rfl
theorem rowW_upd6 {a : Nat → Wk} {w : Nat} {x : Wk} : updRow (rowW a) w 0 (List.map dv (encW x)) = rowW (upd a w x) := by
  funext i j
  have hl : ∀ y : Wk, (List.map dv (encW y)).length = 33 := fun _ => rfl
  unfold updRow
  rw [hl]
  by_cases e : i = w
  · subst e
    rw [show Nat.beq i i = true from Nat.beq_refl i, show Nat.ble 0 j = true from Nat.ble_eq_true_of_le (Nat.zero_le j)]
    simp only [rowW, upd_same, Bool.true_and]
    by_cases hj : j < 33
    · rw [show Nat.blt j (0 + 33) = true from Nat.ble_eq_true_of_le (by omega)]; rfl
    · rw [show Nat.blt j (0 + 33) = false by
        cases h : Nat.blt j (0 + 33) with
        | false => rfl
        | true => exact absurd (Nat.le_of_ble_eq_true h) (by omega)]
      rw [cond_false, lkD_out6 (by rw [hl]; omega), lkD_out6 (by rw [hl]; omega)]
  · rw [show Nat.beq i w = false by
      cases h : Nat.beq i w with
      | false => rfl
      | true => exact absurd (Nat.eq_of_beq_eq_true h) e]
    simp only [Bool.false_and, cond_false, rowW, upd_ne e]

/-- What the rounds keep. -/
structure I6 (c : Cf) (t W0 : Int) (n : Nat) (m : Mm) (a : Nat → Wk) (got : Int) (dead : Bool) : Prop where
  M : KM c t W0 m dead
  w : ∀ k, k < n → WI t W0 dead (mLoadV m (adr c 3 0) / 1048576 ≠ 1) (a k)
  ok : ∀ k, k < n → okW (a k) = true
  g : got = bif dead then 1 else 0

theorem WI.mono {t W0 : Int} {d d' : Bool} {g g' : Prop} {x : Wk} (h : WI t W0 d g x) (h1 : d = true → d' = true) (h2 : d = true → g → g') : WI t W0 d' g' x := by
  rcases h with q | q | q | ⟨q1, q2, q3⟩
  · exact .inl q
  · exact .inr (.inl q)
  · exact .inr (.inr (.inl q))
  · exact .inr (.inr (.inr ⟨h1 q1, h2 q1 q2, q3⟩))
theorem okW_wk0 : okW wk0 = true := by decide
theorem okW_sw {was way got : Int} {dead : Bool} {tk : Int} {y : Wk} {g' : Int} {d' : Bool} {y' : Wk} (h : sw6 was way got dead tk y = some (g', d', y')) (hy : okW y = true) (ht : uB tk = true) : okW y' = true := by
  unfold sw6 at h
  have hb : okW { wk0 with line := 20, B := 3, T := tk } = true := by simp only [okW, wk0, uB_zero, ht, Bool.and_self]
  cases h1 : ((was == 43) && (way == 1)) with
  | true =>
    rw [h1, cond_true] at h
    cases h9 : decide (y.I > 0) <;> rw [h9] at h <;> cases h <;> exact hy
  | false =>
    rw [h1, cond_false] at h
    cases h2 : ((was == 42) && (way == 1)) with
    | true => rw [h2, cond_true] at h; cases dead <;> cases h; exact hy
    | false =>
      rw [h2, cond_false] at h
      cases h3 : ((was == 25) && (way == 1)) with
      | true => rw [h3, cond_true] at h; cases h; exact hb
      | false =>
        rw [h3, cond_false] at h
        cases h4 : (was == 41) with
        | true =>
          rw [h4, cond_true] at h
          cases h5 : (y.T == tk) <;> rw [h5] at h <;> cases h
          exact okW_wk0
        | false =>
          rw [h4, cond_false] at h
          cases h6 : (way == 2) <;> rw [h6] at h <;> cases h
          · exact hy
          · exact okW_wk0

theorem kround {c : Cf} {t W0 got : Int} {n : Nat} {m : Mm} {ps : List Int} {a : Nat → Wk} {i : Int} {dead : Bool} {x : Wk} (hn : c.a = n) (hn0 : 0 < n) (hn8 : n ≤ 8) (hp : ∀ v, v ∈ ps → 0 ≤ v ∧ v ≤ 255) (hi0 : 0 ≤ i) (hi : i < ps.length) (hi1 : i ≤ 1000) (ht : uB t = true) (hW : uB W0 = true) (h : I6 c t W0 n m a got dead) :
    ∃ m' a' g' d', I6 c t W0 n m' a' g' d' ∧ ∀ IT : SS → Option (SV × SH), sxI itB E1006 A1006 L1006_15 4 (TO6 ps t i got dead (H6 c x n m a)) (kitV [2, 7, 8, 13, 14, 16, 17, 18] 11 IT (Z1006_15 itB KS)) = IT (TO6 ps t (i + 1) g' d' (H6 c x n m' a')) := by
  have hin : inB i ps.length = true := inB_of' hi0 hi
  have hP : 0 ≤ ps.getD i.toNat 0 ∧ ps.getD i.toNat 0 ≤ 255 := by
    rw [List.getD_eq_getElem?_getD]
    cases hx : ps[i.toNat]? with
    | none => simp
    | some v => exact hp v (List.mem_of_getElem? hx)
  have hPw : w64' (ps.getD i.toNat 0) = ps.getD i.toNat 0 := w64_id (by omega) (by omega)
  have hc0 : (Cf.a c == 0) = false := by rw [hn]; simp; omega
  obtain ⟨w, hwI⟩ : ∃ w : Nat, Int.tmod (w64' (ps.getD i.toNat 0)) (Cf.a c) = w := ⟨_, (Int.toNat_of_nonneg (by rw [hPw]; exact Int.tmod_nonneg _ hP.1)).symm⟩
  have hw : w < n := by
    have := Int.tmod_lt_of_pos (w64' (ps.getD i.toNat 0)) (b := Cf.a c) (by omega)
    omega
  have hinW : inB (w : Int) n = true := inB_of' (by omega) (by omega)
  have i1 : w64' (i + 1) = i + 1 := w64_id (by omega) (by omega)
  cases hl0 : (Wk.line (a w) == 0) with
  | true =>
    refine ⟨m, a, got, dead, h, fun IT => ?_⟩
    rw [kl_cut, kl_e, decide_eq_true hi, br_t, klN, blkE6, seqE, kl_d, hin, br_t, hc0, br_f, hwI, hinW, br_t, Int.toNat_natCast, hl0, br_t, klX, klN]
    exact (kl_h itB IT KS c ps t i got w dead m x n a).trans (by rw [i1])
  | false =>
    obtain ⟨g', d', y', s1, s2, s3, s4, s5, s6⟩ := aft (got := got) h.M hW (h.w w hw) (by simpa using hl0) (h.ok w hw)
    obtain ⟨p1, p2, _, p4, p5⟩ := presN (m := m) (x := a w) h.M.M.ok (h.ok w hw)
    obtain ⟨r, hr⟩ : ∃ r, r = stepN m (a w) := ⟨_, rfl⟩
    rw [← hr] at s1 s2 s4 s5 s6 p1 p2 p4 p5
    have hI' : I6 c t W0 n r.m (upd a w y') g' d' := by
      refine ⟨s4, fun k hk => ?_, fun k hk => ?_, ?_⟩
      · by_cases e : k = w
        · subst e; rw [show upd a k y' k = y' from if_pos rfl]; exact s5
        · rw [show upd a w y' k = a k from if_neg e]
          refine (h.w k hk).mono ?_ s6
          intro q; rcases s3 with ⟨_, z⟩ | ⟨_, z, _⟩
          · rw [z]; exact q
          · rw [z] at q; cases q
      · by_cases e : k = w
        · subst e; rw [show upd a k y' k = y' from if_pos rfl]; exact okW_sw s1 p2 ht
        · rw [show upd a w y' k = a k from if_neg e]; exact h.ok k hk
      · rcases s3 with ⟨z1, z2⟩ | ⟨z1, z2, z3⟩
        · rw [z1, z2]; exact h.g
        · have := h.g
          rw [z2] at this
          rw [z1, z3, this]; rfl
    refine ⟨r.m, upd a w y', g', d', hI', fun IT => ?_⟩
    have hlive : (liveE c r.m.ws t).2 = !d' := by
      have M' := s4.M
      rw [M'.live s4.g, s4.tE, s4.tG]
      cases d' with
      | false => rw [s4.W rfl, s4.w0]; rfl
      | true => rw [s4.D rfl]; rfl
    have hg1 : decide (g' > 1) = false := by
      rw [hI'.g]; cases d' <;> rfl
    have hlen : r.m.ws.length ≤ 100000 := by
      have e1 := s4.M.sz
      have e2 := szC_le s4.M.chk
      omega
    rw [kl_cut, kl_e, decide_eq_true hi, br_t, klN, blkE6, seqE, kl_d, hin, br_t, hc0, br_f, hwI, hinW, br_t, Int.toNat_natCast, hl0, br_f, br_t, br_t, h.M.M.ok, h.ok w hw, Bool.and_self, br_t, ← hr, s2, Bool.not_true, br_f, klN, seqE, blkE6]
    rw [sw_run itB _ c ps t i got w (a w).line r.way dead true r.m x r.x n a s1, klB, klN]
    refine (kl_g itB _ c ps t i g' w (a w).line r.way d' true r.m x y' n a).trans ?_
    rw [hinW, br_t, show fits r.m.ws.length 8 = true from decide_eq_true (by omega), br_t, okM_u s4.M.ok, ht, Bool.and_self, br_t, hlive, show ((!d') == d') = false by cases d' <;> rfl, br_f, hg1, br_f, klB, klN, Int.toNat_natCast, rowW_upd6]
    exact (kl_hb itB IT KS c ps r.m.ws t i g' w (a w).line r.way d' true (!d') r.m x y' n (upd a w y')).trans (by rw [i1])
end Go.Sx.Pr

/- EntryKills: the law answers true on symbolic arguments. -/
namespace Go.Sx.Pr
open Go Go.Sx Go.Sx.Md Go.Proofs
set_option maxRecDepth 100000
theorem kl_z {Ω : Type} (it : Itr Ω) (K : SV → SH → Option Ω) (c : Cf) (ps : List Int) (tk i got : Int) (dead : Bool) (m : Mm) (x : Wk) (n : Nat) (a : Nat → Wk) :
    Z1006_15 it K (.exit 4) ⟨[(2, .d (.ints .u8 ps)), (7, .ptr 0 0), (8, .ptr 8 0), (13, U tk), (14, .own 10), (16, I got), (17, B dead), (18, I i)], [.cells 26 (encC c), .dead, .dead, .dead, .dead, .dead, .dead, .rowi 24 .u64 m.ws, .cells 79 (memC m.c m.s 7), .cells 40 (encW x), .row 40 33 n (rowW a)]⟩ =
    K (B true) [.cells 26 (encC c), .dead, .dead, .dead, .dead, .dead, .dead, .rowi 24 .u64 (Mm.ws m), .cells 79 (memC (Mm.c m) (Mm.s m) 7), .cells 40 (encW x), .row 40 33 n (rowW a)] := by kernel_rfl

theorem klE {Ω : Type} {it : Itr Ω} {E : Env Ω} {A : Ann} (b : CC) (n q : Nat) (s : SS) (lv : List Nat) (n0 : Nat) (IT : SS → Option Ω) (k : SE → SS → Option Ω) (b' : CC) : kseq it E A b n (kseq it E A b' n (kitV lv n0 IT k)) (.exit q) s = k (.exit q) s := id (Eq.refl _)

theorem kloop {c : Cf} {t W0 : Int} {n : Nat} {ps : List Int} {x : Wk} (hn : c.a = n) (hn0 : 0 < n) (hn8 : n ≤ 8) (hp : ∀ v, v ∈ ps → 0 ≤ v ∧ v ≤ 255) (hl : ps.length ≤ 300) (ht : uB t = true) (hW : uB W0 = true) : ∀ (r i N : Nat) (m : Mm) (a : Nat → Wk) (got : Int) (dead : Bool), i + r = ps.length → r < N → I6 c t W0 n m a got dead →
    Tru (iter [2, 7, 8, 13, 14, 16, 17, 18] 11 (sxI itB E1006 A1006 L1006_15 4) N (TO6 ps t (i : Int) got dead (H6 c x n m a)) (Z1006_15 itB KS))
  | 0, i, N, m, a, got, dead, hr, hN, h => by
    obtain ⟨N, rfl⟩ : ∃ q, N = q + 1 := ⟨N - 1, by omega⟩
    rw [iter_succ, kl_cut, kl_e, decide_eq_false (by omega), br_f, klE]
    have e := kl_z itB KS c ps t i got dead m x n a
    refine (show ∀ o : Option (SV × SH), o = _ → Tru o from fun o ho => ?_) _ e
    rw [ho]; exact tru_ret
  | r + 1, i, N, m, a, got, dead, hr, hN, h => by
    obtain ⟨N, rfl⟩ : ∃ q, N = q + 1 := ⟨N - 1, by omega⟩
    obtain ⟨m', a', g', d', h1, h2⟩ := kround (x := x) hn hn0 hn8 hp (i := (i : Int)) (by omega) (by omega) (by omega) ht hW h
    rw [iter_succ, h2]
    have := kloop (x := x) hn hn0 hn8 hp hl ht hW r (i + 1) N m' a' g' d' (by omega) (by omega) h1
    rw [show ((i + 1 : Nat) : Int) = (i : Int) + 1 by push_cast; rfl] at this
    exact this

abbrev TF6 (ps : List Int) (tk i : Int) (h : SH) : SS := ⟨[(2, .d (.ints .u8 ps)), (7, .ptr 0 0), (8, .ptr 8 0), (13, U tk), (14, .own 10), (15, I i)], h⟩
theorem kfill {c : Cf} {t W0 : Int} {n : Nat} {ps : List Int} {x : Wk} {m : Mm} (hn : c.a = n) (hn0 : 0 < n) (hn8 : n ≤ 8) (hp : ∀ v, v ∈ ps → 0 ≤ v ∧ v ≤ 255) (hl : ps.length ≤ 300) (ht : uB t = true) (hW : uB W0 = true) (hM : KM c t W0 m false) : ∀ (r k N : Nat) (a : Nat → Wk), k + r = n → r < N → (∀ j, j < k → a j = { wk0 with line := 42, T := t }) →
    Tru (iter [2, 7, 8, 13, 14, 15] 11 (sxI itB E1006 A1006 L1006_18 2) N (TF6 ps t k (H6 c x n m a)) (Z1006_18 itB KS))
  | 0, k, N, a, hr, hN, ha => by
    obtain ⟨N, rfl⟩ : ∃ q, N = q + 1 := ⟨N - 1, by omega⟩
    rw [iter_succ, kl_b, decide_eq_false (by omega), br_f, itB_def]
    exact kloop (x := x) hn hn0 hn8 hp hl ht hW ps.length 0 big m a 0 false (by omega) (by unfold big; omega) ⟨hM, fun k hk => by rw [ha k (by omega)]; exact .inr (.inl ⟨rfl, rfl⟩), fun k hk => by rw [ha k (by omega)]; simp only [okW, wk0, uB_zero, ht, Bool.and_self], rfl⟩
  | r + 1, k, N, a, hr, hN, ha => by
    obtain ⟨N, rfl⟩ : ∃ q, N = q + 1 := ⟨N - 1, by omega⟩
    have ih := kfill (x := x) hn hn0 hn8 hp hl ht hW hM r (k + 1) N (upd a k { wk0 with line := 42, T := t }) (by omega) (by omega) (fun j hj => by
      by_cases e : j = k
      · subst e; exact if_pos rfl
      · rw [show upd a k { wk0 with line := 42, T := t } j = a j from if_neg e]; exact ha j (by omega))
    rw [show ((k + 1 : Nat) : Int) = (k : Int) + 1 by push_cast; rfl] at ih
    rw [iter_succ, kl_b, decide_eq_true (by omega), br_t, inB_of' (by omega) (by omega), br_t, w64_id (by omega) (by omega), Int.toNat_natCast]
    rw [rowW_upd6]
    exact ih

abbrev c6 (n l : Int) : Cf := ⟨n, 1, 4, 1, 1, 0, 1, l⟩
def s1 (n l : Int) : SR := stepN ⟨c6 n l, ac0, flC (c6 n l)⟩ { wk0 with line := 20, B := 2 }
def s2 (n l : Int) : SR := stepN (s1 n l).m (s1 n l).x
def s3 (n l : Int) : SR := stepN (s2 n l).m (s2 n l).x
def s4 (n l : Int) : SR := stepN (s3 n l).m (s3 n l).x
def s5 (n l : Int) : SR := stepN (s4 n l).m (s4 n l).x
def good6 (n l : Int) : Bool := (chkC (c6 n l) == 0) && (okM ⟨c6 n l, ac0, flC (c6 n l)⟩ && (okM (s1 n l).m && (okW (s1 n l).x && ((s1 n l).way == 0 && (okM (s2 n l).m && (okW (s2 n l).x && ((s2 n l).way == 0 && (okM (s3 n l).m && (okW (s3 n l).x && ((s3 n l).way == 0 && (okM (s4 n l).m && (okW (s4 n l).x && ((s4 n l).way == 0 && ((s5 n l).way == 1 && ((s5 n l).x.T == 65537 &&
  (okM (s5 n l).m && ((((s5 n l).m.ws.length : Int) == szC (c6 n l)) && (goodV (c6 n l) 65537 && (liveV (mLoadV (s5 n l).m (adr (c6 n l) 3 0)) 1 && (decide (mLoadV (s5 n l).m 2 % 4294967296 ≤ 1) && (decide (mLoadV (s5 n l).m (adr (c6 n l) 4 0) % 4294967296 ≤ 1) && uB (mLoadV (s5 n l).m (adr (c6 n l) 3 0)))))))))))))))))))))))
theorem good6_2_1 : good6 2 1 = true := by kernel_rfl
theorem good6_2_2 : good6 2 2 = true := by kernel_rfl
theorem good6_2_3 : good6 2 3 = true := by kernel_rfl
theorem good6_3_1 : good6 3 1 = true := by kernel_rfl
theorem good6_3_2 : good6 3 2 = true := by kernel_rfl
theorem good6_3_3 : good6 3 3 = true := by kernel_rfl
theorem good6_4_1 : good6 4 1 = true := by kernel_rfl
theorem good6_4_2 : good6 4 2 = true := by kernel_rfl
theorem good6_4_3 : good6 4 3 = true := by kernel_rfl
theorem good6_5_1 : good6 5 1 = true := by kernel_rfl
theorem good6_5_2 : good6 5 2 = true := by kernel_rfl
theorem good6_5_3 : good6 5 3 = true := by kernel_rfl
theorem good6_6_1 : good6 6 1 = true := by kernel_rfl
theorem good6_6_2 : good6 6 2 = true := by kernel_rfl
theorem good6_6_3 : good6 6 3 = true := by kernel_rfl
theorem good6_all {n l : Int} (hn : 2 ≤ n ∧ n ≤ 6) (hl : 1 ≤ l ∧ l ≤ 3) : good6 n l = true := by
  have h1 : n = 2 ∨ n = 3 ∨ n = 4 ∨ n = 5 ∨ n = 6 := by omega
  have h2 : l = 1 ∨ l = 2 ∨ l = 3 := by omega
  rcases h1 with h | h | h | h | h <;> subst h <;> rcases h2 with h | h | h <;> subst h
  · exact good6_2_1
  · exact good6_2_2
  · exact good6_2_3
  · exact good6_3_1
  · exact good6_3_2
  · exact good6_3_3
  · exact good6_4_1
  · exact good6_4_2
  · exact good6_4_3
  · exact good6_5_1
  · exact good6_5_2
  · exact good6_5_3
  · exact good6_6_1
  · exact good6_6_2
  · exact good6_6_3

abbrev TA6 (ps : List Int) (way i : Int) (h : SH) : SS := ⟨[(2, .d (.ints .u8 ps)), (7, .ptr 0 0), (8, .ptr 8 0), (10, .ptr 9 0), (11, I way), (12, I i)], h⟩
abbrev HA6 (c : Cf) (m : Mm) (x : Wk) : SH := [.cells 26 (encC c), .dead, .dead, .dead, .dead, .dead, .dead, .rowi 24 .u64 m.ws, .cells 79 (memC m.c m.s 7), .cells 40 (encW x)]
theorem kpop {c : Cf} {ps : List Int} {way i : Int} {m : Mm} {x : Wk} {N : Nat} {r : SR} (hw : way = 0) (hi : i < 5) (hm : okM m = true) (hx : okW x = true) (hr : stepN m x = r) :
    iter [2, 7, 8, 10, 11, 12] 10 (sxI itB E1006 A1006 L1006_23 0) (N + 1) (TA6 ps way i (HA6 c m x)) (Z1006_23 itB KS) = iter [2, 7, 8, 10, 11, 12] 10 (sxI itB E1006 A1006 L1006_23 0) N (TA6 ps r.way (w64' (i + 1)) (HA6 c r.m r.x)) (Z1006_23 itB KS) := by
  subst hw
  rw [iter_succ, kl_a, decide_eq_true hi, br_t, show ((0 : Int) == 0) = true from rfl, br_t, hm, hx, Bool.and_self, br_t, hr]
theorem tru_eq {a b : Option (SV × SH)} (h : a = b) (hb : Tru b) : Tru a := h ▸ hb

theorem mainK {p q : Int} {ps : List Int} (hp : 0 ≤ p ∧ p ≤ 255) (hq : 0 ≤ q ∧ q ≤ 255) (hps : ∀ x, x ∈ ps → 0 ≤ x ∧ x ≤ 255) : Tru (sxFn E1006 A1006 C1006 [.d (.v (.int .u8 p)), .d (.v (.int .u8 q)), .d (.ints .u8 ps)] [] KS) := by
  obtain ⟨n, n2, n6, hn⟩ : ∃ n : Nat, 2 ≤ n ∧ n ≤ 6 ∧ w64' (2 + Int.tmod (w64' p) 5) = (n : Int) := by
    have h1 : w64' p = p := w64_id (by omega) (by omega)
    have h2 := Int.tmod_nonneg 5 hp.1
    have h3 := Int.tmod_lt_of_pos p (b := 5) (by omega)
    refine ⟨(2 + Int.tmod p 5).toNat, by omega, by omega, ?_⟩
    rw [h1, w64_id (by omega) (by omega)]
    omega
  obtain ⟨l, l1, l3, hl⟩ : ∃ l : Int, 1 ≤ l ∧ l ≤ 3 ∧ wU (1 + Int.tmod (wU q) 3) = l := by
    have h1 : wU q = q := wU_id (by omega) (by omega)
    have h2 := Int.tmod_nonneg 3 hq.1
    have h3 := Int.tmod_lt_of_pos q (b := 3) (by omega)
    exact ⟨1 + Int.tmod q 3, by omega, by omega, by rw [h1, wU_id (by omega) (by omega)]⟩
  have G := good6_all (n := n) (l := l) ⟨by omega, by omega⟩ ⟨l1, l3⟩
  simp only [good6, Bool.and_eq_true, beq_iff_eq, decide_eq_true_eq] at G
  obtain ⟨hc, o0, o1, k1, w1, o2, k2, w2, o3, k3, w3, o4, k4, w4, w5, hT, o5, hs, hg, hlv, hh, hk, hub⟩ := G
  rw [← sxFnI_eq, kl_n]
  rw [hn, hl]
  rw [show chkC (Cf.mk (n : Int) 1 4 1 1 0 1 l) = 0 from hc]
  refine Tru.br (fun _ => tru_ret) fun hlen => ?_
  have hl' : ps.length ≤ 300 := by have := of_decide_eq_false hlen; omega
  rw [show (!(0 : Int) == 0) = false from rfl, br_f, itB_def]
  obtain ⟨N, hN⟩ : ∃ N, big = N + 6 := ⟨big - 6, by unfold big; omega⟩
  rw [hN, iter_succ]
  refine tru_eq (kl_ar itB _ KS (c6 n l) ps 0 0 ⟨c6 n l, ac0, flC (c6 n l)⟩ wk0) ?_
  rw [show decide ((0 : Int) < 5) = true from rfl, br_t, show ((0 : Int) == 0) = true from rfl, br_t, o0, Bool.and_self, br_t]
  rw [show stepN ⟨c6 n l, ac0, flC (c6 n l)⟩ { wk0 with line := 20, B := 2 } = s1 n l from rfl]
  show Tru (iter [2, 7, 8, 10, 11, 12] 10 (sxI itB E1006 A1006 L1006_23 0) (N + 5) (TA6 ps (s1 n l).way (w64' (0 + 1)) (HA6 (c6 n l) (s1 n l).m (s1 n l).x)) (Z1006_23 itB KS))
  rw [show w64' ((0 : Int) + 1) = 1 by decide, kpop w1 (by omega) o1 k1 (show _ = s2 n l from rfl), show w64' ((1 : Int) + 1) = 2 by decide, kpop w2 (by omega) o2 k2 (show _ = s3 n l from rfl), show w64' ((2 : Int) + 1) = 3 by decide, kpop w3 (by omega) o3 k3 (show _ = s4 n l from rfl), show w64' ((3 : Int) + 1) = 4 by decide, kpop w4 (by omega) o4 k4 (show _ = s5 n l from rfl), show w64' ((4 : Int) + 1) = 5 by decide]
  rw [iter_succ, kl_a, decide_eq_false (by omega), br_f, w5, show (!(1 : Int) == 1) = false from rfl, br_f]
  rw [show decide (0 ≤ Cf.a (c6 n l)) = true from decide_eq_true (show (0 : Int) ≤ n by omega), show fits (Int.toNat (Cf.a (c6 n l))) 360 = true from decide_eq_true (by show Int.toNat (n : Int) * 360 ≤ _; omega), Bool.and_self, br_t, itB_def, hT]
  have hM : KM (c6 n l) 65537 (mLoadV (s5 n l).m (adr (c6 n l) 3 0)) (s5 n l).m false := by
    have hcc : (s5 n l).m.c = c6 n l := by
      have z1 := (presN (m := ⟨c6 n l, ac0, flC (c6 n l)⟩) (x := { wk0 with line := 20, B := 2 }) o0 (by kernel_rfl)).2.2.2.2
      have z2 := (presN o1 k1).2.2.2.2
      have z3 := (presN o2 k2).2.2.2.2
      have z4 := (presN o3 k3).2.2.2.2
      have z5 := (presN o4 k4).2.2.2.2
      exact z5.trans (z4.trans (z3.trans (z2.trans z1)))
    exact ⟨⟨o5, hcc, hs⟩, rfl, hg, by decide, by decide, hlv, hh, hk, fun _ => rfl, fun q => by cases q⟩
  exact kfill (x := (s5 n l).x) (n := n) (c := c6 n l) rfl (by omega) (by omega) hps hl' (by decide) hub hM n 0 big (fun _ => wk0) (by omega) (by unfold big; omega) (fun j hj => by omega)
end Go.Sx.Pr

/- A worker's state as an argument of a law. -/
namespace Go.Sx.Pr
open Go Go.Sx Go.Sx.Md Go.Proofs Go.ChangeShapes Go.WideShapes Go.ChangeAt Go.RowKit
set_option maxRecDepth 100000

section
variable {H : Type} {enc : TypeId × Value → H} {w : World}
end
end Go.Sx.Pr

/- A list of bytes as an argument of a law. -/
namespace Go.Sx.Pr
open Go Go.Sx Go.Proofs Go.ChangeShapes Go.WideShapes Go.ChangeAt Go.RowKit
set_option maxRecDepth 100000
theorem u8_wf {x : Int} (h : (Lit.int .u8 x).wf = true) : 0 ≤ x ∧ x ≤ 255 := by
  simp only [Lit.wf, Bool.and_eq_true, IntKind.min, IntKind.max, IntKind.signed, IntKind.bits] at h
  simpa using h
section
variable {H : Type} {enc : TypeId × Value → H} {w : World}
theorem bytes_arg {v : Value} {d : DataW H} {p : List MemPlace} {r : Reach} {base : Nat} (hv : Value.okWide Try.prog w r base 22 v) (h : DataW.Trod enc Try.prog w 0 (fun _ => true) true 22 v d p) :
    ∃ ws : List Int, (∀ x, x ∈ ws → 0 ≤ x ∧ x ≤ 255) ∧ SRep (cx0 w) w (.d (.ints .u8 ws)) v := by
  obtain ⟨n, L, hW, hR⟩ := arg_rep (kids_rows laid rowed) slicesFull (t := 22) (tlt (by omega)) (m := 2) (fun n => by simp only [suppT, Try.underlying22, Try.underlying5]) h
  rw [show n + 2 = (n + 1) + 1 from rfl] at hW
  simp only [Wt, Try.underlying22, Try.underlying5] at hW
  obtain ⟨ws, rfl, _, hws⟩ := hW
  refine ⟨ws, fun x hx => u8_wf (hws x hx), ?_⟩
  simp only [SRep]
  exact cell_rep hR fun c e => by
    subst e
    simp only [Value.okWide, Try.underlying22] at hv
    exact cell_not_agg hv ⟨_, Try.underlying22, .inr (.inr (.inr ⟨_, rfl⟩))⟩
end
end Go.Sx.Pr
