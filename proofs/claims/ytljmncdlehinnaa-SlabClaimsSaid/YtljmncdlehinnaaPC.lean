/- StackMany: what the law counts. Plain Lean. -/
import Derived.Test.YtljmncdlehinnaaQ36
import Derived.Test.YtljmncdlehinnaaT2
import Derived.Test.YtljmncdlehinnaaE1
import Derived.Test.YtljmncdlehinnaaQ36
import Derived.Test.YtljmncdlehinnaaQ36
import Derived.Test.YtljmncdlehinnaaPA
import Derived.Test.YtljmncdlehinnaaR12
set_option linter.all false
set_option linter.unusedVariables false
set_option linter.unusedSimpArgs false
set_option linter.unnecessarySimpa false
namespace Go.Sx.Pr
open Go Go.Sx Go.Sx.Md Go.Proofs

 noncomputable def one (p : Prop) : Int := @ite Int p (Classical.propDecidable p) 1 0
theorem one_pos {p : Prop} (h : p) : one p = 1 := by unfold one; exact if_pos h
theorem one_neg {p : Prop} (h : ¬ p) : one p = 0 := by unfold one; exact if_neg h
theorem one_iff {p q : Prop} (h : p ↔ q) : one p = one q := by rw [propext h]

structure CI (E : Nat) (hv : List Int) (p : Nat → Prop) : Prop where
  len : hv.length = E
  val : ∀ q, q < E → hv.getD q 0 = one (p q)

theorem set_getD {l : List Int} {i j : Nat} {x : Int} (hi : i < l.length) : (l.set i x).getD j 0 = if j = i then x else l.getD j 0 := by
  simp only [List.getD_eq_getElem?_getD, List.getElem?_set]
  by_cases h : i = j
  · subst h; simp [hi]
  · have : ¬ j = i := fun e => h e.symm
    simp [h, this]

theorem CI.bump {E : Nat} {hv : List Int} {p : Nat → Prop} (p' : Nat → Prop) (h : CI E hv p) {i : Nat} (hi : i < E) (hn : ¬ p i) (hp : ∀ q, p' q ↔ p q ∨ q = i) : CI E (hv.set i (w64' (hv.getD i 0 + 1))) p' := by
  have h0 : hv.getD i 0 = 0 := by rw [h.val i hi]; exact one_neg hn
  refine ⟨by simp [h.len], fun q hq => ?_⟩
  rw [set_getD (by rw [h.len]; exact hi), h0]
  by_cases e : q = i
  · subst e
    rw [if_pos rfl, one_pos ((hp q).2 (.inr rfl))]; rfl
  · rw [if_neg e, h.val q hq]
    exact one_iff ⟨fun r => (hp q).2 (.inl r), fun r => ((hp q).1 r).elim id fun r => absurd r e⟩

theorem flC_get {c : Cf} {i : Nat} (h : i < (flC c).length) : (flC c).getD i 0 = fpart (3 + c.a.toNat + c.b.toNat) c.e.toNat c.e.toNat i := by
  unfold flC at h ⊢
  rw [fl_length] at h
  rw [List.getD_eq_getElem?_getD, List.getElem?_eq_getElem (by rw [fl_length]; exact h)]
  simp [fl]
theorem flC_u64 {c : Cf} (h : chkC c = 0) : u64B (flC c) = true := by
  obtain ⟨⟨a1, a2⟩, ⟨b1, b2⟩, _, _, ⟨e1, e2⟩, _⟩ := chk_zero h
  simp only [u64B, List.all_eq_true, Bool.and_eq_true, decide_eq_true_eq]
  intro x hx
  simp only [flC, fl, List.mem_map, List.mem_range] at hx
  obtain ⟨i, _, rfl⟩ := hx
  unfold fpart
  repeat' split
  all_goals omega
end Go.Sx.Pr

/- SlabClaims: a pick; the law answers true on symbolic arguments. -/
namespace Go.Sx.Pr
open Go Go.Sx Go.Sx.Md Go.Proofs
set_option maxRecDepth 100000

abbrev HH (c : Cf) (n : Nat) (m : Mm) (a : Nat → Wk) (lf hs wh : List Int) : SH := [.cells 26 (encC c), .dead, .dead, .dead, .dead, .dead, .dead, .rowi 24 .u64 m.ws, .cells 79 (memC m.c m.s 7), .row 40 33 n (rowW a), .rowi 3 .i64 lf, .rowi 3 .i64 hs, .rowi 24 .u64 wh]
abbrev TT (ps : List Int) (i : Int) (h : SH) : SS := ⟨[(3, .d (.ints .u8 ps)), (9, .ptr 0 0), (10, .ptr 8 0), (12, .own 9), (13, .own 10), (14, .own 11), (15, .own 12), (17, I i)], h⟩
abbrev TW (ps : List Int) (i w was way mine : Int) (ok : Bool) (h : SH) : SS := ⟨[(3, .d (.ints .u8 ps)), (9, .ptr 0 0), (10, .ptr 8 0), (12, .own 9), (13, .own 10), (14, .own 11), (15, .own 12), (17, I i), (18, I w), (19, .ptr 13 0), (20, I way), (21, B ok), (22, I was), (23, I mine)], h⟩
theorem blkE {Ω : Type} {it : Itr Ω} {E : Env Ω} {A : Ann} (i : Nat) (a : CC) (n : Nat) (s : SS) (k : SE → SS → Option Ω) : sxI it E A (.block i a) n s k = sxI it E A a i s (kblk i k) := id (Eq.refl _)

theorem sc_cut {Ω : Type} {it : Itr Ω} (s : SS) (k : SE → SS → Option Ω) : sxI it E1001 A1001 L1001_29 2 s k =
    sxI it E1001 A1001 K1001_28 2 s (kseq it E1001 A1001 (.block 3 (.seq K1001_27 (.seq K1001_26 (.seq K1001_25 (.seq K1001_24 (.seq K1001_23 (.seq K1001_22 (.seq (.block 4 PW1) K1001_3)))))))) 2 (kseq it E1001 A1001 K1001_2 2 k)) := by
  have e3 : L1001_29 = .seq K1001_28 (.seq (.block 3 (.seq K1001_27 (.seq K1001_26 (.seq K1001_25 (.seq K1001_24 (.seq K1001_23 (.seq K1001_22 (.seq (.block 4 PW1) K1001_3)))))))) K1001_2) := rfl
  rw [e3, seqE, kseqA]

/-- From the switch to the next round. -/
theorem sc_sw {Ω : Type} (it : Itr Ω) (IT : SS → Option Ω) (K : SV → SH → Option Ω) {c : Cf} {ps lf hs wh lf' hs' wh' : List Int} {i : Int} {m : Mm} {n w : Nat} {a : Nat → Wk} {was mine way : Int} {y y' : Wk} (hM : MC c m) (hl : m.ws.length ≤ 100000) (hw : w < n) (h1 : lf.length = n) (h2 : (hs.length : Int) = c.b) (h3 : (wh.length : Int) = c.b)
    (hway : way = 0 ∨ (way = 1 ∧ was ≠ 33) ∨ (way = 2 ∧ was = 33)) (h : sw1 c w was mine way m (a w).V lf hs wh y = some (lf', hs', wh', y')) :
    sxI it E1001 A1001 PW1 4 (TW ps i w was way mine true (HH c n m a lf hs wh ++ [.cells 40 (encW y)])) (kblk 4 (kseq it E1001 A1001 K1001_3 3 (kblk 3 (kseq it E1001 A1001 K1001_2 2 (kitV [3, 9, 10, 12, 13, 14, 15, 17] 13 IT (Z1001_29 it K)))))) =
      IT (TT ps (w64' (i + 1)) (HH c n m (upd a w y') lf' hs' wh')) := by
  have hin : inB (w : Int) n = true := inB_of' (by omega) (by omega)
  have hinl : inB (w : Int) lf.length = true := by rw [h1]; exact hin
  have hinl' : ∀ x, inB (w : Int) (lf.set w x).length = true := fun x => by rw [List.length_set]; exact hinl
  rcases hway with rfl | ⟨rfl, hne⟩ | ⟨rfl, rfl⟩
  · rw [sw1_0] at h
    cases h
    refine (sc_w0 it _ c ps lf hs wh i m n a w was mine true y).trans ?_
    rw [klB, klN]
    refine (sc_3 it _ c ps lf hs wh i m n a w was 0 mine true y).trans ?_
    rw [hin, br_t, klB, klN, Int.toNat_natCast, rowW_upd6]
    exact sc_2 it IT K c ps lf hs wh i m n (upd a w y) w was 0 mine true y
  · unfold sw1 at h
    rw [if_neg (by decide)] at h
    split at h
    · rename_i e; subst e
      split at h
      · rename_i q
        obtain ⟨q1, q2, q3, q4⟩ := q
        cases h
        refine (sc_w34 it _ c ps lf hs wh i m n a w mine true y).trans ?_
        have ih : inB y.J hs.length = true := inB_of' q1 (by omega)
        have iw : inB y.J wh.length = true := inB_of' q1 (by omega)
        have e3 : (List.getD hs (Int.toNat y.J) 0 == 0) = true := by rw [beq_iff_eq]; exact q3
        rw [decide_eq_false (by omega), br_f, decide_eq_false (by omega), br_f, ih, br_t, e3, Bool.not_true, br_f, iw, br_t]
        have tail : kblk 4 (kseq it E1001 A1001 K1001_3 3 (kblk 3 (kseq it E1001 A1001 K1001_2 2 (kitV [3, 9, 10, 12, 13, 14, 15, 17] 13 IT (Z1001_29 it K))))) .norm (SS.mk [(3, .d (DV.ints .u8 ps)), (9, .ptr 0 0), (10, .ptr 8 0), (12, .own 9), (13, .own 10), (14, .own 11), (15, .own 12), (17, I i), (18, I w), (19, .ptr 13 0), (20, I 1), (21, B true), (22, I 34), (23, I mine), (24, I (Wk.J y))] [.cells 26 (encC c), .dead, .dead, .dead, .dead, .dead, .dead, .rowi 24 .u64 (Mm.ws m), .cells 79 (memC (Mm.c m) (Mm.s m) 7), .row 40 33 n (rowW a), .rowi 3 .i64 (List.set lf (Int.toNat w) (Cf.c c)), .rowi 3 .i64 (List.set hs (Int.toNat (Wk.J y)) (w64' (w + 1))), .rowi 24 .u64 wh, .cells 40 (encW { y with line := 36, slab := Wk.J y })]) = IT (TT ps (w64' (i + 1)) (HH c n m (upd a w { y with line := 36, slab := y.J }) (lf.set (Int.toNat (w : Int)) c.c) (hs.set (Int.toNat y.J) (w64' ((w : Int) + 1))) wh)) := by
          rw [klB, klN]
          refine (sc_3b it _ c ps _ _ wh i m n a w 34 1 mine y.J true { y with line := 36, slab := y.J }).trans ?_
          rw [hin, br_t, klB, klN, rowW_upd6]
          exact sc_2b it IT K c ps _ _ wh i m n (upd a (Int.toNat (w : Int)) _) w 34 1 mine y.J true _
        cases e4 : (List.getD wh (Int.toNat y.J) 0 == 0) with
        | true => rw [Bool.not_true, br_f, br_t, hinl, br_t]; exact tail
        | false =>
          have q5 : wU (gI wh y.J + 2) ≤ y.E := by
            rcases q4 with q | q
            · rw [show (List.getD wh (Int.toNat y.J) 0 == 0) = true by rw [beq_iff_eq]; exact q] at e4; cases e4
            · exact q
          rw [Bool.not_false, br_t, br_t, show decide (wU (List.getD wh (Int.toNat y.J) 0 + 2) > y.E) = false from decide_eq_false (by intro z; exact absurd q5 (Int.not_le.2 z)), br_f, br_t, hinl, br_t]; exact tail
      · cases h
    · skip
      split at h
      · rename_i e; subst e
        cases h
        refine (sc_w37 it _ c ps lf hs wh i m n a w mine true y).trans ?_
        rw [hinl, br_t, klB, klN]
        refine (sc_3 it _ c ps lf hs wh i m n a w 37 1 mine true _).trans ?_
        rw [hin, br_t, klB, klN, Int.toNat_natCast, rowW_upd6]
        exact sc_2 it IT K c ps lf hs wh i m n (upd a w _) w 37 1 mine true _
      · split at h
        · rename_i e; subst e
          split at h
          · cases h
          · rename_i q
            cases h
            refine (sc_w30 it _ c ps lf hs wh i m n a w mine true y).trans ?_
            have eg : List.getD (List.set lf (Int.toNat (w : Int)) (w64' (List.getD lf (Int.toNat (w : Int)) 0 - 1))) (Int.toNat (w : Int)) 0 = w64' (gI lf w - 1) := by
              have := gI_set (l := lf) (j := (w : Int)) (k := (w : Int)) (x := w64' (gI lf w - 1)) (by omega) (by omega) (by omega)
              rw [if_pos rfl] at this; exact this
            rw [hinl, br_t, br_t]
            rw [show inB (w : Int) (List.length (List.set lf (Int.toNat (w : Int)) (w64' (List.getD lf (Int.toNat (w : Int)) 0 - 1)))) = true from hinl' _, br_t, br_t]
            rw [show (List.getD (List.set lf (Int.toNat (w : Int)) (w64' (List.getD lf (Int.toNat (w : Int)) 0 - 1))) (Int.toNat (w : Int)) 0 == 0) = false by rw [eg]; simpa using q, br_f, klB, klN]
            refine (sc_3 it _ c ps _ hs wh i m n a w 30 1 mine true _).trans ?_
            rw [hin, br_t, klB, klN, rowW_upd6]
            exact sc_2 it IT K c ps _ hs wh i m n (upd a (Int.toNat (w : Int)) _) w 30 1 mine true _
        · split at h
          · rename_i e; subst e
            split at h
            · rename_i q
              obtain ⟨q1, q2, q3, q4, q5⟩ := q
              cases h
              refine (sc_w32 it _ c ps lf hs wh i m n a w mine true y).trans ?_
              have ih : inB mine hs.length = true := inB_of' q2 (by omega)
              have iw : inB mine wh.length = true := inB_of' q2 (by omega)
              rw [hinl, br_t, show (List.getD lf (Int.toNat (w : Int)) 0 == 1) = true by rw [beq_iff_eq]; exact q1, Bool.not_true, br_f, decide_eq_false (by omega), br_f, decide_eq_false (by omega), br_f,
                show fits (List.length m.ws) 8 = true from decide_eq_true (by omega), br_t, okM_u hM.ok, br_t, show ((wordV c m.ws mine).1 % 16 == 3) = true by rw [beq_iff_eq]; exact q4, Bool.not_true, br_f, ih, br_t,
                show (List.getD hs (Int.toNat mine) 0 == IntKind.wrap .i64 ((w : Int) + 1)) = true by rw [beq_iff_eq]; exact q5, Bool.not_true, br_f, hin, br_t, br_t, br_t, iw, br_t, klB, klN, Int.toNat_natCast]
              refine (sc_3c it _ c ps _ _ _ i m n a w 32 1 mine true _ m.ws).trans ?_
              rw [hin, br_t, klB, klN, Int.toNat_natCast, rowW_upd6]
              exact sc_2c it IT K c ps _ _ _ i m n (upd a w _) w 32 1 mine true _ m.ws
            · cases h
          · cases h
  · unfold sw1 at h
    rw [if_neg (by decide), if_neg (by decide), if_pos rfl] at h
    cases h
    refine (sc_w33 it _ c ps lf hs wh i m n a w mine true y).trans ?_
    rw [klB, klN]
    refine (sc_3 it _ c ps lf hs wh i m n a w 33 2 mine true _).trans ?_
    rw [hin, br_t, klB, klN, Int.toNat_natCast, rowW_upd6]
    exact sc_2 it IT K c ps lf hs wh i m n (upd a w _) w 33 2 mine true _

/-- The ways of a step. -/
theorem way_B {m : Mm} {x : Wk} (h : (stepB m x).ok = true) (h35 : x.line ≠ 35) (h36 : x.line = 36 → (stepB m x).way = 0) (h39 : x.line ≠ 39) : (stepB m x).way = 0 ∨ ((stepB m x).way = 1 ∧ x.line ≠ 33) ∨ ((stepB m x).way = 2 ∧ x.line = 33) := by
  unfold stepB at h h36 ⊢
  repeat' split
  all_goals first | (rename_i q; exact absurd q h35) | (rename_i q; exact absurd q h39) | skip
  · cases (wU (mLoadV m (adrH m.c x.K) + 16) / 16 % 4096 == m.c.c)
    · exact .inr (.inl ⟨rfl, by omega⟩)
    · exact .inl rfl
  · exact .inl rfl
  · exact .inr (.inl ⟨rfl, by omega⟩)
  · cases readyV (mLoadV m (adr m.c 2 x.J)) x.E
    · cases decide (m.c.b - 1 ≤ x.J)
      · exact .inl rfl
      · exact .inr (.inr ⟨rfl, by assumption⟩)
    · exact .inl rfl
  · cases mCasB m (adr m.c 2 x.J) x.V
    · exact .inl rfl
    · exact .inr (.inl ⟨rfl, by omega⟩)
  · rename_i q
    have := h36 q
    rw [if_neg (by omega), if_neg (by omega), if_neg (by omega), if_neg (by omega), if_neg (by omega), if_neg (by omega), if_pos q] at this
    exact .inl this
  · cases mCasB m (adr m.c 2 x.slab) x.V
    · exact .inl rfl
    · exact .inr (.inl ⟨rfl, by omega⟩)
  · exact .inl rfl

theorem sc_round {c : Cf} {n : Nat} {m : Mm} {ps lf hs wh : List Int} {a : Nat → Wk} {i : Int} (hn0 : 0 < n) (hp : ∀ v, v ∈ ps → 0 ≤ v ∧ v ≤ 255) (hi0 : 0 ≤ i) (hi : i < ps.length) (hi1 : i ≤ 900) (h : JI c n i m a lf hs wh) :
    ∃ m' a' lf' hs' wh', JI c n (i + 1) m' a' lf' hs' wh' ∧ ∀ IT : SS → Option (SV × SH), sxI itB E1001 A1001 L1001_29 2 (TT ps i (HH c n m a lf hs wh)) (kitV [3, 9, 10, 12, 13, 14, 15, 17] 13 IT (Z1001_29 itB KS)) = IT (TT ps (i + 1) (HH c n m' a' lf' hs' wh')) := by
  have hin : inB i ps.length = true := inB_of' hi0 hi
  have hP : 0 ≤ ps.getD i.toNat 0 ∧ ps.getD i.toNat 0 ≤ 255 := by
    rw [List.getD_eq_getElem?_getD]
    cases hx : ps[i.toNat]? with
    | none => simp
    | some v => exact hp v (List.mem_of_getElem? hx)
  have hPw : w64' (ps.getD i.toNat 0) = ps.getD i.toNat 0 := w64_id (by omega) (by omega)
  have hn := h.hn
  have hc0 : (Cf.a c == 0) = false := by rw [hn]; simp; omega
  obtain ⟨w, hwI⟩ : ∃ w : Nat, Int.tmod (w64' (ps.getD i.toNat 0)) (Cf.a c) = w := ⟨_, (Int.toNat_of_nonneg (by rw [hPw]; exact Int.tmod_nonneg _ hP.1)).symm⟩
  have hw : w < n := by
    have := Int.tmod_lt_of_pos (w64' (ps.getD i.toNat 0)) (b := Cf.a c) (by omega)
    omega
  have hinW : inB (w : Int) n = true := inB_of' (by omega) (by omega)
  have i1 : w64' (i + 1) = i + 1 := w64_id (by omega) (by omega)
  obtain ⟨m1, hm1, hJ⟩ : ∃ m1 : Mm, m1 = (bif decide (w64' (ps.getD i.toNat 0) > 200) then mStore m 0 (wU (mLoadV m 0 + 1)) else m) ∧ JI c n (i + 1) m1 a lf hs wh := by
    refine ⟨_, rfl, ?_⟩
    cases decide (w64' (ps.getD i.toNat 0) > 200)
    · exact h.later
    · exact h.bump (by omega) hi0
  obtain ⟨lf', hs', wh', y', s1, s2, s3⟩ := hJ.aft (by omega) hw
  have hlen : (stepB m1 (a w)).m.ws.length ≤ 100000 := by
    have e1 := s3.M.sz
    have e2 := szC_le s3.M.chk
    omega
  have hway := way_B (m := m1) (x := a w) s2 (by
      rcases hJ.w w hw with ⟨q, _⟩ | ⟨q, _⟩ | ⟨_, _, _, q⟩
      · omega
      · omega
      · rcases q with q | q | q | q | q <;> have := q.1 <;> omega) (fun q36 => by
      rcases hJ.w w hw with ⟨q, _⟩ | ⟨q, _⟩ | ⟨_, _, _, q⟩
      · omega
      · omega
      · rcases q with q | q | q | q | q
        · rw [sB_36 q.1, hJ.M.hc, q.2.1]; rfl
        all_goals (have := q.1; omega)) (by
      rcases hJ.w w hw with ⟨q, _⟩ | ⟨q, _⟩ | ⟨_, _, _, q⟩
      · omega
      · omega
      · rcases q with q | q | q | q | q <;> have := q.1 <;> omega)
  refine ⟨(stepB m1 (a w)).m, upd a w y', lf', hs', wh', s3, fun IT => ?_⟩
  have fin := sc_sw itB IT KS (ps := ps) (i := i) (a := a) s3.M hlen hw hJ.l1 hJ.l2 hJ.l3 hway s1
  rw [i1] at fin
  rw [sc_cut, sc_e, decide_eq_true hi, br_t, klN, blkE, seqE, sc_27, hin, br_t, hc0, br_f, hwI, klN, seqE]
  have go : sxI itB E1001 A1001 K1001_25 3 ⟨[(3, .d (.ints .u8 ps)), (9, .ptr 0 0), (10, .ptr 8 0), (12, .own 9), (13, .own 10), (14, .own 11), (15, .own 12), (17, I i), (18, I (w : Int))], HH c n m1 a lf hs wh⟩ (kseq itB E1001 A1001 (.seq K1001_24 (.seq K1001_23 (.seq K1001_22 (.seq (.block 4 PW1) K1001_3)))) 3 (kblk 3 (kseq itB E1001 A1001 K1001_2 2 (kitV [3, 9, 10, 12, 13, 14, 15, 17] 13 IT (Z1001_29 itB KS))))) = IT (TT ps (i + 1) (HH c n (stepB m1 (a w)).m (upd a w y') lf' hs' wh')) := by
    rw [sc_25, hinW, br_t, Int.toNat_natCast, hJ.M.ok, hJ.ok w hw, Bool.and_self, br_t, s2, klN, seqE]
    refine (sc_24 itB _ c ps lf hs wh i (stepB m1 (a w)).m n a w (stepB m1 (a w)).way true (stepB m1 (a w)).x).trans ?_
    rw [Bool.not_true, br_f, klN, seqE]
    refine (sc_23 itB _ c ps lf hs wh i (stepB m1 (a w)).m n a w (stepB m1 (a w)).way true (stepB m1 (a w)).x).trans ?_
    rw [hinW, br_t, Int.toNat_natCast, klN, seqE]
    refine (sc_22 itB _ c ps lf hs wh i (stepB m1 (a w)).m n a w (stepB m1 (a w)).way (a w).line true (stepB m1 (a w)).x).trans ?_
    rw [hinW, br_t, Int.toNat_natCast, klN, seqE, blkE]
    exact fin
  rw [sc_26, hin, br_t]
  cases hb : decide (w64' (ps.getD i.toNat 0) > 200) with
  | true => rw [br_t, klN, seqE]; rw [hb, cond_true] at hm1; subst hm1; exact go
  | false => rw [br_f, klN, seqE]; rw [hb, cond_false] at hm1; subst hm1; exact go

theorem klE2 {Ω : Type} {it : Itr Ω} {E : Env Ω} {A : Ann} (b : CC) (n q : Nat) (s : SS) (lv : List Nat) (n0 : Nat) (IT : SS → Option Ω) (k : SE → SS → Option Ω) (b' : CC) : kseq it E A b n (kseq it E A b' n (kitV lv n0 IT k)) (.exit q) s = k (.exit q) s := id (Eq.refl _)

theorem sc_loop {c : Cf} {n : Nat} {ps : List Int} (hn0 : 0 < n) (hp : ∀ v, v ∈ ps → 0 ≤ v ∧ v ≤ 255) (hl : ps.length ≤ 800) : ∀ (r i N : Nat) (m : Mm) (a : Nat → Wk) (lf hs wh : List Int), i + r = ps.length → r < N → JI c n i m a lf hs wh →
    Tru (iter [3, 9, 10, 12, 13, 14, 15, 17] 13 (sxI itB E1001 A1001 L1001_29 2) N (TT ps (i : Int) (HH c n m a lf hs wh)) (Z1001_29 itB KS))
  | 0, i, N, m, a, lf, hs, wh, hr, hN, h => by
    obtain ⟨N, rfl⟩ : ∃ q, N = q + 1 := ⟨N - 1, by omega⟩
    rw [iter_succ, sc_cut, sc_e, decide_eq_false (by omega), br_f, klE2]
    have e := sc_z itB KS c ps lf hs wh i m n a
    refine (show ∀ o : Option (SV × SH), o = _ → Tru o from fun o ho => ?_) _ e
    rw [ho]; exact tru_ret
  | r + 1, i, N, m, a, lf, hs, wh, hr, hN, h => by
    obtain ⟨N, rfl⟩ : ∃ q, N = q + 1 := ⟨N - 1, by omega⟩
    obtain ⟨m', a', lf', hs', wh', h1, h2⟩ := sc_round hn0 hp (i := (i : Int)) (by omega) (by omega) (by omega) h
    rw [iter_succ, h2]
    have h1' : JI c n ((i + 1 : Nat) : Int) m' a' lf' hs' wh' := by push_cast; exact h1
    have := sc_loop hn0 hp hl r (i + 1) N m' a' lf' hs' wh' (by omega) (by omega) h1'
    rw [show ((i + 1 : Nat) : Int) = (i : Int) + 1 by push_cast; rfl] at this
    exact this

abbrev TF (ps : List Int) (i : Int) (h : SH) : SS := ⟨[(3, .d (.ints .u8 ps)), (9, .ptr 0 0), (10, .ptr 8 0), (12, .own 9), (13, .own 10), (14, .own 11), (15, .own 12), (16, I i)], h⟩
theorem sc_fill {c : Cf} {n : Nat} {ps lf hs wh : List Int} {m : Mm} (hn : c.a = n) (hn0 : 0 < n) (hn8 : n ≤ 8) (hp : ∀ v, v ∈ ps → 0 ≤ v ∧ v ≤ 255) (hl : ps.length ≤ 800) (hJ : ∀ a : Nat → Wk, (∀ k, k < n → a k = { wk0 with line := 33, slab := -1, E := 2 }) → JI c n 0 m a lf hs wh) : ∀ (r k N : Nat) (a : Nat → Wk), k + r = n → r < N → (∀ j, j < k → a j = { wk0 with line := 33, slab := -1, E := 2 }) →
    Tru (iter [3, 9, 10, 12, 13, 14, 15, 16] 13 (sxI itB E1001 A1001 L1001_31 0) N (TF ps k (HH c n m a lf hs wh)) (Z1001_31 itB KS))
  | 0, k, N, a, hr, hN, ha => by
    obtain ⟨N, rfl⟩ : ∃ q, N = q + 1 := ⟨N - 1, by omega⟩
    rw [iter_succ, sc_b, decide_eq_false (by omega), br_f, itB_def]
    exact sc_loop hn0 hp hl ps.length 0 big m a lf hs wh (by omega) (by unfold big; omega) (hJ a fun k hk => ha k (by omega))
  | r + 1, k, N, a, hr, hN, ha => by
    obtain ⟨N, rfl⟩ : ∃ q, N = q + 1 := ⟨N - 1, by omega⟩
    have ih := sc_fill hn hn0 hn8 hp hl hJ r (k + 1) N (upd a k { wk0 with line := 33, slab := -1, E := 2 }) (by omega) (by omega) (fun j hj => by
      by_cases e : j = k
      · subst e; exact if_pos rfl
      · rw [show upd a k { wk0 with line := 33, slab := -1, E := 2 } j = a j from if_neg e]; exact ha j (by omega))
    rw [show ((k + 1 : Nat) : Int) = (k : Int) + 1 by push_cast; rfl] at ih
    rw [iter_succ, sc_b, decide_eq_true (by omega), br_t, inB_of' (by omega) (by omega), br_t, w64_id (by omega) (by omega), Int.toNat_natCast]
    rw [rowW_upd6]
    exact ih

theorem chk1 {n b k : Int} (h1 : 1 ≤ n ∧ n ≤ 8) (h2 : 1 ≤ b ∧ b ≤ 3) (h3 : 1 ≤ k ∧ k ≤ 4) : chkC ⟨n, b, k, 1, 1, 0, 1, 1⟩ = 0 := by
  show chk n b k 1 1 0 1 1 = 0
  unfold chk
  rw [cond_eq_ite, cond_eq_ite, if_neg (by simp; omega), if_neg (by simp; omega)]

theorem JI.first {c : Cf} {n : Nat} (hc : chkC c = 0) (hn : c.a = n) {a : Nat → Wk} (ha : ∀ k, k < n → a k = { wk0 with line := 33, slab := -1, E := 2 }) : JI c n 0 ⟨c, ac0, flC c⟩ a (List.replicate n 0) (List.replicate c.b.toNat 0) (List.replicate c.b.toNat 0) := by
  obtain ⟨⟨a1, a2⟩, ⟨b1, b2⟩, _, _, ⟨e1, e2⟩, _⟩ := chk_zero hc
  have hM : MC c ⟨c, ac0, flC c⟩ := ⟨by simp only [okM, flC_u64 hc, Bool.and_true, beq_iff_eq]; exact hc, rfl, flC_len hc⟩
  have hs := flC_len hc
  have hz := szC_eq hc
  have g : ∀ (l j : Nat), (List.replicate l (0 : Int)).getD j 0 = 0 := fun l j => by
    rw [List.getD_eq_getElem?_getD, List.getElem?_replicate]; split <;> rfl
  have e0 : mLoadV ⟨c, ac0, flC c⟩ 0 = 2 := by
    have hok : Mm.ok ⟨c, ac0, flC c⟩ 0 = true := by
      rw [okA]; show _ ∧ (0 : Int) < ((flC c).length : Int)
      unfold sizeN at hz; omega
    unfold mLoadV; rw [hok, cond_true]
    show (flC c).getD 0 0 = 2
    rw [flC_get (by unfold sizeN at hz; omega)]; rfl
  refine ⟨hM, hn, List.length_replicate, by rw [List.length_replicate]; omega, by rw [List.length_replicate]; omega, by rw [e0]; omega, fun k hk => by rw [ha k hk]; decide, fun j j0 j1 _ => ?_, fun j _ _ => .inl (g _ _), fun k hk => .inl (by rw [ha k hk]; exact ⟨rfl, by decide, by show (0 : Int) < c.b; omega⟩)⟩
  have hok := hM.slab j0 j1
  rw [show gI (List.replicate c.b.toNat 0) j = 0 from g _ _]
  refine ⟨?_, Int.le_refl _, by rw [e0]; omega⟩
  unfold mLoadV
  rw [hok, cond_true, adr2_in hc j0 j1]
  show (flC c).getD (3 + c.a + j).toNat 0 = 0
  rw [flC_get (by unfold sizeN at hz; omega)]
  unfold fpart
  rw [if_neg (by omega), if_neg (by omega), if_neg (by omega)]

theorem mainS {p q r : Int} {ps : List Int} (hp : 0 ≤ p ∧ p ≤ 255) (hq : 0 ≤ q ∧ q ≤ 255) (hr : 0 ≤ r ∧ r ≤ 255) (hps : ∀ x, x ∈ ps → 0 ≤ x ∧ x ≤ 255) : Tru (sxFn E1001 A1001 C1001 [.d (.v (.int .u8 p)), .d (.v (.int .u8 q)), .d (.v (.int .u8 r)), .d (.ints .u8 ps)] [] KS) := by
  have gen : ∀ (p : Int) (k : Int), 0 ≤ p ∧ p ≤ 255 → 1 ≤ k ∧ k ≤ 8 → 1 ≤ w64' (1 + Int.tmod (w64' p) k) ∧ w64' (1 + Int.tmod (w64' p) k) ≤ k := fun p k hp hk => by
    have h1 : w64' p = p := w64_id (by omega) (by omega)
    have h2 := Int.tmod_nonneg k hp.1
    have h3 := Int.tmod_lt_of_pos p (b := k) (by omega)
    rw [h1, w64_id (by omega) (by omega)]
    omega
  have g1 := gen p 8 hp (by omega)
  have g2 := gen q 3 hq (by omega)
  have g3 := gen r 4 hr (by omega)
  obtain ⟨n, hn⟩ : ∃ n : Nat, w64' (1 + Int.tmod (w64' p) 8) = (n : Int) := ⟨_, (Int.toNat_of_nonneg (by omega)).symm⟩
  obtain ⟨b, hb⟩ : ∃ b : Int, w64' (1 + Int.tmod (w64' q) 3) = b := ⟨_, rfl⟩
  obtain ⟨k, hk⟩ : ∃ k : Int, w64' (1 + Int.tmod (w64' r) 4) = k := ⟨_, rfl⟩
  rw [hn] at g1; rw [hb] at g2; rw [hk] at g3
  have hc := chk1 g1 g2 g3
  rw [← sxFnI_eq, sc_n]
  rw [hn, hb, hk, show IntKind.wrap .i64 (1 + Int.tmod (w64' p) 8) = (n : Int) from hn, show IntKind.wrap .i64 (1 + Int.tmod (w64' q) 3) = b from hb]
  rw [show chkC (Cf.mk (n : Int) b k 1 1 0 1 1) = 0 from hc]
  refine Tru.br (fun _ => tru_ret) fun hlen => ?_
  have hl' : ps.length ≤ 800 := by have := of_decide_eq_false hlen; omega
  rw [show (!(0 : Int) == 0) = false from rfl, br_f]
  rw [show decide (0 ≤ (n : Int)) = true from decide_eq_true (by omega), show fits (Int.toNat (n : Int)) 360 = true from decide_eq_true (by omega), show fits (Int.toNat (n : Int)) 8 = true from decide_eq_true (by omega), Bool.and_self, br_t, br_t]
  rw [show decide (0 ≤ b) = true from decide_eq_true (by omega), show fits (Int.toNat b) 8 = true from decide_eq_true (by omega), Bool.and_self, br_t, br_t, itB_def, Int.toNat_natCast]
  exact sc_fill (c := ⟨n, b, k, 1, 1, 0, 1, 1⟩) (m := ⟨⟨n, b, k, 1, 1, 0, 1, 1⟩, ac0, flC ⟨n, b, k, 1, 1, 0, 1, 1⟩⟩) rfl (by omega) (by omega) hps hl' (fun a ha => JI.first hc rfl ha) n 0 big (fun _ => wk0) (by omega) (by unfold big; omega) (fun j hj => by omega)
end Go.Sx.Pr

/- A worker's state as an argument of a law. -/
namespace Go.Sx.Pr
open Go Go.Sx Go.Sx.Md Go.Proofs Go.ChangeShapes Go.WideShapes Go.ChangeAt Go.RowKit
set_option maxRecDepth 100000

section
variable {H : Type} {enc : TypeId × Value → H} {w : World}
end
end Go.Sx.Pr

/- A list of bytes as an argument of a law. -/
namespace Go.Sx.Pr
open Go Go.Sx Go.Proofs Go.ChangeShapes Go.WideShapes Go.ChangeAt Go.RowKit
set_option maxRecDepth 100000
theorem u8_wf {x : Int} (h : (Lit.int .u8 x).wf = true) : 0 ≤ x ∧ x ≤ 255 := by
  simp only [Lit.wf, Bool.and_eq_true, IntKind.min, IntKind.max, IntKind.signed, IntKind.bits] at h
  simpa using h
section
variable {H : Type} {enc : TypeId × Value → H} {w : World}
theorem bytes_arg {v : Value} {d : DataW H} {p : List MemPlace} {r : Reach} {base : Nat} (hv : Value.okWide Try.prog w r base 22 v) (h : DataW.Trod enc Try.prog w 0 (fun _ => true) true 22 v d p) :
    ∃ ws : List Int, (∀ x, x ∈ ws → 0 ≤ x ∧ x ≤ 255) ∧ SRep (cx0 w) w (.d (.ints .u8 ws)) v := by
  obtain ⟨n, L, hW, hR⟩ := arg_rep (kids_rows laid rowed) slicesFull (t := 22) (tlt (by omega)) (m := 2) (fun n => by simp only [suppT, Try.underlying22, Try.underlying5]) h
  rw [show n + 2 = (n + 1) + 1 from rfl] at hW
  simp only [Wt, Try.underlying22, Try.underlying5] at hW
  obtain ⟨ws, rfl, _, hws⟩ := hW
  refine ⟨ws, fun x hx => u8_wf (hws x hx), ?_⟩
  simp only [SRep]
  exact cell_rep hR fun c e => by
    subst e
    simp only [Value.okWide, Try.underlying22] at hv
    exact cell_not_agg hv ⟨_, Try.underlying22, .inr (.inr (.inr ⟨_, rfl⟩))⟩
end
end Go.Sx.Pr
