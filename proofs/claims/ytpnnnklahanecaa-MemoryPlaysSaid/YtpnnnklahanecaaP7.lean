/- MemoryPlays: one operation; the loop. -/
import Derived.Test.YtpnnnklahanecaaP6
namespace Go.Sx.Pr
open Go Go.Sx Go.Proofs
set_option maxRecDepth 100000

abbrev SW : CC := .seq K3_19 (.cond 80 K3_6 (.seq K3_18 (.cond 91 K3_7 (.seq K3_17 (.cond 105 K3_8 (.seq K3_16 (.cond 124 K3_9 (.seq K3_15 (.cond 139 K3_10 (.seq K3_14 (.cond 147 (.seq K3_13 (.seq K3_12 K3_11)) .skip)))))))))))

/-- Words. -/
def U64 (w : List Int) : Prop := ∀ v ∈ w, 0 ≤ v ∧ v ≤ 18446744073709551615

theorem U64.set {w : List Int} (h : U64 w) {x : Int} (hx : 0 ≤ x ∧ x ≤ 18446744073709551615) (i : Nat) : U64 (w.set i x) := fun v hv => by
  rcases List.mem_or_eq_of_mem_set hv with h1 | h1
  · exact h v h1
  · subst h1; exact hx

theorem U64.get {w : List Int} (h : U64 w) {i : Nat} (hi : i < w.length) : 0 ≤ w.getD i 0 ∧ w.getD i 0 ≤ 18446744073709551615 := by
  rw [List.getD_eq_getElem?_getD, List.getElem?_eq_getElem hi]
  exact h _ (List.getElem_mem hi)

theorem wrapU (x : Int) : 0 ≤ IntKind.wrap .u64 x ∧ IntKind.wrap .u64 x ≤ 18446744073709551615 := by
  rw [IntKind.wrap_u64]; omega

theorem wrap_back {v x : Int} (h : 0 ≤ v ∧ v ≤ 18446744073709551615) : IntKind.wrap .u64 (IntKind.wrap .u64 (v + x) - x) = v := by
  rw [IntKind.wrap_u64, IntKind.wrap_u64]; omega

section
variable {Ω : Type} (a b c d e f g l : Int) (ws w : List Int) (n : Nat) (ff : Nat → Nat → DV) (m : Nat) (r : Nat → Nat → DV) (s1 s2 s3 s4 s5 i q at' x y : Int)

/-- What an operation comes to: both memories alike. -/
def OpTo (X : (SE → SS → Option Ω) → Option Ω) : Prop :=
  ∃ (w' : List Int) (t1 t2 t3 t4 t5 : Int) (ext : List (Nat × SV)), (ext = [] ∨ ∃ z, ext = [(15, U z)]) ∧ U64 w' ∧ w'.length = w.length ∧
    ∀ K, X K = K .norm ⟨TM ws (.sl 4 n ff) i ((14, B true) :: (ext ++ [(79, I q)])), HM a b c d e f g l ws w' m r t1 t2 t3 t4 t5 q at' x y⟩

abbrev SO1 : SS := ⟨TM ws (.sl 4 n ff) i [(14, B true), (79, I q)], HM a b c d e f g l ws w m r s1 s2 s3 s4 s5 q at' x y⟩

theorem at_cases (at' : Int) (w : List Int) : (decide (at' < 0) = true ∧ ¬ 0 ≤ at') ∨ (decide (at' < 0) = false ∧ decide (at' ≥ (w.length : Int)) = true ∧ 0 ≤ at') ∨
    (decide (at' < 0) = false ∧ decide (at' ≥ (w.length : Int)) = false ∧ inB at' w.length = true ∧ at'.toNat < w.length ∧ 0 ≤ at') := by
  rcases Int.lt_or_le at' 0 with h | h
  · exact .inl ⟨by simp [h], by omega⟩
  · rcases Int.lt_or_le at' w.length with h1 | h1
    · exact .inr (.inr ⟨by simp; omega, by simp; omega, by simp [inB]; omega, by omega, h⟩)
    · exact .inr (.inl ⟨by simp; omega, by simp; omega, h⟩)

variable {x y w}
theorem toLoad (it : Itr Ω) (hw : U64 w) : OpTo a b c d e f g l ws w n ff m r i q at' x y (fun K => sxI it E3 A3 K3_6 2 (SO1 a b c d e f g l ws w n ff m r s1 s2 s3 s4 s5 i q at' x y) K) := by
  rcases at_cases at' w with ⟨h1, _⟩ | ⟨h1, h2, _⟩ | ⟨h1, h2, h3, h4, _⟩
  · exact ⟨w, 0, 0, 0, 0, 0, [], .inl rfl, hw, rfl, fun K => by dsimp only; rw [oLoad]; simp only [h1, br_t]; rfl⟩
  · exact ⟨w, 0, 0, 0, 0, 0, [], .inl rfl, hw, rfl, fun K => by dsimp only; rw [oLoad]; simp only [h1, h2, br_t, br_f]; rfl⟩
  · exact ⟨w, 1, at', 0, 0, w.getD at'.toNat 0, [], .inl rfl, hw, rfl, fun K => by dsimp only; rw [oLoad]; simp only [h1, h2, h3, br_t, br_f, beq_self_eq_true]; rfl⟩

theorem toStore (it : Itr Ω) (hw : U64 w) (hx : 0 ≤ x ∧ x ≤ 18446744073709551615) : OpTo a b c d e f g l ws w n ff m r i q at' x y (fun K => sxI it E3 A3 K3_7 2 (SO1 a b c d e f g l ws w n ff m r s1 s2 s3 s4 s5 i q at' x y) K) := by
  rcases at_cases at' w with ⟨h1, _⟩ | ⟨h1, h2, _⟩ | ⟨h1, h2, h3, h4, _⟩
  · exact ⟨w, 0, 0, 0, 0, 0, [], .inl rfl, hw, rfl, fun K => by dsimp only; rw [oStore]; simp only [h1, br_t]; rfl⟩
  · exact ⟨w, 0, 0, 0, 0, 0, [], .inl rfl, hw, rfl, fun K => by dsimp only; rw [oStore]; simp only [h1, h2, br_t, br_f]; rfl⟩
  · exact ⟨w.set at'.toNat x, 2, at', x, 0, w.getD at'.toNat 0, [], .inl rfl, hw.set hx _, by simp, fun K => by dsimp only; rw [oStore]; simp only [h1, h2, h3, br_t, br_f]; rfl⟩

theorem toCas (it : Itr Ω) (hw : U64 w) (hy : 0 ≤ y ∧ y ≤ 18446744073709551615) : OpTo a b c d e f g l ws w n ff m r i q at' x y (fun K => sxI it E3 A3 K3_8 2 (SO1 a b c d e f g l ws w n ff m r s1 s2 s3 s4 s5 i q at' x y) K) := by
  rcases at_cases at' w with ⟨h1, _⟩ | ⟨h1, h2, _⟩ | ⟨h1, h2, h3, h4, _⟩
  · exact ⟨w, 0, 0, 0, 0, 0, [], .inl rfl, hw, rfl, fun K => by dsimp only; rw [oCas]; simp only [h1, br_t]; rfl⟩
  · exact ⟨w, 0, 0, 0, 0, 0, [], .inl rfl, hw, rfl, fun K => by dsimp only; rw [oCas]; simp only [h1, h2, br_t, br_f]; rfl⟩
  · cases h5 : (w.getD at'.toNat 0 == x) with
    | true => exact ⟨w.set at'.toNat y, 3, at', x, y, w.getD at'.toNat 0, [], .inl rfl, hw.set hy _, by simp, fun K => by dsimp only; rw [oCas]; simp only [h1, h2, h3, h5, br_t, br_f, Bool.not_true, beq_self_eq_true]; rfl⟩
    | false => exact ⟨w, 3, at', x, y, w.getD at'.toNat 0, [], .inl rfl, hw, rfl, fun K => by dsimp only; rw [oCas]; simp only [h1, h2, h3, h5, br_t, br_f, Bool.not_false, beq_self_eq_true]; rfl⟩

theorem toAdd (it : Itr Ω) (hw : U64 w) : OpTo a b c d e f g l ws w n ff m r i q at' x y (fun K => sxI it E3 A3 K3_9 2 (SO1 a b c d e f g l ws w n ff m r s1 s2 s3 s4 s5 i q at' x y) K) := by
  rcases at_cases at' w with ⟨h1, _⟩ | ⟨h1, h2, _⟩ | ⟨h1, h2, h3, h4, _⟩
  · exact ⟨w, 0, 0, 0, 0, 0, [], .inl rfl, hw, rfl, fun K => by dsimp only; rw [oAdd]; simp only [h1, br_t]; rfl⟩
  · exact ⟨w, 0, 0, 0, 0, 0, [], .inl rfl, hw, rfl, fun K => by dsimp only; rw [oAdd]; simp only [h1, h2, br_t, br_f]; rfl⟩
  · have h5 : (w.set at'.toNat (IntKind.wrap .u64 (w.getD at'.toNat 0 + x))).getD at'.toNat 0 = IntKind.wrap .u64 (w.getD at'.toNat 0 + x) := by
      simp [List.getD_eq_getElem?_getD, h4]
    exact ⟨w.set at'.toNat (IntKind.wrap .u64 (w.getD at'.toNat 0 + x)), 4, at', x, 0, w.getD at'.toNat 0, [], .inl rfl, hw.set (wrapU _) _, by simp, fun K => by
      dsimp only; rw [oAdd]; simp only [h1, h2, h3, h5, br_t, br_f, wrap_back (hw.get h4), beq_self_eq_true]; rfl⟩

theorem toClear (it : Itr Ω) (hw : U64 w) : OpTo a b c d e f g l ws w n ff m r i q at' x y (fun K => sxI it E3 A3 K3_10 2 (SO1 a b c d e f g l ws w n ff m r s1 s2 s3 s4 s5 i q at' x y) K) :=
  ⟨w, 0, 0, 0, 0, 0, [], .inl rfl, hw, rfl, fun K => by dsimp only; rw [oClear]; rfl⟩

theorem toPeek (it : Itr Ω) (hw : U64 w) : OpTo a b c d e f g l ws w n ff m r i q at' x y (fun K => sxI it E3 A3 (.seq K3_13 (.seq K3_12 K3_11)) 2 (SO1 a b c d e f g l ws w n ff m r s1 s2 s3 s4 s5 i q at' x y) K) := by
  rcases at_cases at' w with ⟨h1, h0⟩ | ⟨h1, h2, h0⟩ | ⟨h1, h2, h3, h4, h0⟩
  · have h5 : decide (at' ≥ 0) = false := by simp; omega
    exact ⟨w, s1, s2, s3, s4, s5, [(15, U 0)], .inr ⟨_, rfl⟩, hw, rfl, fun K => by dsimp only; rw [oPeek]; simp only [h1, h5, br_t, br_f, beq_self_eq_true]; rfl⟩
  · have h5 : decide (at' ≥ 0) = true := by simp; omega
    have h6 : decide (at' < (w.length : Int)) = false := by simp at h2 ⊢; omega
    exact ⟨w, s1, s2, s3, s4, s5, [(15, U 0)], .inr ⟨_, rfl⟩, hw, rfl, fun K => by dsimp only; rw [oPeek]; simp only [h1, h2, h5, h6, br_t, br_f, beq_self_eq_true]; rfl⟩
  · have h5 : decide (at' ≥ 0) = true := by simp; omega
    have h6 : decide (at' < (w.length : Int)) = true := by simp at h2 ⊢; omega
    exact ⟨w, s1, s2, s3, s4, s5, [(15, U (w.getD at'.toNat 0))], .inr ⟨_, rfl⟩, hw, rfl, fun K => by dsimp only; rw [oPeek]; simp only [h1, h2, h3, h5, h6, br_t, br_f, beq_self_eq_true]; rfl⟩

theorem opStep (it : Itr Ω) (hw : U64 w) (hx : 0 ≤ x ∧ x ≤ 18446744073709551615) (hy : 0 ≤ y ∧ y ≤ 18446744073709551615) :
    OpTo a b c d e f g l ws w n ff m r i q at' x y (fun K => sxI it E3 A3 SW 2 (SO1 a b c d e f g l ws w n ff m r s1 s2 s3 s4 s5 i q at' x y) K) := by
  have go : ∀ {X Y : (SE → SS → Option Ω) → Option Ω}, (∀ K, X K = Y K) → OpTo a b c d e f g l ws w n ff m r i q at' x y Y → OpTo a b c d e f g l ws w n ff m r i q at' x y X := fun hXY ⟨w', t1, t2, t3, t4, t5, ext, p1, p2, p3, p4⟩ => ⟨w', t1, t2, t3, t4, t5, ext, p1, p2, p3, fun K => by rw [hXY, p4]⟩
  cases h1 : (q == 1) with
  | true => exact go (fun K => by rw [sel1, h1, br_t]) (toLoad a b c d e f g l ws n ff m r s1 s2 s3 s4 s5 i q at' it hw)
  | false =>
  cases h2 : (q == 2) with
  | true => exact go (fun K => by rw [sel1, h1, br_f, sel2, h2, br_t]) (toStore a b c d e f g l ws n ff m r s1 s2 s3 s4 s5 i q at' it hw hx)
  | false =>
  cases h3 : (q == 3) with
  | true => exact go (fun K => by rw [sel1, h1, br_f, sel2, h2, br_f, sel3, h3, br_t]) (toCas a b c d e f g l ws n ff m r s1 s2 s3 s4 s5 i q at' it hw hy)
  | false =>
  cases h4 : (q == 4) with
  | true => exact go (fun K => by rw [sel1, h1, br_f, sel2, h2, br_f, sel3, h3, br_f, sel4, h4, br_t]) (toAdd a b c d e f g l ws n ff m r s1 s2 s3 s4 s5 i q at' it hw)
  | false =>
  cases h5 : (q == 5) with
  | true => exact go (fun K => by rw [sel1, h1, br_f, sel2, h2, br_f, sel3, h3, br_f, sel4, h4, br_f, sel5, h5, br_t]) (toClear a b c d e f g l ws n ff m r s1 s2 s3 s4 s5 i q at' it hw)
  | false =>
  cases h6 : (q == 6) with
  | true => exact go (fun K => by rw [sel1, h1, br_f, sel2, h2, br_f, sel3, h3, br_f, sel4, h4, br_f, sel5, h5, br_f, sel6, h6, br_t]) (toPeek a b c d e f g l ws n ff m r s1 s2 s3 s4 s5 i q at' it hw)
  | false => exact ⟨w, s1, s2, s3, s4, s5, [], .inl rfl, hw, rfl, fun K => by
      dsimp only
      rw [sel1, h1, br_f, sel2, h2, br_f, sel3, h3, br_f, sel4, h4, br_f, sel5, h5, br_f, sel6, h6, br_f]; rfl⟩
end

section
variable {Ω : Type} (K : SV → SH → Option Ω) (a b c d e f g l : Int) (ws : List Int) (n : Nat) (kk aa xx yy : Nat → Int) (m : Nat) (r : Nat → Nat → DV)

theorem round3 {w : List Int} (s1 s2 s3 s4 s5 : Int) {i : Nat} (hi : i < n) (hn : n ≤ 1000) (hw : U64 w) (hx : ∀ j, j < n → 0 ≤ xx j ∧ xx j ≤ 18446744073709551615) (hy : ∀ j, j < n → 0 ≤ yy j ∧ yy j ≤ 18446744073709551615) :
    ∃ (w' : List Int) (t1 t2 t3 t4 t5 : Int), U64 w' ∧ w'.length = w.length ∧ ∀ IT : SS → Option Ω, sxI itB E3 A3 L3_24 0 (SL a b c d e f g l ws w n kk aa xx yy m r s1 s2 s3 s4 s5 i) (kitV [1, 2, 3, 7, 8, 11, 12] 14 IT (Z3_24 itB K)) =
      IT (SL a b c d e f g l ws w' n kk aa xx yy m r t1 t2 t3 t4 t5 ((i + 1 : Nat) : Int)) := by
  obtain ⟨w', t1, t2, t3, t4, t5, ext, h1, h2, h3, h4⟩ := opStep (Ω := Ω) a b c d e f g l ws n (acts kk aa xx yy) m r s1 s2 s3 s4 s5 i (kk ((i : Int)).toNat) (aa ((i : Int)).toNat) itB hw (hx ((i : Int)).toNat (by omega)) (hy ((i : Int)).toNat (by omega))
  dsimp only at h4
  refine ⟨w', t1, t2, t3, t4, t5, h2, h3, fun IT => ?_⟩
  have hwr : IntKind.wrap .i64 ((i : Int) + 1) = ((i + 1 : Nat) : Int) := by rw [w64] <;> omega
  rw [show L3_24 = CC.seq K3_23 (.seq (.block 1 (.seq K3_22 (.seq K3_21 (.seq (.seq K3_20 (.block 2 SW)) K3_5)))) K3_4) from rfl]
  rw [sxI_seq, t23, decide_eq_true (by omega), br_t, kseq_norm, sxI_seq, sxI_block, t22]
  have hb : inB (i : Int) n = true := by simp [inB]; omega
  rw [hb, br_t, h4, kblk_norm, kseq_norm]
  rcases h1 with rfl | ⟨z, rfl⟩
  · simp only [List.nil_append]
    rw [oChk]
    simp only [beq_self_eq_true, Bool.and_self, Bool.not_true, br_f, kblk_norm, kseq_norm]
    rw [tInc, hwr]
  · simp only [List.nil_append, List.cons_append]
    rw [oChk2]
    simp only [beq_self_eq_true, Bool.and_self, Bool.not_true, br_f, kblk_norm, kseq_norm]
    rw [tInc', hwr]

theorem loop3 (hn : n ≤ 1000) (hx : ∀ j, j < n → 0 ≤ xx j ∧ xx j ≤ 18446744073709551615) (hy : ∀ j, j < n → 0 ≤ yy j ∧ yy j ≤ 18446744073709551615) : ∀ (k i N : Nat) (w : List Int) (s1 s2 s3 s4 s5 : Int), n - i = k → i ≤ n → k < N → U64 w →
    ∃ (w' : List Int) (t1 t2 t3 t4 t5 : Int), U64 w' ∧ w'.length = w.length ∧ iter [1, 2, 3, 7, 8, 11, 12] 14 (sxI itB E3 A3 L3_24 0) N (SL a b c d e f g l ws w n kk aa xx yy m r s1 s2 s3 s4 s5 i) (Z3_24 itB K) =
      Z3_24 itB K (.exit 0) (SL a b c d e f g l ws w' n kk aa xx yy m r t1 t2 t3 t4 t5 n)
  | k, i, 0, _, _, _, _, _, _, _, _, h, _ => by omega
  | k, i, N + 1, w, s1, s2, s3, s4, s5, hk, hi, hN, hw => by
    by_cases h : i < n
    · obtain ⟨w', t1, t2, t3, t4, t5, h2, h3, h4⟩ := round3 K a b c d e f g l ws n kk aa xx yy m r s1 s2 s3 s4 s5 h hn hw hx hy
      obtain ⟨w2, u1, u2, u3, u4, u5, h5, h6, h7⟩ := loop3 hn hx hy (k - 1) (i + 1) N w' t1 t2 t3 t4 t5 (by omega) (by omega) (by omega) h2
      exact ⟨w2, u1, u2, u3, u4, u5, h5, h6.trans h3, by rw [iter_succ, h4, h7]⟩
    · have e : i = n := by omega
      subst e
      refine ⟨w, s1, s2, s3, s4, s5, hw, rfl, ?_⟩
      rw [iter_succ, show L3_24 = CC.seq K3_23 (.seq (.block 1 (.seq K3_22 (.seq K3_21 (.seq (.seq K3_20 (.block 2 SW)) K3_5)))) K3_4) from rfl, sxI_seq, t23, decide_eq_false (by omega), br_f, kseq_exit]
      rfl
end
end Go.Sx.Pr
