/- MemoryPlays: the law answers true. -/
import Derived.Test.YtpnnnklahanecaaP8
namespace Go.Sx.Pr
open Go Go.Sx Go.Proofs
set_option maxRecDepth 100000

theorem sxFnI_start {Ω : Type} {it : Itr Ω} {env : Env Ω} {A : Ann} {C : CF} {args : List SV} {h : SH} {K : SV → SH → Option Ω} (hn : Nat.beq args.length C.np = true) : sxFnI it env A C args h K = sxI it env A C.code 0 ⟨number args 0, h⟩ (kfn C K) := by
  unfold sxFnI
  rw [hn, cond_true]

/-- True, with some heap. -/
def Tru (o : Option (SV × SH)) : Prop := ∃ H, o = some (B true, H)

theorem Tru.br {b : Bool} {x y : Option (SV × SH)} (h1 : b = true → Tru x) (h2 : b = false → Tru y) : Tru (br b x y) := by
  cases b with
  | true => exact h1 rfl
  | false => exact h2 rfl

abbrev KR : SV → SH → Option (SV × SH) := fun r h => some (r, h)

theorem ret3 {it : Itr (SV × SH)} {b : CC} {c : Nat} {T : List (Nat × SV)} {H : SH} : kseq it E3 A3 b c (kfn C3 KR) .ret ⟨T, H⟩ = some (lk T 6, H) := rfl
theorem tru_ret {it : Itr (SV × SH)} {b : CC} {c : Nat} {T : List (Nat × SV)} {H : SH} (h : lk T 6 = B true) : Tru (kseq it E3 A3 b c (kfn C3 KR) .ret ⟨T, H⟩) := ⟨H, by rw [ret3, h]⟩

theorem s25 {Ω : Type} (it : Itr Ω) (K : SV → SH → Option Ω) (a b c d e f g l q q2 : Int) (ws w : List Int) (n : Nat) (kk aa xx yy : Nat → Int) (m : Nat) (r : Nat → Nat → DV) (s1 s2 s3 s4 s5 : Int) :
    sxI it E3 A3 (.seq (.seq K3_25 (.block 0 (.loop L3_24))) (.seq K3_3 (.seq K3_2 K3_1))) 0 ⟨TP a b c d e f g l ws n (acts kk aa xx yy) [(7, .own 2), (8, .ptr 6 0), (9, I q), (10, I q2), (11, .ptr 13 0)], HL a b c d e f g l ws w m r s1 s2 s3 s4 s5⟩ (kfn C3 K) =
      it [1, 2, 3, 7, 8, 11, 12] 14 (sxI it E3 A3 L3_24 0) (SL a b c d e f g l ws w n kk aa xx yy m r s1 s2 s3 s4 s5 0) (Z3_24 it K) := by kernel_rfl

section
variable (a b c d e f g l : Int) (ws : List Int) (n : Nat) (kk aa xx yy : Nat → Int)

theorem fin3T {w : List Int} (m : Nat) (r : Nat → Nat → DV) (s1 s2 s3 s4 s5 i : Int) (hl : w.length ≤ 400) (hl2 : ws.length ≤ 400) : Tru (Z3_24 itB KR (.exit 0) (SL a b c d e f g l ws w n kk aa xx yy m r s1 s2 s3 s4 s5 i)) := by
  rw [fin3]
  have h1 : fits w.length 8 = true := fits_of (by omega)
  have h2 : decide (w.length < 1000000000) = true := by simp; omega
  have h3 : decide (ws.length < 1000000000) = true := by simp; omega
  have h4 : decide (w = w) = true := by simp
  have h5 : decide (ws = ws) = true := by simp
  have h6 : (a == a && (b == b && (c == c && (d == d && (e == e && (f == f && (g == g && (l == l && true)))))))) = true := by simp
  simp only [h1, h2, h3, h6, decide_true, br_t, Bool.not_true, br_f]
  refine Tru.br (fun _ => ⟨_, rfl⟩) fun h => ?_
  have h7 : inB 0 w.length = true := by simp only [decide_eq_false_iff_not] at h; simp only [inB, Bool.and_eq_true, decide_eq_true_eq]; omega
  rw [h7, br_t]
  exact ⟨_, rfl⟩

theorem szZ_eq (h : chk a b c d e f g l = 0) : szZ a b c d e f g l = ((sizeN a.toNat b.toNat c.toNat d.toNat e.toNat : Nat) : Int) := by simp [szZ, h]

theorem main3 (hw : U64 ws) (hx : ∀ j, j < n → 0 ≤ xx j ∧ xx j ≤ 18446744073709551615) (hy : ∀ j, j < n → 0 ≤ yy j ∧ yy j ≤ 18446744073709551615) :
    Tru (sxFn E3 A3 C3 [cfgS a b c d e f g l, .d (.ints .u64 ws), .d (.sl 4 n (acts kk aa xx yy))] [] KR) := by
  rw [← sxFnI_eq, sxFnI_start rfl]
  rw [show C3.code = CC.seq K3_35 (.seq K3_34 (.seq K3_33 (.seq K3_32 (.seq K3_31 (.seq K3_30 (.seq K3_29 (.seq K3_28 (.seq K3_27 (.seq K3_26 (.seq (.seq K3_25 (.block 0 (.loop L3_24))) (.seq K3_3 (.seq K3_2 K3_1)))))))))))) from rfl]
  rw [show number [cfgS a b c d e f g l, .d (.ints .u64 ws), .d (.sl 4 n (acts kk aa xx yy))] 0 = [(0, cfgS a b c d e f g l), (1, .d (.ints .u64 ws)), (2, .d (.sl 4 n (acts kk aa xx yy)))] from rfl]
  rw [sxI_seq, p35, kseq_norm, sxI_seq, p34, kseq_norm, sxI_seq, p33]
  have rest : ws.length ≤ 400 → n ≤ 60 → Tru (sxI itB E3 A3 (.seq K3_32 (.seq K3_31 (.seq K3_30 (.seq K3_29 (.seq K3_28 (.seq K3_27 (.seq K3_26 (.seq (.seq K3_25 (.block 0 (.loop L3_24))) (.seq K3_3 (.seq K3_2 K3_1)))))))))) 0 ⟨TP a b c d e f g l ws n (acts kk aa xx yy) [], [CFG a b c d e f g l]⟩ (kfn C3 KR)) := by
    intro hl hn
    rw [sxI_seq, p32, fits_of (by omega), br_t, kseq_norm, sxI_seq, p31]
    by_cases hc : chk a b c d e f g l = 0
    · have hc' : (chk a b c d e f g l == 0) = true := by simp [hc]
      simp only [hc', Bool.not_true, br_f]
      refine Tru.br (fun h => ?_) fun h => ?_
      · rw [kseq_norm, sxI_seq, p30A, kseq_norm, sxI_seq, p29A]
        simp only [hc', br_t]
        rw [← szZ_eq a b c d e f g l hc, h, br_t, kseq_norm, sxI_seq, p28B]
        refine Tru.br (fun h => by cases h) fun _ => Tru.br (fun h => by cases h) fun _ => ?_
        rw [kseq_norm, sxI_seq, p27B]
        exact Tru.br (fun _ => tru_ret rfl) fun h => by cases h
      · have h' : ((ws.length : Nat) : Int) = szZ a b c d e f g l := by simpa using h
        rw [fits_of (by omega), br_t, kseq_norm, sxI_seq, p30C, kseq_norm, sxI_seq, p29C]
        simp only [hc', br_t]
        rw [← szZ_eq a b c d e f g l hc, h, br_f, kseq_norm, sxI_seq, hc, p28C]
        refine Tru.br (fun h => by cases h) fun _ => Tru.br (fun h => by cases h) fun _ => ?_
        rw [kseq_norm, sxI_seq, p27C]
        refine Tru.br (fun h => by cases h) fun _ => ?_
        rw [kseq_norm, sxI_seq, p26C, fits_of (by omega), br_t, kseq_norm, s25, itB_def]
        obtain ⟨w', t1, t2, t3, t4, t5, h1, h2, h3⟩ := loop3 KR a b c d e f g l ws n kk aa xx yy (sizeN a.toNat b.toNat c.toNat d.toNat e.toNat) (qAll a.toNat b.toNat c.toNat d.toNat e.toNat) (by omega) hx hy n 0 big ws 0 0 0 0 0 (by omega) (by omega) (by unfold big; omega) hw
        have h4 := fin3T a b c d e f g l ws n kk aa xx yy (w := w') (sizeN a.toNat b.toNat c.toNat d.toNat e.toNat) (qAll a.toNat b.toNat c.toNat d.toNat e.toNat) t1 t2 t3 t4 t5 n (by omega) hl
        rw [← h3] at h4
        exact h4
    · have hc' : (chk a b c d e f g l == 0) = false := by simp [hc]
      simp only [hc', Bool.not_false, br_t]
      rw [kseq_norm, sxI_seq, p30A, kseq_norm, sxI_seq, p29A]
      simp only [hc', br_f]
      rw [kseq_norm, sxI_seq, p28A]
      refine Tru.br (fun h => ?_) fun _ => Tru.br (fun h => ?_) fun _ => ?_
      · simp at h
      · simp [hc] at h
      rw [kseq_norm, sxI_seq, p27A]
      exact Tru.br (fun _ => tru_ret rfl) fun h => by simp [hc] at h
  refine Tru.br (fun _ => Tru.br (fun _ => tru_ret rfl) fun _ => Tru.br (fun _ => tru_ret rfl) fun _ => Tru.br (fun _ => tru_ret rfl) fun h1 => Tru.br (fun _ => tru_ret rfl) fun h2 => rest ?_ ?_) fun _ => Tru.br (fun _ => tru_ret rfl) fun h1 => Tru.br (fun _ => tru_ret rfl) fun h2 => rest ?_ ?_
  · simp at h1; omega
  · simp at h2; omega
  · simp at h1; omega
  · simp at h2; omega
end
end Go.Sx.Pr
