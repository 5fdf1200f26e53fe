/- EpochInside: the law answers true. -/
import Derived.Test.YtpnnnklahanecaaI5
namespace Go.Sx.Pr
open Go Go.Sx Go.Proofs
set_option maxRecDepth 100000
set_option linter.unusedVariables false

theorem sxI_seq {Ω : Type} {it : Itr Ω} {env : Env Ω} {A : Ann} {a b : CC} {c : Nat} {s : SS} {k : SE → SS → Option Ω} : sxI it env A (.seq a b) c s k = sxI it env A a c s (kseq it env A b c k) := by first | exact _root_.id (Eq.refl _)
theorem sxI_block {Ω : Type} {it : Itr Ω} {env : Env Ω} {A : Ann} {a : CC} {id c : Nat} {s : SS} {k : SE → SS → Option Ω} : sxI it env A (.block id a) c s k = sxI it env A a id s (kblk id k) := by first | exact _root_.id (Eq.refl _)
theorem kseq_norm {Ω : Type} {it : Itr Ω} {env : Env Ω} {A : Ann} {b : CC} {c : Nat} {s : SS} {k : SE → SS → Option Ω} : kseq it env A b c k .norm s = sxI it env A b c s k := by first | exact _root_.id (Eq.refl _)
theorem kseq_ret {Ω : Type} {it : Itr Ω} {env : Env Ω} {A : Ann} {b : CC} {c : Nat} {s : SS} {k : SE → SS → Option Ω} : kseq it env A b c k .ret s = k .ret s := by first | exact _root_.id (Eq.refl _)
theorem kseq_exit {Ω : Type} {it : Itr Ω} {env : Env Ω} {A : Ann} {b : CC} {c id : Nat} {s : SS} {k : SE → SS → Option Ω} : kseq it env A b c k (.exit id) s = k (.exit id) s := by first | exact _root_.id (Eq.refl _)
theorem kblk_norm {Ω : Type} {id : Nat} {s : SS} {k : SE → SS → Option Ω} : kblk id k .norm s = k .norm s := by first | exact _root_.id (Eq.refl _)
theorem kblk_ret {Ω : Type} {id : Nat} {s : SS} {k : SE → SS → Option Ω} : kblk id k .ret s = k .ret s := by first | exact _root_.id (Eq.refl _)

theorem sxFnI_start {Ω : Type} {it : Itr Ω} {env : Env Ω} {A : Ann} {C : CF} {args : List SV} {h : SH} {K : SV → SH → Option Ω} (hn : Nat.beq args.length C.np = true) : sxFnI it env A C args h K = sxI it env A C.code 0 ⟨number args 0, h⟩ (kfn C K) := by
  unfold sxFnI
  rw [hn, cond_true]

/-- True, with some heap. -/
def Tru (o : Option (SV × SH)) : Prop := ∃ H, o = some (B true, H)

theorem Tru.br {b : Bool} {x y : Option (SV × SH)} (h1 : b = true → Tru x) (h2 : b = false → Tru y) : Tru (br b x y) := by
  cases b with
  | true => exact h1 rfl
  | false => exact h2 rfl

abbrev TE (a b c d e f g l : Int) (ws : List Int) (w : Int) (r : List (Nat × SV)) : List (Nat × SV) := (0, cfgS a b c d e f g l) :: (1, .d (.ints .u64 ws)) :: (2, I w) :: (3, .ptr 0 0) :: (6, B false) :: r
abbrev S13 (x : Int) (s : Bool) (i : Int) (a b c d e f g l : Int) (ws : List Int) : SS := ⟨[(1, .d (.ints .u64 ws)), (3, .ptr 0 0), (11, U x), (12, B s), (13, I i)], [CFG a b c d e f g l]⟩
theorem e12 {Ω : Type} (it : Itr Ω) (K : SE → SS → Option Ω) (a b c d e f g l : Int) (ws : List Int) (w : Int) :
    sxI it E13 A13 K13_12 0 ⟨[(0, cfgS a b c d e f g l), (1, .d (.ints .u64 ws)), (2, I w)], []⟩ K =
    K .norm (SS.mk [(0, .agg [I a, I b, I c, I d, I e, I f, I g, U l]), (1, .d (DV.ints .u64 ws)), (2, I w), (3, .ptr 0 0), (6, B false)] [.cells 24 [I a, I b, I c, I d, I e, I f, I g, U l]]) := by kernel_rfl
theorem e11 {Ω : Type} (it : Itr Ω) (K : SE → SS → Option Ω) (a b c d e f g l : Int) (ws : List Int) (w : Int) :
    sxI it E13 A13 K13_11 0 ⟨TE a b c d e f g l ws w [], [CFG a b c d e f g l]⟩ K =
    K .norm (SS.mk [(0, .agg [I a, I b, I c, I d, I e, I f, I g, U l]), (1, .d (DV.ints .u64 ws)), (2, I w), (3, .ptr 0 0), (6, B false)] [.cells 24 [I a, I b, I c, I d, I e, I f, I g, U l]]) := by kernel_rfl
theorem e10 {Ω : Type} (it : Itr Ω) (K : SE → SS → Option Ω) (a b c d e f g l : Int) (ws : List Int) (w : Int) :
    sxI it E13 A13 K13_10 0 ⟨TE a b c d e f g l ws w [], [CFG a b c d e f g l]⟩ K =
    br (chk a b c d e f g l == 0) (br (decide (IntKind.wrap .i64 (b * c) > 40)) (K .ret (SS.mk [(0, .agg [I a, I b, I c, I d, I e, I f, I g, U l]), (1, .d (DV.ints .u64 ws)), (2, I w), (3, .ptr 0 0), (6, B true)] [.cells 24 [I a, I b, I c, I d, I e, I f, I g, U l]])) (br (decide (e > 16)) (K .ret (SS.mk [(0, .agg [I a, I b, I c, I d, I e, I f, I g, U l]), (1, .d (DV.ints .u64 ws)), (2, I w), (3, .ptr 0 0), (6, B true)] [.cells 24 [I a, I b, I c, I d, I e, I f, I g, U l]])) (br (decide ((↑(List.length ws) : Int) > 400)) (K .ret (SS.mk [(0, .agg [I a, I b, I c, I d, I e, I f, I g, U l]), (1, .d (DV.ints .u64 ws)), (2, I w), (3, .ptr 0 0), (6, B true)] [.cells 24 [I a, I b, I c, I d, I e, I f, I g, U l]])) (K .norm (SS.mk [(0, .agg [I a, I b, I c, I d, I e, I f, I g, U l]), (1, .d (DV.ints .u64 ws)), (2, I w), (3, .ptr 0 0), (6, B false)] [.cells 24 [I a, I b, I c, I d, I e, I f, I g, U l]]))))) (br (decide ((↑(List.length ws) : Int) > 400)) (K .ret (SS.mk [(0, .agg [I a, I b, I c, I d, I e, I f, I g, U l]), (1, .d (DV.ints .u64 ws)), (2, I w), (3, .ptr 0 0), (6, B true)] [.cells 24 [I a, I b, I c, I d, I e, I f, I g, U l]])) (K .norm (SS.mk [(0, .agg [I a, I b, I c, I d, I e, I f, I g, U l]), (1, .d (DV.ints .u64 ws)), (2, I w), (3, .ptr 0 0), (6, B false)] [.cells 24 [I a, I b, I c, I d, I e, I f, I g, U l]]))) := by kernel_rfl
theorem e9 {Ω : Type} (it : Itr Ω) (K : SE → SS → Option Ω) (a b c d e f g l : Int) (ws : List Int) (w : Int) :
    sxI it E13 A13 K13_9 0 ⟨TE a b c d e f g l ws w [], [CFG a b c d e f g l]⟩ K =
    br (u64B ws) (K .norm (SS.mk [(0, .agg [I a, I b, I c, I d, I e, I f, I g, U l]), (1, .d (DV.ints .u64 ws)), (2, I w), (3, .ptr 0 0), (6, B false), (7, U (Prod.fst (insV a b c d e f g l ws w))), (8, B (Prod.snd (insV a b c d e f g l ws w)))] [.cells 24 [I a, I b, I c, I d, I e, I f, I g, U l]])) none := by kernel_rfl
theorem e8 {Ω : Type} (it : Itr Ω) (K : SE → SS → Option Ω) (a b c d e f g l : Int) (ws : List Int) (w : Int) (x : Int) (s : Bool) :
    sxI it E13 A13 K13_8 0 ⟨TE a b c d e f g l ws w [(7, U x), (8, B s)], [CFG a b c d e f g l]⟩ K =
    br (u64B ws) (K .norm (SS.mk [(0, .agg [I a, I b, I c, I d, I e, I f, I g, U l]), (1, .d (DV.ints .u64 ws)), (2, I w), (3, .ptr 0 0), (6, B false), (7, U x), (8, B s), (9, U (Prod.fst (insV a b c d e f g l ws w))), (10, B (Prod.snd (insV a b c d e f g l ws w)))] [.cells 24 [I a, I b, I c, I d, I e, I f, I g, U l]])) none := by kernel_rfl
theorem e7 {Ω : Type} (it : Itr Ω) (K : SE → SS → Option Ω) (a b c d e f g l : Int) (ws : List Int) (w : Int) (x : Int) (s : Bool) (y : Int) (t : Bool) :
    sxI it E13 A13 K13_7 0 ⟨TE a b c d e f g l ws w [(7, U x), (8, B s), (9, U y), (10, B t)], [CFG a b c d e f g l]⟩ K =
    br (!x == y) (K .ret (SS.mk [(0, .agg [I a, I b, I c, I d, I e, I f, I g, U l]), (1, .d (DV.ints .u64 ws)), (2, I w), (3, .ptr 0 0), (6, B false), (7, U x), (8, B s), (9, U y), (10, B t)] [.cells 24 [I a, I b, I c, I d, I e, I f, I g, U l]])) (br (!s == t) (K .ret (SS.mk [(0, .agg [I a, I b, I c, I d, I e, I f, I g, U l]), (1, .d (DV.ints .u64 ws)), (2, I w), (3, .ptr 0 0), (6, B false), (7, U x), (8, B s), (9, U y), (10, B t)] [.cells 24 [I a, I b, I c, I d, I e, I f, I g, U l]])) (K .norm (SS.mk [(0, .agg [I a, I b, I c, I d, I e, I f, I g, U l]), (1, .d (DV.ints .u64 ws)), (2, I w), (3, .ptr 0 0), (6, B false), (7, U x), (8, B s), (9, U y), (10, B t)] [.cells 24 [I a, I b, I c, I d, I e, I f, I g, U l]]))) := by kernel_rfl
theorem e6 {Ω : Type} (it : Itr Ω) (K : SV → SH → Option Ω) (a b c d e f g l : Int) (ws : List Int) (w : Int) (x : Int) (s : Bool) (y : Int) (t : Bool) :
    sxI it E13 A13 (.seq K13_6 (.seq (.seq K13_5 (.block 0 (.loop L13_4))) K13_1)) 0 ⟨TE a b c d e f g l ws w [(7, U x), (8, B s), (9, U y), (10, B t)], [CFG a b c d e f g l]⟩ (kfn C13 K) =
    it [1, 3, 11, 12, 13] 1 (sxI it E13 A13 L13_4 0) (SS.mk [(1, .d (DV.ints .u64 ws)), (3, .ptr 0 0), (11, U 0), (12, B false), (13, I 0)] [.cells 24 [I a, I b, I c, I d, I e, I f, I g, U l]]) (Z13_4 it K) := by kernel_rfl
theorem e4 {Ω : Type} (it : Itr Ω) (IT : SS → Option Ω) (K : SV → SH → Option Ω) (x : Int) (s : Bool) (i : Int) (a b c d e f g l : Int) (ws : List Int) :
    sxI it E13 A13 L13_4 0 (S13 x s i a b c d e f g l ws) (kitV [1, 3, 11, 12, 13] 1 IT (Z13_4 it K)) =
    br (chk a b c d e f g l == 0) (br (decide (i < a)) (br (u64B ws) (br (Prod.snd (insV a b c d e f g l ws i)) (br (!s) (IT (SS.mk [(1, .d (DV.ints .u64 ws)), (3, .ptr 0 0), (11, U (Prod.fst (insV a b c d e f g l ws i))), (12, B true), (13, I (IntKind.wrap .i64 (i + 1)))] [.cells 24 [I a, I b, I c, I d, I e, I f, I g, U l]])) (br (decide (Prod.fst (insV a b c d e f g l ws i) < x)) (IT (SS.mk [(1, .d (DV.ints .u64 ws)), (3, .ptr 0 0), (11, U (Prod.fst (insV a b c d e f g l ws i))), (12, B true), (13, I (IntKind.wrap .i64 (i + 1)))] [.cells 24 [I a, I b, I c, I d, I e, I f, I g, U l]])) (IT (SS.mk [(1, .d (DV.ints .u64 ws)), (3, .ptr 0 0), (11, U x), (12, B s), (13, I (IntKind.wrap .i64 (i + 1)))] [.cells 24 [I a, I b, I c, I d, I e, I f, I g, U l]])))) (IT (SS.mk [(1, .d (DV.ints .u64 ws)), (3, .ptr 0 0), (11, U x), (12, B s), (13, I (IntKind.wrap .i64 (i + 1)))] [.cells 24 [I a, I b, I c, I d, I e, I f, I g, U l]]))) none) (br (u64B ws) (br (Prod.fst (lstV a b c d e f g l ws (lim a)) == x) (K (B (Prod.snd (lstV a b c d e f g l ws (lim a)) == s)) [.cells 24 [I a, I b, I c, I d, I e, I f, I g, U l]]) (K (B false) [.cells 24 [I a, I b, I c, I d, I e, I f, I g, U l]])) none)) (br (u64B ws) (br (Prod.fst (lstV a b c d e f g l ws (lim a)) == x) (K (B (Prod.snd (lstV a b c d e f g l ws (lim a)) == s)) [.cells 24 [I a, I b, I c, I d, I e, I f, I g, U l]]) (K (B false) [.cells 24 [I a, I b, I c, I d, I e, I f, I g, U l]])) none) := by kernel_rfl

theorem ret13 {it : Itr (SV × SH)} {b : CC} {c : Nat} {T : List (Nat × SV)} {H : SH} : kseq it E13 A13 b c (kfn C13 KS) .ret ⟨T, H⟩ = some (lk T 6, H) := rfl
theorem tru_ret13 {it : Itr (SV × SH)} {b : CC} {c : Nat} {T : List (Nat × SV)} {H : SH} (h : lk T 6 = B true) : Tru (kseq it E13 A13 b c (kfn C13 KS) .ret ⟨T, H⟩) := ⟨H, by rw [ret13, h]⟩

section
variable (a b c d e f g l : Int) (ws : List Int) (w : Int)

theorem lstV_none (hc : ¬ chk a b c d e f g l = 0) : ∀ n, lstV a b c d e f g l ws n = (0, false)
  | 0 => rfl
  | n + 1 => by
    simp only [lstV]
    rw [insV_no (fun h => hc h.1), lstV_none hc n]
    rfl

/-- What is behind the loop. -/
theorem fin13 (n : Nat) (hw : u64B ws = true) (he : lstV a b c d e f g l ws (lim a) = lstV a b c d e f g l ws n) :
    Tru (br (u64B ws) (br ((lstV a b c d e f g l ws (lim a)).1 == (lstV a b c d e f g l ws n).1) (KS (B ((lstV a b c d e f g l ws (lim a)).2 == (lstV a b c d e f g l ws n).2)) [CFG a b c d e f g l]) (KS (B false) [CFG a b c d e f g l])) none) := by
  rw [hw, he]
  simp only [br_t, beq_self_eq_true]
  exact ⟨_, rfl⟩

theorem loop13 (hw : u64B ws = true) : Tru (itB [1, 3, 11, 12, 13] 1 (sxI itB E13 A13 L13_4 0) (S13 0 false 0 a b c d e f g l ws) (Z13_4 itB KS)) := by
  by_cases hc : chk a b c d e f g l = 0
  · have hc' : (chk a b c d e f g l == 0) = true := by simp [hc]
    obtain ⟨⟨a1, a2⟩, _⟩ := chk_zero hc
    obtain ⟨A, rfl⟩ := Int.eq_ofNat_of_zero_le (show 0 ≤ a by omega)
    obtain ⟨n, hn⟩ := loop_n (f := sxI itB E13 A13 L13_4 0) (lv := [1, 3, 11, 12, 13]) (n0 := 1) (k := Z13_4 itB KS) (fun i => S13 (lstV A b c d e f g l ws i).1 (lstV A b c d e f g l ws i).2 (i : Int) A b c d e f g l ws) big A (by unfold big; omega) (fun i hi I => by
      rw [e4, hc', decide_eq_true (by omega), hw, w64 (by omega) (by omega)]
      simp only [br_t, lstV]
      cases h1 : (insV A b c d e f g l ws i).2 with
      | false => simp only [br_f, Bool.false_and, cond_false]; rfl
      | true =>
        simp only [br_t, Bool.true_and]
        cases h2 : (lstV A b c d e f g l ws i).2 with
        | false => simp only [Bool.not_false, br_t, Bool.true_or, cond_true]; rfl
        | true =>
          simp only [Bool.not_true, br_f, Bool.false_or]
          cases h3 : decide ((insV A b c d e f g l ws i).1 < (lstV A b c d e f g l ws i).1) with
          | true => simp only [br_t, cond_true]; rfl
          | false => simp only [br_f, cond_false, h2]; rfl)
    have h2 : Tru (sxI itB E13 A13 L13_4 0 (S13 (lstV A b c d e f g l ws A).1 (lstV A b c d e f g l ws A).2 (A : Int) A b c d e f g l ws) (kitV [1, 3, 11, 12, 13] 1 (fun s => iter [1, 3, 11, 12, 13] 1 (sxI itB E13 A13 L13_4 0) n s (Z13_4 itB KS)) (Z13_4 itB KS))) := by
      rw [e4, hc', br_t, decide_eq_false (by omega), br_f]
      exact fin13 A b c d e f g l ws A hw (by have : lim (A : Int) = A := by unfold lim; omega
                                              rw [this])
    rw [itB_def]
    rw [← hn] at h2
    exact h2
  · have hc' : (chk a b c d e f g l == 0) = false := by simp [hc]
    obtain ⟨n, hn, h2⟩ := itB_first (f := sxI itB E13 A13 L13_4 0) (lv := [1, 3, 11, 12, 13]) (n0 := 1) (k := Z13_4 itB KS) (s := S13 0 false 0 a b c d e f g l ws)
    rw [h2, e4, hc', br_f]
    exact fin13 a b c d e f g l ws 0 hw (by rw [lstV_none a b c d e f g l ws hc, lstV_none a b c d e f g l ws hc])

theorem main13 (hw : u64B ws = true) : Tru (sxFn E13 A13 C13 [cfgS a b c d e f g l, .d (.ints .u64 ws), I w] [] KS) := by
  rw [← sxFnI_eq, sxFnI_start rfl]
  rw [show C13.code = CC.seq K13_12 (.seq K13_11 (.seq K13_10 (.seq K13_9 (.seq K13_8 (.seq K13_7 (.seq K13_6 (.seq (.seq K13_5 (.block 0 (.loop L13_4))) K13_1))))))) from rfl]
  rw [show number [cfgS a b c d e f g l, .d (.ints .u64 ws), I w] 0 = [(0, cfgS a b c d e f g l), (1, .d (.ints .u64 ws)), (2, I w)] from rfl]
  rw [sxI_seq, e12, kseq_norm, sxI_seq, e11, kseq_norm, sxI_seq, e10]
  have rest : Tru (sxI itB E13 A13 (.seq K13_9 (.seq K13_8 (.seq K13_7 (.seq K13_6 (.seq (.seq K13_5 (.block 0 (.loop L13_4))) K13_1))))) 0 ⟨TE a b c d e f g l ws w [], [CFG a b c d e f g l]⟩ (kfn C13 KS)) := by
    rw [sxI_seq, e9, hw, br_t, kseq_norm, sxI_seq, e8, hw, br_t, kseq_norm, sxI_seq, e7]
    refine Tru.br (fun h => by simp at h) fun _ => Tru.br (fun h => by simp at h) fun _ => ?_
    rw [kseq_norm, e6]
    exact loop13 a b c d e f g l ws hw
  exact Tru.br (fun _ => Tru.br (fun _ => tru_ret13 rfl) fun _ => Tru.br (fun _ => tru_ret13 rfl) fun _ => Tru.br (fun _ => tru_ret13 rfl) fun _ => by rw [kseq_norm]; exact rest) fun _ => Tru.br (fun _ => tru_ret13 rfl) fun _ => by rw [kseq_norm]; exact rest
end

theorem walk13 {w : World} {v0 v1 v2 : Value} {a b c d e f g l : Int} {ws : List Int} {n : Int} (hw : u64B ws = true)
    (h0 : SRep (cx0 w) w (cfgS a b c d e f g l) v0) (h1 : SRep (cx0 w) w (.d (.ints .u64 ws)) v1) (h2 : SRep (cx0 w) w (I n) v2) :
    Calls Try.prog 13 #[v0, v1, v2] w fun e w' => e = .returned (.bool true) ∧ RowKit.Grown w w' ∧ ∀ b, b < w.heap.size → w'.heap[b]? = w.heap[b]? := by
  obtain ⟨H, hrun⟩ := main13 a b c d e f g l ws n hw
  exact law_calls (e13.ok _) mix Try.func13 c13 hrun (vals := [v0, v1, v2]) (by simp only [SRepL, and_true]; exact ⟨h0, h1, h2⟩)
end Go.Sx.Pr
