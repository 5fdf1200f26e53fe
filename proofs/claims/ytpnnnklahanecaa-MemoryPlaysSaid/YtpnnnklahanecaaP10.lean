/- MemoryPlays: the statement. -/
import Derived.Test.YtpnnnklahanecaaP9
import Derived.Test.YtpnnnklahanecaaSxArg
namespace Go.Sx.Pr
open Go Go.Sx Go.Proofs Go.ChangeShapes Go.WideShapes Go.ChangeAt Go.RowKit
set_option maxRecDepth 100000

theorem laid : laidOutB Try.prog = true := by kernel_rfl
theorem rowed : mapsRowed Try.prog = true := by kernel_rfl
theorem slicesFull : ∀ t e, t < Try.prog.types.size → Try.prog.underlying t = some (.slice e) → 0 < Try.prog.cellsOf e := slices_full_of Try.prog (by kernel_rfl)
theorem typesN : Nat.blt 100 Try.prog.types.size = true := by kernel_rfl
theorem tlt {t : Nat} (h : t ≤ 100) : t < Try.prog.types.size := by
  have := Nat.le_of_ble_eq_true typesN
  omega
theorem cells24 : Try.prog.cellsOf 24 = 8 := by kernel_rfl
theorem cells43 : Try.prog.cellsOf 43 = 4 := by kernel_rfl
theorem cells22 : Try.prog.cellsOf 22 = 1 := by kernel_rfl

section
variable {H : Type} {enc : TypeId × Value → H} {w : World}

theorem cfg_arg {v : Value} {d : DataW H} {p : List MemPlace} (h : DataW.Trod enc Try.prog w 0 (fun _ => true) true 24 v d p) : ∃ a b c d e f g l, SRep (cx0 w) w (cfgS a b c d e f g l) v := by
  obtain ⟨n, L, hW, hR⟩ := arg_rep (kids_rows laid rowed) slicesFull (t := 24) (tlt (by omega)) (m := 2) (fun n => by simp only [suppT, Try.underlying24, Try.underlying3, Try.underlying22]; rfl) h
  obtain ⟨xs, h1, h2, _⟩ := wt_struct (ks := cfgK) Try.underlying24 cells24 (by kernel_rfl) hW
  obtain ⟨a, b, c, d, e, f, g, l, rfl⟩ := eight h1
  refine ⟨a, b, c, d, e, f, g, l, ?_⟩
  have := agg_rep (cx := cx0 w) hR (by rw [h2]; simp)
  rw [h2] at this
  exact this

theorem words_arg {v : Value} {d : DataW H} {p : List MemPlace} {r : Reach} {base : Nat} (hv : Value.okWide Try.prog w r base 25 v) (h : DataW.Trod enc Try.prog w 0 (fun _ => true) true 25 v d p) :
    ∃ ws, U64 ws ∧ SRep (cx0 w) w (.d (.ints .u64 ws)) v := by
  obtain ⟨n, L, hW, hR⟩ := arg_rep (kids_rows laid rowed) slicesFull (t := 25) (tlt (by omega)) (m := 2) (fun n => by simp only [suppT, Try.underlying25, Try.underlying22]) h
  rw [show n + 2 = (n + 1) + 1 from rfl] at hW
  simp only [Wt, Try.underlying25, Try.underlying22] at hW
  obtain ⟨ws, rfl, _, hws⟩ := hW
  refine ⟨ws, fun x hx => u64_wf (hws x hx), ?_⟩
  simp only [SRep]
  exact cell_rep hR fun c e => by
    subst e
    simp only [Value.okWide, Try.underlying25] at hv
    exact cell_not_agg hv ⟨_, Try.underlying25, .inr (.inr (.inr ⟨_, rfl⟩))⟩

theorem acts_arg {v : Value} {d : DataW H} {p : List MemPlace} {r : Reach} {base : Nat} (hv : Value.okWide Try.prog w r base 26 v) (h : DataW.Trod enc Try.prog w 0 (fun _ => true) true 26 v d p) :
    ∃ (n : Nat) (kk aa xx yy : Nat → Int), (∀ j, j < n → 0 ≤ xx j ∧ xx j ≤ 18446744073709551615) ∧ (∀ j, j < n → 0 ≤ yy j ∧ yy j ≤ 18446744073709551615) ∧ SRep (cx0 w) w (.d (.sl 4 n (acts kk aa xx yy))) v := by
  obtain ⟨n, L, hW, hR⟩ := arg_rep (kids_rows laid rowed) slicesFull (t := 26) (tlt (by omega)) (m := 3) (fun n => by simp only [suppT, Try.underlying26, Try.underlying43, Try.underlying3, Try.underlying22]; rfl) h
  rw [show n + 3 = (n + 2) + 1 from rfl] at hW
  simp only [Wt, Try.underlying26, Try.underlying43] at hW
  obtain ⟨m, f, rfl, _, hf⟩ := hW
  have key : ∀ i, i < m → ∃ a b c d : Int, f i 0 = .v (.int .i64 a) ∧ f i 1 = .v (.int .i64 b) ∧ f i 2 = .v (.int .u64 c) ∧ f i 3 = .v (.int .u64 d) ∧ (0 ≤ c ∧ c ≤ 18446744073709551615) ∧ (0 ≤ d ∧ d ≤ 18446744073709551615) := by
    intro i hi
    have h1 := hf i hi
    obtain ⟨xs, h2, h3, h4⟩ := wt_struct (P := Try.prog) (t := 43) (ks := [.i64, .i64, .u64, .u64]) Try.underlying43 cells43 (by kernel_rfl) h1
    match xs, h2 with
    | [a, b, c, d], _ =>
      rw [cells43] at h3
      simp [List.range, List.range.loop] at h3
      exact ⟨a, b, c, d, h3.1, h3.2.1, h3.2.2.1, h3.2.2.2, u64_wf (h4 2 .u64 rfl), u64_wf (h4 3 .u64 rfl)⟩
  refine ⟨m, fun i => getI (f i 0), fun i => getI (f i 1), fun i => getI (f i 2), fun i => getI (f i 3), fun j hj => ?_, fun j hj => ?_, ?_⟩
  · obtain ⟨a, b, c, d, _, _, h3, _, h5, _⟩ := key j hj
    dsimp only; rw [h3]; exact h5
  · obtain ⟨a, b, c, d, _, _, _, h4, _, h6⟩ := key j hj
    dsimp only; rw [h4]; exact h6
  · simp only [SRep]
    have hd := cell_rep hR fun c e => by
      subst e
      simp only [Value.okWide, Try.underlying26] at hv
      exact cell_not_agg hv ⟨_, Try.underlying26, .inr (.inr (.inr ⟨_, rfl⟩))⟩
    rw [cells43] at hd
    refine drep_sl hd fun i hi j hj => ?_
    obtain ⟨a, b, c, d, h1, h2, h3, h4, _⟩ := key i hi
    match j, hj with
    | 0, _ => simp [acts, lkD, h1, getI]
    | 1, _ => simp [acts, lkD, h2, getI]
    | 2, _ => simp [acts, lkD, h3, getI]
    | 3, _ => simp [acts, lkD, h4, getI]
end

/-- The walk: the law returns true; nothing that stood has changed. -/
theorem walk3 {w : World} {v0 v1 v2 : Value} {a b c d e f g l : Int} {ws : List Int} {n : Nat} {kk aa xx yy : Nat → Int} (hw : U64 ws) (hx : ∀ j, j < n → 0 ≤ xx j ∧ xx j ≤ 18446744073709551615) (hy : ∀ j, j < n → 0 ≤ yy j ∧ yy j ≤ 18446744073709551615)
    (h0 : SRep (cx0 w) w (cfgS a b c d e f g l) v0) (h1 : SRep (cx0 w) w (.d (.ints .u64 ws)) v1) (h2 : SRep (cx0 w) w (.d (.sl 4 n (acts kk aa xx yy))) v2) :
    Calls Try.prog 3 #[v0, v1, v2] w fun e w' => e = .returned (.bool true) ∧ RowKit.Grown w w' ∧ ∀ b, b < w.heap.size → w'.heap[b]? = w.heap[b]? := by
  obtain ⟨H, hrun⟩ := main3 a b c d e f g l ws n kk aa xx yy hw hx hy
  exact law_calls (e3.ok _) mix Try.func3 c3 hrun (vals := [v0, v1, v2]) (by simp only [SRepL, and_true]; exact ⟨h0, h1, h2⟩)
end Go.Sx.Pr
