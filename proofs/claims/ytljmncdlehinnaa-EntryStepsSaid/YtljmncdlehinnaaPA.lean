/- Arguments of laws: a configuration, a list of words. -/
import Derived.Test.YtljmncdlehinnaaP42
import Derived.Test.YtljmncdlehinnaaSxArg
set_option linter.unusedVariables false
set_option linter.unusedSimpArgs false
namespace Go.Sx.Pr
open Go Go.Sx Go.Proofs Go.ChangeShapes Go.WideShapes Go.ChangeAt Go.RowKit
set_option maxRecDepth 100000

theorem laid : laidOutB Try.prog = true := by kernel_rfl
theorem rowed : mapsRowed Try.prog = true := by kernel_rfl
theorem slicesFull : ∀ t e, t < Try.prog.types.size → Try.prog.underlying t = some (.slice e) → 0 < Try.prog.cellsOf e := slices_full_of Try.prog (by kernel_rfl)
theorem typesN : Nat.blt 100 Try.prog.types.size = true := by kernel_rfl
theorem tlt {t : Nat} (h : t ≤ 100) : t < Try.prog.types.size := by
  have := Nat.le_of_ble_eq_true typesN
  omega
theorem cells24 : Try.prog.cellsOf 26 = 8 := by kernel_rfl

/-- Words, as a test. -/
def u64B (ws : List Int) : Bool := ws.all fun v => decide (0 ≤ v) && decide (v ≤ 18446744073709551615)

section
variable {H : Type} {enc : TypeId × Value → H} {w : World}

theorem cfg_arg {v : Value} {d : DataW H} {p : List MemPlace} (h : DataW.Trod enc Try.prog w 0 (fun _ => true) true 26 v d p) : ∃ a b c d e f g l, SRep (cx0 w) w (cfgS a b c d e f g l) v := by
  obtain ⟨n, L, hW, hR⟩ := arg_rep (kids_rows laid rowed) slicesFull (t := 26) (tlt (by omega)) (m := 2) (fun n => by simp only [suppT, Try.underlying26, Try.underlying3, Try.underlying24]; rfl) h
  obtain ⟨xs, h1, h2, _⟩ := wt_struct (ks := cfgK) Try.underlying26 cells24 (by kernel_rfl) hW
  obtain ⟨a, b, c, d, e, f, g, l, rfl⟩ := eight h1
  refine ⟨a, b, c, d, e, f, g, l, ?_⟩
  have := agg_rep (cx := cx0 w) hR (by rw [h2]; simp)
  rw [h2] at this
  exact this

theorem words_arg {v : Value} {d : DataW H} {p : List MemPlace} {r : Reach} {base : Nat} (hv : Value.okWide Try.prog w r base 33 v) (h : DataW.Trod enc Try.prog w 0 (fun _ => true) true 33 v d p) :
    ∃ ws, u64B ws = true ∧ SRep (cx0 w) w (.d (.ints .u64 ws)) v := by
  obtain ⟨n, L, hW, hR⟩ := arg_rep (kids_rows laid rowed) slicesFull (t := 33) (tlt (by omega)) (m := 2) (fun n => by simp only [suppT, Try.underlying33, Try.underlying24]) h
  rw [show n + 2 = (n + 1) + 1 from rfl] at hW
  simp only [Wt, Try.underlying33, Try.underlying24] at hW
  obtain ⟨ws, rfl, _, hws⟩ := hW
  refine ⟨ws, List.all_eq_true.2 fun x hx => by have := u64_wf (hws x hx); simpa using this, ?_⟩
  simp only [SRep]
  exact cell_rep hR fun c e => by
    subst e
    simp only [Value.okWide, Try.underlying33] at hv
    exact cell_not_agg hv ⟨_, Try.underlying33, .inr (.inr (.inr ⟨_, rfl⟩))⟩
end
end Go.Sx.Pr
