/- From a run on symbolic arguments to a law's statement. -/
import Derived.Test.YtljmncdlehinnaaSxInl
import Derived.WalkKit
import Derived.ProofKit
import Derived.OpenShut
import Derived.ReadAgain
set_option linter.unusedVariables false
set_option linter.unusedSimpArgs false
namespace Go.Sx

/-- Nothing is owned; all that stands is data. -/
def cx0 (w : World) : Cx := { n := 0, th := fun _ => 0, ln := fun _ => 0, cp := fun _ => 0, nl := fun _ => false, rs := fun _ => 0, fz := fun b => b < w.heap.size, fr := fun _ => False }

theorem gam0 (w : World) : Gam (cx0 w) [] w := by
  refine ⟨rfl, fun l => ?_, fun l hl => ?_, fun l hl => ?_, fun l m hl => ?_, fun b hb => ?_, fun b _ hf => hf⟩
  · simp [hget, ORep]
  · simp [liv, hget] at hl
  · simp [liv, hget] at hl
  · simp [liv, hget] at hl
  · rcases hb with hb | hb
    · exact hb
    · exact hb.elim

theorem same_of_grow {p : Nat → Bool} {w w' : World} {cx' : Cx} (g : Grow p (cx0 w) w cx' w') : ∀ b, b < w.heap.size → w'.heap[b]? = w.heap[b]? := fun b hb => g.same b (.inl hb)

theorem grown_of {p : Nat → Bool} {w w' : World} {cx' : Cx} (g : Grow p (cx0 w) w cx' w') : RowKit.Grown w w' := by
  refine ⟨⟨g.io.os, g.io.out, fun i hi => ?_⟩, g.io.frz, g.size⟩
  rw [same_of_grow g i hi]
  have := (World.keptBut_refl w (fun _ => False)).2.2 i hi
  exact this

/-- A law that runs to true on symbolic arguments which its arguments meet. -/
theorem law_calls {P : Program} {A : Ann} {env : Env (SV × SH)} (he : EnvOK P env) (hmix : P.follows .mixedOrders = true) {g : Nat} {fn : Func} (hf : P.funcs[g]? = some fn) {C : CF} (hC : coF P fn = some C) {args : List SV} {h' : SH}
    (hrun : sxFn env A C args [] (fun r h => some (r, h)) = some (.d (.v (.bool true)), h')) {w : World} {vals : List Value} (ha : SRepL (cx0 w) w args vals) :
    Calls P g ⟨vals⟩ w fun e w' => e = .returned (.bool true) ∧ RowKit.Grown w w' ∧ ∀ b, b < w.heap.size → w'.heap[b]? = w.heap[b]? := by
  refine (fn_calls he hmix hf hC hrun (cx0 w) w vals (gam0 w) ha).mono fun e w' ⟨v, cx', e1, gr, hr, _⟩ => ?_
  rw [bool_of hr] at e1
  exact ⟨e1, grown_of gr, same_of_grow gr⟩

theorem place_lt {H : Type} {enc : TypeId × Value → H} {P : Program} {w : World} {ts : List TypeId} {vs : List Value} {ds : List (DataW H)} {ps : List MemPlace} : DataW.TrodAll enc P w 0 (fun _ => true) true ts vs ds ps → ∀ p ∈ ps, p.block < w.heap.size := by
  intro h
  induction ts generalizing vs ds ps with
  | nil =>
    cases vs <;> cases ds <;> simp [DataW.TrodAll] at h
    subst h; simp
  | cons t ts ih =>
    cases vs <;> cases ds <;> simp [DataW.TrodAll] at h
    obtain ⟨p, ⟨n, hp⟩, q, hq, rfl⟩ := h
    intro x hx
    rcases List.mem_append.1 hx with hx | hx
    · exact DataW.trod_lt n _ _ _ hp x hx
    · exact ih hq x hx

theorem trodAll_carry {H : Type} {enc : TypeId × Value → H} {P : Program} {w w' : World} {sp : Nat → Bool} {ts : List TypeId} {vs : List Value} {ds : List (DataW H)} {ps : List MemPlace} (h : DataW.TrodAll enc P w 0 sp true ts vs ds ps)
    (hs : ∀ p ∈ ps, w.sameAt w' p) : DataW.TrodAll enc P w' 0 sp true ts vs ds ps := by
  induction ts generalizing vs ds ps with
  | nil => cases vs <;> cases ds <;> simp [DataW.TrodAll] at h ⊢; exact h
  | cons t ts ih =>
    cases vs <;> cases ds <;> simp [DataW.TrodAll] at h ⊢
    obtain ⟨p, ⟨n, hp⟩, q, hq, rfl⟩ := h
    exact ⟨p, ⟨n, DataW.trod_carry n _ _ _ hp fun x hx => hs x (by simp [hx])⟩, q, ih hq fun x hx => hs x (by simp [hx]), rfl⟩

/-- The arguments read afterwards as they did. -/
theorem args_again {H : Type} {enc : TypeId × Value → H} {P : Program} (hl : laidOutB P = true) (hm : mapsRowed P = true) (hz : ∀ t e, t < P.types.size → P.underlying t = some (.slice e) → 0 < P.cellsOf e)
    {w w' : World} {ts : List TypeId} (hts : ∀ t ∈ ts, t < P.types.size) {vs : List Value} {ds : List (DataW H)} {ps : List MemPlace} (h : DataW.TrodAll enc P w 0 (fun _ => true) true ts vs ds ps)
    (hsame : ∀ b, b < w.heap.size → w'.heap[b]? = w.heap[b]?) {sp : Nat → Bool} (hsp : ∀ p ∈ ps, sp p.block = true) : DataW.TrodAll enc P w' 0 sp true ts vs ds ps := by
  refine trodAll_carry (DataW.TrodAll.respare (kids_rows hl hm) hz hts h hsp) fun p hp => ?_
  have := place_lt h p hp
  cases p with
  | cell b off => simp only [World.sameAt, World.cell?]; rw [hsame b this]
  | map b => exact hsame b this
end Go.Sx
