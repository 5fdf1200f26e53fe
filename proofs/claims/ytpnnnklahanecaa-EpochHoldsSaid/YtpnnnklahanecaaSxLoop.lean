/- Loops that count; numbers. -/
import Derived.Test.YtpnnnklahanecaaSxCon
import Derived.IntWalk
set_option linter.unusedVariables false
set_option linter.unusedSimpArgs false
namespace Go.Sx

theorem loop_up {Ω : Type} {lv : List Nat} {n0 : Nat} {f : SS → (SE → SS → Option Ω) → Option Ω} {k : SE → SS → Option Ω} (S : Nat → SS) : ∀ (m : Nat), (∀ i n, i < m → iter lv n0 f (n + 1) (S i) k = iter lv n0 f n (S (i + 1)) k) → ∀ n, iter lv n0 f (n + m) (S 0) k = iter lv n0 f n (S m) k
  | 0, _, n => rfl
  | m + 1, hs, n => by
    have h1 := loop_up S m (fun i n hi => hs i n (by omega)) (n + 1)
    rw [show n + (m + 1) = n + 1 + m by omega, h1]
    exact hs m n (by omega)

/-- Loops run by iter. -/
def itB {Ω : Type} : Itr Ω := fun lv n0 f s k => iter lv n0 f big s k

theorem itB_def {Ω : Type} {lv : List Nat} {n0 : Nat} {f : SS → (SE → SS → Option Ω) → Option Ω} {s : SS} {k : SE → SS → Option Ω} : itB lv n0 f s k = iter lv n0 f big s k := rfl

theorem sxI_eq {Ω : Type} (env : Env Ω) (A : Ann) : ∀ c : CC, sxI itB env A c = sx env A c
  | .skip => rfl
  | .reg _ _ => rfl
  | .seq a b => by
    funext c s k
    simp only [sxI, sx, sxI_eq env A a, sxI_eq env A b]
  | .cond n a b => by
    funext c s k
    simp only [sxI, sx, sxI_eq env A a, sxI_eq env A b]
  | .block id a => by
    funext c s k
    simp only [sxI, sx, sxI_eq env A a]
  | .loop a => by
    funext c s k
    simp only [sxI, sx, sxI_eq env A a, itB]
  | .exit _ => rfl
  | .ret => rfl

theorem sxFnI_eq {Ω : Type} (env : Env Ω) (A : Ann) (f : CF) (args : List SV) (h : SH) (k : SV → SH → Option Ω) : sxFnI itB env A f args h k = sxFn env A f args h k := by
  unfold sxFnI sxFn
  rw [sxI_eq]
  have : kfn f k = fun e s => match e with
      | .exit _ => none
      | _ => match rets s f.res with
        | some l => k (tup1 l) s.h
        | none => none := by
    funext e s
    cases e <;> rfl
  rw [this]
  rfl

theorem iter_succ {Ω : Type} {lv : List Nat} {n0 : Nat} {f : SS → (SE → SS → Option Ω) → Option Ω} {n : Nat} {s : SS} {k : SE → SS → Option Ω} : iter lv n0 f (n + 1) s k = f s (kitV lv n0 (fun s => iter lv n0 f n s k) k) := by
  rfl

theorem loop_n {Ω : Type} {lv : List Nat} {n0 : Nat} {f : SS → (SE → SS → Option Ω) → Option Ω} {k : SE → SS → Option Ω} (S : Nat → SS) (N m : Nat) (hm : m < N) (hs : ∀ i, i < m → ∀ I : SS → Option Ω, f (S i) (kitV lv n0 I k) = I (S (i + 1))) :
    ∃ n, iter lv n0 f N (S 0) k = f (S m) (kitV lv n0 (fun s => iter lv n0 f n s k) k) :=
  ⟨N - m - 1, by
    have h := loop_up (f := f) (lv := lv) (n0 := n0) (k := k) S m (fun i n hi => by rw [iter_succ, hs i hi]) (N - m - 1 + 1)
    rw [iter_succ] at h
    rw [← h]
    congr 1; omega⟩

theorem fits_of {n b : Nat} (h : n * b ≤ 140737488355328) : fits n b = true := by simp [fits, h]

theorem w64 {x : Int} (h1 : -9223372036854775808 ≤ x) (h2 : x ≤ 9223372036854775807) : IntKind.wrap .i64 x = x := by
  rw [IntKind.wrap_i64]; omega

/-- A row that grows: ds i is what round i appends (w elements of sz cells). -/
def acc (sz : Nat) (q : Nat → Nat → DV) (m0 w : Nat) (ds : Nat → List DV) : Nat → Nat → Nat → DV
  | 0 => q
  | i + 1 => catF (m0 + w * i) (acc sz q m0 w ds i) (fun a j => lkD (ds i) (a * sz + j))

/-- A run's answer, the heap left aside. -/
theorem run_of_val {P : Program} {e : {Ω : Type} → Env Ω} (he : GoodE P e) {A : Ann} {C : CF} {args : List SV} {h : SH} {r : SV} (hr : sxFn (e (Ω := SV)) A C args h (fun r _ => some r) = some r) :
    ∃ H, sxFn (e (Ω := SV × SH)) A C args h (fun r h => some (r, h)) = some (r, H) := by
  obtain ⟨r', h', h1, h2⟩ := sxFn_par (he.par SV (SV × SH)) hr
  simp only [Option.some.injEq] at h1
  subst h1
  exact ⟨h', h2 _⟩

/-- A function without arguments that answers true. -/
def FTrue : List (List Int) → Option (Bool × SV × SH)
  | [] => some (true, B true, [])
  | _ => none

theorem trueGood {P : Program} {g : Nat} {fn : Func} (hf : P.funcs[g]? = some fn) (hname : (fn.name == "runtime.NumGoroutine") = false) {C : CF} (hC : coF P fn = some C) {A : Ann} {e : {Ω : Type} → Env Ω} (he : GoodE P e) (hmix : P.follows .mixedOrders = true)
    (hr : sxFn (e (Ω := SV)) A C [] [] (fun r _ => some r) = some (B true)) : Good1 P g (fun {Ω} => conSpec [] FTrue (Ω := Ω)) :=
  conGood hf hname hC he hmix fun l r hr' hl hF => by
    simp only [lenAs] at hl
    subst hl
    simp only [FTrue, Option.some.injEq, Prod.mk.injEq, true_and] at hF
    obtain ⟨rfl, rfl⟩ := hF
    obtain ⟨H, hH⟩ := run_of_val he hr
    exact ⟨trivial, trivial, H, trim_none rfl _, hH⟩
end Go.Sx
