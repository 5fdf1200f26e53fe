/- The stack of entries under any schedule: what one pick of StackMany leaves. Plain Lean. -/
import Derived.Test.YtpnnnklahanecaaE2
set_option linter.unusedVariables false
set_option linter.unusedSimpArgs false
namespace Go.Sx.Pr
open Go Go.Sx Go.Sx.Md

def nxE (m : Mm) (i : Int) : Int := mLoadV m (adr m.c 4 i) % 4294967296
structure SW (E : Nat) (m : Mm) (L : List Int) (x : Wk) : Prop where
  ln : 20 ≤ x.line ∧ x.line ≤ 25
  noI : x.line ≤ 22 → x.I = 0
  hasI : 23 ≤ x.line → 1 ≤ x.I ∧ x.I ≤ E ∧ x.I - 1 ∉ L
  ver : x.line ≠ 20 → x.line ≠ 23 → 0 ≤ x.V ∧ x.V / 4294967296 ≤ mLoadV m 2 / 4294967296
  hv : x.line = 21 ∨ x.line = 22 → x.H = x.V % 4294967296 ∧ x.H ≠ 0
  nv : x.line = 22 → mLoadV m 2 = x.V → x.N % 4294967296 = nxE m (x.H - 1)
  lv : x.line = 25 → mLoadV m 2 = x.V → nxE m (x.I - 1) = x.V % 4294967296

structure SI (W E : Nat) (m : Mm) (a : Nat → Wk) (L : List Int) (n : Int) : Prop where
  hc : chkC m.c = 0
  e : m.c.e = E
  len : 3 + m.c.a + m.c.b + 2 * (E : Int) ≤ m.ws.length
  lo : 0 ≤ mLoadV m 2
  hi : mLoadV m 2 / 4294967296 ≤ n
  ch : Chain (nxE m) (mLoadV m 2 % 4294967296) L
  nd : L.Nodup
  rg : ∀ i, i ∈ L → 0 ≤ i ∧ i < E
  wk : ∀ k, k < W → SW E m L (a k)
  dis : ∀ j k, j < W → k < W → j ≠ k → (a j).I ≠ 0 → (a j).I ≠ (a k).I
  all : ∀ i : Int, 0 ≤ i → i < E → i ∈ L ∨ ∃ k, k < W ∧ (a k).I = i + 1

variable {W E : Nat} {m : Mm} {a : Nat → Wk} {L : List Int} {n : Int} {w : Nat} {wz : Wk}

end Go.Sx.Pr
