/- Contracts with several outcomes; rows of which only what lies within counts. -/
import Derived.Test.YtaejdljgfmclpaaGreatSxArg
import Derived.Test.YtaejdljgfmclpaaGreatSxArg
import Derived.Test.YtaejdljgfmclpaaGreatSxArg
import Derived.Test.YtaejdljgfmclpaaGreatRows
import Derived.KernelRfl
set_option linter.all false
set_option linter.unusedVariables false
set_option linter.unusedSimpArgs false
set_option linter.unnecessarySimpa false
namespace Go.Sx

def alts {Ω : Type} (k : SV → List Nat → List Nat → SH → Option Ω) (h : SH) : List (Bool × SV × SH) → Option Ω
  | [] => none
  | (g, r, hr) :: rest => br g (k (shft h.length r) [] [] (h ++ shftH h.length hr)) (alts k h rest)

def firstAlt : List (Bool × SV × SH) → Option (SV × SH)
  | [] => none
  | (g, r, hr) :: rest => bif g then some (r, hr) else firstAlt rest

def conSpecL (ts : List AT) (F : List (List Int) → List (Bool × SV × SH)) {Ω : Type} : Spec Ω := fun args h k =>
  match lendAs h ts args with
  | some l => alts k h (F l)
  | none => none

theorem alts_first {Ω : Type} {k : SV → List Nat → List Nat → SH → Option Ω} {h : SH} {out : Ω} : ∀ {L : List (Bool × SV × SH)}, alts k h L = some out → ∃ r hr, firstAlt L = some (r, hr) ∧ k (shft h.length r) [] [] (h ++ shftH h.length hr) = some out
  | [], e => by cases e
  | (g, r, hr) :: rest, e => by
    cases g with
    | true => exact ⟨r, hr, rfl, e⟩
    | false =>
      obtain ⟨r', hr', h1, h2⟩ := alts_first (L := rest) e
      exact ⟨r', hr', h1, h2⟩

theorem alts_of {Ω : Type} {k : SV → List Nat → List Nat → SH → Option Ω} {h : SH} : ∀ {L : List (Bool × SV × SH)} {r : SV} {hr : SH}, firstAlt L = some (r, hr) → alts k h L = k (shft h.length r) [] [] (h ++ shftH h.length hr)
  | [], r, hr, e => by cases e
  | (g, r', hr') :: rest, r, hr, e => by
    cases g with
    | true =>
      simp only [firstAlt, cond_true, Option.some.injEq, Prod.mk.injEq] at e
      obtain ⟨rfl, rfl⟩ := e
      rfl
    | false => exact alts_of (L := rest) e

theorem conL_par {ts : List AT} {F : List (List Int) → List (Bool × SV × SH)} {Ω Ω' : Type} : SpecPar (conSpecL ts F (Ω := Ω)) (conSpecL ts F (Ω := Ω')) := by
  intro args h k out hs
  unfold conSpecL at hs ⊢
  split at hs
  · rename_i l hl
    obtain ⟨r, hr, h1, h2⟩ := alts_first hs
    exact ⟨_, _, _, _, h2, fun k' => alts_of h1⟩
  · cases hs

/-- The same, but for what lies outside of a row. -/
def RowEqO (o o' : SO) : Prop := o = o' ∨ ∃ t sz n f f', o = .row t sz n f ∧ o' = .row t sz n f' ∧ ∀ i, i < n → ∀ j, j < sz → f i j = f' i j
def RowEq : SH → SH → Prop
  | [], [] => True
  | o :: r, o' :: r' => RowEqO o o' ∧ RowEq r r'
  | _, _ => False

theorem RowEq.refl : ∀ h : SH, RowEq h h
  | [] => trivial
  | _ :: r => ⟨.inl rfl, RowEq.refl r⟩
theorem RowEq.length : ∀ {h h' : SH}, RowEq h h' → h.length = h'.length
  | [], [], _ => rfl
  | _ :: r, _ :: r', e => by simp [RowEq.length e.2]
  | [], _ :: _, e => e.elim
  | _ :: _, [], e => e.elim
theorem RowEq.get : ∀ {h h' : SH}, RowEq h h' → ∀ l, RowEqO (hget h l) (hget h' l)
  | [], [], _, l => .inl rfl
  | _ :: r, _ :: r', e, 0 => by simpa [hget] using e.1
  | _ :: r, _ :: r', e, l + 1 => by simpa [hget] using RowEq.get e.2 l
  | [], _ :: _, e, _ => e.elim
  | _ :: _, [], e, _ => e.elim

theorem Gam.rowEq {cx : Cx} {h h' : SH} {w : World} (g : Gam cx h w) (e : RowEq h h') : Gam cx h' w := by
  have hlv : ∀ l, liv cx h' l → liv cx h l := fun l hl => by
    rcases e.get l with e1 | ⟨t, sz, n, f, f', e1, e2, _⟩
    · unfold liv at hl ⊢; rw [e1]; exact hl
    · unfold liv at hl ⊢; rw [e2] at hl; rw [e1]; exact hl
  refine ⟨by rw [← e.length]; exact g.n, fun l => ?_, fun l hl => g.lt l (hlv l hl), fun l hl => g.own l (hlv l hl), fun l m hl hm => g.inj l m (hlv l hl) (hlv m hm), g.fzlt, g.dj⟩
  have ho := g.obj l
  rcases e.get l with e1 | ⟨t, sz, n, f, f', e1, e2, e3⟩
  · rw [← e1]; exact ho
  · rw [e1] at ho
    rw [e2]
    simp only [ORep] at ho ⊢
    refine ⟨ho.1, ho.2.1, ho.2.2.1, ho.2.2.2.1, fun hn => ?_⟩
    obtain ⟨t', c', h1, h2, h3⟩ := ho.2.2.2.2 hn
    refine ⟨t', c', h1, h2, fun i hi j hj => ?_⟩
    obtain ⟨x, hx, hr⟩ := h3 i hi j hj
    exact ⟨x, hx, by rw [← e3 i hi j hj]; exact hr⟩

theorem conGoodL {P : Program} {g : Nat} {fn : Func} (hf : P.funcs[g]? = some fn) (hname : (fn.name == "runtime.NumGoroutine") = false) {C : CF} (hC : coF P fn = some C) {A : Ann} {e : {Ω : Type} → Env Ω} (he : GoodE P e) (hmix : P.follows .mixedOrders = true)
    {ts : List AT} {F : List (List Int) → List (Bool × SV × SH)}
    (hrun : ∀ l r hr, lenAs ts l → firstAlt (F l) = some (r, hr) → Flat r ∧ FlatH hr ∧ ∃ hr0 H, RowEq hr0 hr ∧ trim 0 r [] H = hr0 ∧ sxFn (e (Ω := SV × SH)) A C (encAs ts l) [] (fun r h => some (r, h)) = some (r, H)) :
    Good1 P g (fun {Ω} => conSpecL ts F (Ω := Ω)) := by
  have hbody : ∃ c, fn.body = some c := by
    unfold coF at hC
    split at hC
    · rename_i c hb; exact ⟨c, hb⟩
    · cases hC
  obtain ⟨c, hb⟩ := hbody
  have henter : ∀ (args : Array Value) (w : World), (callFunc g args).run P w = .ok (.enter g args) w := fun args w => by
    have h1 : fn.name ≠ "runtime.NumGoroutine" := by simpa using hname
    simp [callFunc, hf, h1, hb]
  refine ⟨fun Ω => ⟨henter, fun args h k out hs => ?_⟩, fun Ω Ω' => conL_par⟩
  unfold conSpecL at hs
  split at hs
  · rename_i l hl
    obtain ⟨r, hr, hF, hk⟩ := alts_first hs
    obtain ⟨f1, f2, hr0, H, heq, htr, hrun⟩ := hrun l r hr (lendAs_len hl) hF
    refine ⟨_, [], [], _, hk, ⟨by simp, fun l hl _ => by rw [hget_app, if_pos hl]⟩, fun cx w vals hg ha => ?_⟩
    refine (fn_calls (he.ok _) hmix hf hC hrun (cxA w) w vals (gamL w _) (lendAs_ok hg hl ha)).mono fun e w' ⟨v, cxq, e1, grq, hrq, hGq⟩ => ?_
    obtain ⟨cxs, hG, hr', hgrow⟩ := trim_sound (n0 := 0) (m := []) hGq hrq
    rw [htr] at hG
    have gr := hgrow (Nat.le_refl _) grq
    obtain ⟨k1, k2⟩ := join_flat hg gr (hG.rowEq heq) f2
    have nm : (fun l => nmem l []) = fun _ => false := funext fun l => by simp [nmem]
    rw [nm]
    exact ⟨v, _, e1, k2, by rw [← hg.n]; exact SRep.flat _ _ f1 hr', k1⟩
  · cases hs
end Go.Sx

/- Arguments of laws: a configuration, a list of words. -/
namespace Go.Sx.Pr
open Go Go.Sx Go.Proofs Go.ChangeShapes Go.WideShapes Go.ChangeAt Go.RowKit
set_option maxRecDepth 100000

theorem laid : laidOutB Tryz.prog = true := by kernel_rfl
theorem rowed : mapsRowed Tryz.prog = true := by kernel_rfl
theorem slicesFull : ∀ t e, t < Tryz.prog.types.size → Tryz.prog.underlying t = some (.slice e) → 0 < Tryz.prog.cellsOf e := slices_full_of Tryz.prog (by kernel_rfl)
theorem typesN : Nat.blt 100 Tryz.prog.types.size = true := by kernel_rfl
theorem tlt {t : Nat} (h : t ≤ 100) : t < Tryz.prog.types.size := by
  have := Nat.le_of_ble_eq_true typesN
  omega
theorem cells24 : Tryz.prog.cellsOf 24 = 8 := by kernel_rfl

/-- Words, as a test. -/
def u64B (ws : List Int) : Bool := ws.all fun v => decide (0 ≤ v) && decide (v ≤ 18446744073709551615)

section
variable {H : Type} {enc : TypeId × Value → H} {w : World}

theorem cfg_arg {v : Value} {d : DataW H} {p : List MemPlace} (h : DataW.Trod enc Tryz.prog w 0 (fun _ => true) true 24 v d p) : ∃ a b c d e f g l, SRep (cx0 w) w (cfgS a b c d e f g l) v := by
  obtain ⟨n, L, hW, hR⟩ := arg_rep (kids_rows laid rowed) slicesFull (t := 24) (tlt (by omega)) (m := 2) (fun n => by simp only [suppT, Tryz.underlying24, Tryz.underlying3, Tryz.underlying22]; rfl) h
  obtain ⟨xs, h1, h2, _⟩ := wt_struct (ks := cfgK) Tryz.underlying24 cells24 (by kernel_rfl) hW
  obtain ⟨a, b, c, d, e, f, g, l, rfl⟩ := eight h1
  refine ⟨a, b, c, d, e, f, g, l, ?_⟩
  have := agg_rep (cx := cx0 w) hR (by rw [h2]; simp)
  rw [h2] at this
  exact this

end
end Go.Sx.Pr

/- Contract: the initial words, from the plan's layer. -/
namespace Go.Sx.Pr
open Go Go.Sx Go.Proofs
set_option maxRecDepth 100000

theorem br_t {α : Type} {x y : α} : br true x y = x := by first | exact _root_.id (Eq.refl _)
theorem br_f {α : Type} {x y : α} : br false x y = y := by first | exact _root_.id (Eq.refl _)
abbrev KS : SV → SH → Option (SV × SH) := fun r h => some (r, h)

abbrev S68s (xs : List Int) (i : Int) (a b c d e f g l : Int) : SS := ⟨[(1, .ptr 0 0), (3, .ptr 1 0), (5, .own 2), (23, I e), (24, I i)], [CFG a b c d e f g l, .cells 87 [I a, I b, I c, I d, I e, I f, I g, U l], .rowi 22 .u64 xs]⟩
theorem m68 {Ω : Type} (it : Itr Ω) (K : SV → SH → Option Ω) (a b c d e f g l : Int) :
    sxFnI it E68 A68 C68 [cfgS a b c d e f g l] [] K =
    br (!chk a b c d e f g l == 0) (br (!chk a b c d e f g l == 0) (K (.d (DV.v (Value.slice none 0 0))) [.cells 24 [I a, I b, I c, I d, I e, I f, I g, U l], .cells 87 [I 0, I 0, I 0, I 0, I 0, I 0, I 0, U 0]]) none) (br (decide (0 ≤ szZ a b c d e f g l) && fits (Int.toNat (szZ a b c d e f g l)) 8) (br (inB 0 (List.length (List.replicate (Int.toNat (szZ a b c d e f g l)) (0 : Int)))) (br (inB 2 (List.length (List.set (List.replicate (Int.toNat (szZ a b c d e f g l)) (0 : Int)) 0 2))) (it [1, 3, 5, 23, 24] 3 (sxI it E68 A68 L68_4 0) (SS.mk [(1, .ptr 0 0), (3, .ptr 1 0), (5, .own 2), (23, I e), (24, I 0)] [.cells 24 [I a, I b, I c, I d, I e, I f, I g, U l], .cells 87 [I a, I b, I c, I d, I e, I f, I g, U l], .rowi 22 .u64 (List.set (List.set (List.replicate (Int.toNat (szZ a b c d e f g l)) (0 : Int)) 0 2) 2 1)]) (Z68_4 it K)) none) none) none) := by kernel_rfl
theorem m68_1 {Ω : Type} (it : Itr Ω) (IT : SS → Option Ω) (K : SV → SH → Option Ω) (xs : List Int) (i : Int) (a b c d e f g l : Int) :
    sxI it E68 A68 L68_4 0 (S68s xs i a b c d e f g l) (kitV [1, 3, 5, 23, 24] 3 IT (Z68_4 it K)) =
    br (decide (i < e)) (br (decide (i < 0)) none (br (decide (i ≥ e)) none (br (!chk a b c d e f g l == 0) none (br (inB (IntKind.wrap .i64 (IntKind.wrap .i64 (IntKind.wrap .i64 (3 + a) + b) + IntKind.wrap .i64 (i * 2))) (List.length xs)) (br (decide (IntKind.wrap .i64 (i + 1) < e)) (br (decide (i < 0)) none (br (decide (i ≥ e)) none (br (!chk a b c d e f g l == 0) none (br (inB (IntKind.wrap .i64 (IntKind.wrap .i64 (IntKind.wrap .i64 (IntKind.wrap .i64 (3 + a) + b) + 1) + IntKind.wrap .i64 (i * 2))) (List.length (List.set xs (Int.toNat (IntKind.wrap .i64 (IntKind.wrap .i64 (IntKind.wrap .i64 (3 + a) + b) + IntKind.wrap .i64 (i * 2)))) 1048576))) (IT (SS.mk [(1, .ptr 0 0), (3, .ptr 1 0), (5, .own 2), (23, I e), (24, I (IntKind.wrap .i64 (i + 1)))] [.cells 24 [I a, I b, I c, I d, I e, I f, I g, U l], .cells 87 [I a, I b, I c, I d, I e, I f, I g, U l], .rowi 22 .u64 (List.set (List.set xs (Int.toNat (IntKind.wrap .i64 (IntKind.wrap .i64 (IntKind.wrap .i64 (3 + a) + b) + IntKind.wrap .i64 (i * 2)))) 1048576) (Int.toNat (IntKind.wrap .i64 (IntKind.wrap .i64 (IntKind.wrap .i64 (IntKind.wrap .i64 (3 + a) + b) + 1) + IntKind.wrap .i64 (i * 2)))) (IntKind.wrap .u64 (IntKind.wrap .i64 (i + 2))))])) none)))) (IT (SS.mk [(1, .ptr 0 0), (3, .ptr 1 0), (5, .own 2), (23, I e), (24, I (IntKind.wrap .i64 (i + 1)))] [.cells 24 [I a, I b, I c, I d, I e, I f, I g, U l], .cells 87 [I a, I b, I c, I d, I e, I f, I g, U l], .rowi 22 .u64 (List.set xs (Int.toNat (IntKind.wrap .i64 (IntKind.wrap .i64 (IntKind.wrap .i64 (3 + a) + b) + IntKind.wrap .i64 (i * 2)))) 1048576)]))) none)))) (K (.own 2) [.cells 24 [I a, I b, I c, I d, I e, I f, I g, U l], .cells 87 [I a, I b, I c, I d, I e, I f, I g, U l], .rowi 22 .u64 xs]) := by kernel_rfl

/-- The initial words, m entries done: bs is where the entries begin. -/
def fpart (bs E m i : Nat) : Int :=
  if i = 0 then 2 else if i = 2 then 1 else if bs ≤ i ∧ i < bs + 2 * m then (if (i - bs) % 2 = 0 then 1048576 else if (i - bs) / 2 + 1 < E then (((i - bs) / 2 + 2 : Nat) : Int) else 0) else 0

def fl (n bs E m : Nat) : List Int := (List.range n).map (fpart bs E m)

theorem fl_length {n bs E m : Nat} : (fl n bs E m).length = n := by simp [fl]

theorem fl_zero {n bs E : Nat} (hb : 3 ≤ bs) : ((List.replicate n (0 : Int)).set 0 2).set 2 1 = fl n bs E 0 := by
  refine List.ext_getElem (by simp [fl]) fun i h1 h2 => ?_
  simp only [fl, List.getElem_set, List.getElem_map, List.getElem_range, List.getElem_replicate, fpart]
  repeat' split
  all_goals first | rfl | omega

theorem fl_last {n bs E m : Nat} (hb : 3 ≤ bs) (hm : m < E) (hn : bs + 2 * E ≤ n) (hl : ¬ m + 1 < E) : (fl n bs E m).set (bs + 2 * m) 1048576 = fl n bs E (m + 1) := by
  refine List.ext_getElem (by simp [fl]) fun i h1 h2 => ?_
  simp only [fl, List.getElem_set, List.getElem_map, List.getElem_range, fpart]
  repeat' split
  all_goals first | rfl | omega

theorem fl_step {n bs E m : Nat} (hb : 3 ≤ bs) (hm : m < E) (hn : bs + 2 * E ≤ n) (hl : m + 1 < E) : ((fl n bs E m).set (bs + 2 * m) 1048576).set (bs + 1 + 2 * m) ((m + 2 : Nat) : Int) = fl n bs E (m + 1) := by
  refine List.ext_getElem (by simp [fl]) fun i h1 h2 => ?_
  simp only [fl, List.getElem_set, List.getElem_map, List.getElem_range, fpart]
  repeat' split
  all_goals first | rfl | omega

theorem v68 {a b c d e f g l : Int} (h : chk a b c d e f g l = 0) : sxFn E68 A68 C68 [cfgS a b c d e f g l] [] KS =
    some (.own 2, [CFG a b c d e f g l, .cells 87 [I a, I b, I c, I d, I e, I f, I g, U l], .rowi 22 .u64 (fl (sizeN a.toNat b.toNat c.toNat d.toNat e.toNat) (3 + a.toNat + b.toNat) e.toNat e.toNat)]) := by
  have hc' : (chk a b c d e f g l == 0) = true := by simp [h]
  obtain ⟨⟨a1, a2⟩, ⟨b1, b2⟩, ⟨c1, c2⟩, ⟨g1, g2⟩, ⟨e1, e2⟩, _⟩ := chk_zero h
  obtain ⟨A, rfl⟩ := Int.eq_ofNat_of_zero_le (show 0 ≤ a by omega)
  obtain ⟨Bn, rfl⟩ := Int.eq_ofNat_of_zero_le (show 0 ≤ b by omega)
  obtain ⟨Cn, rfl⟩ := Int.eq_ofNat_of_zero_le (show 0 ≤ c by omega)
  obtain ⟨Dn, rfl⟩ := Int.eq_ofNat_of_zero_le (show 0 ≤ d by omega)
  obtain ⟨En, rfl⟩ := Int.eq_ofNat_of_zero_le (show 0 ≤ e by omega)
  have hz : szZ A Bn Cn Dn En f g l = ((sizeN A Bn Cn Dn En : Nat) : Int) := by simp [szZ, h]
  have hBC : Bn * Cn ≤ 8 * 16 := Nat.mul_le_mul (by omega) (by omega)
  have hP : (1 + Dn) * (Bn * Cn) ≤ 5 * 128 := Nat.mul_le_mul (by omega) (by omega)
  have hn1 : 3 + A + Bn + 2 * En ≤ sizeN A Bn Cn Dn En := by unfold sizeN; omega
  have hn2 : sizeN A Bn Cn Dn En ≤ 1000 := by unfold sizeN; omega
  simp only [Int.toNat_natCast]
  generalize hN : sizeN A Bn Cn Dn En = N at *
  generalize hB : 3 + A + Bn = bs at *
  rw [← sxFnI_eq, m68, hc', hz]
  simp only [Bool.not_true, br_f, Int.toNat_natCast, List.length_replicate, List.length_set]
  have q1 : (decide (0 ≤ (N : Int)) && fits N 8) = true := by
    rw [fits_of (by omega)]; simp
  have q2 : inB 0 N = true := by simp [inB]; omega
  have q3 : inB 2 N = true := by simp [inB]; omega
  rw [q1, q2, q3, br_t, br_t, br_t, fl_zero (bs := bs) (E := En) (by omega)]
  have w1 : IntKind.wrap .i64 (3 + (A : Int)) = 3 + A := by rw [w64] <;> omega
  have w2 : IntKind.wrap .i64 (3 + (A : Int) + Bn) = ((bs : Nat) : Int) := by rw [w64] <;> omega
  have w3 : IntKind.wrap .i64 ((bs : Int) + 1) = ((bs + 1 : Nat) : Int) := by rw [w64] <;> omega
  obtain ⟨n, hn⟩ := loop_n (f := sxI itB E68 A68 L68_4 0) (lv := [1, 3, 5, 23, 24]) (n0 := 3) (k := Z68_4 itB KS) (fun i => S68s (fl N bs En i) (i : Int) A Bn Cn Dn En f g l) big En (by unfold big; omega) (fun i hi I => by
    have w4 : IntKind.wrap .i64 ((i : Int) * 2) = ((2 * i : Nat) : Int) := by rw [w64] <;> omega
    have w5 : IntKind.wrap .i64 ((bs : Int) + ((2 * i : Nat) : Int)) = ((bs + 2 * i : Nat) : Int) := by rw [w64] <;> omega
    have w6 : IntKind.wrap .i64 (((bs + 1 : Nat) : Int) + ((2 * i : Nat) : Int)) = ((bs + 1 + 2 * i : Nat) : Int) := by rw [w64] <;> omega
    have w7 : IntKind.wrap .i64 ((i : Int) + 1) = ((i + 1 : Nat) : Int) := by rw [w64] <;> omega
    have w8 : IntKind.wrap .u64 (IntKind.wrap .i64 ((i : Int) + 2)) = ((i + 2 : Nat) : Int) := by rw [w64 (by omega) (by omega), IntKind.wrap_u64]; omega
    have z1 : decide ((i : Int) < 0) = false := by simp
    have z2 : decide ((i : Int) ≥ (En : Int)) = false := by simp; omega
    rw [m68_1, decide_eq_true (by omega), w1, w2, w3, w4, w5, w6, w7, w8, z1, z2, hc']
    simp only [br_t, br_f, Bool.not_true, Int.toNat_natCast, List.length_set, fl_length]
    have z3 : inB ((bs + 2 * i : Nat) : Int) N = true := by simp [inB]; omega
    rw [z3, br_t]
    by_cases hl : i + 1 < En
    · have z4 : decide (((i + 1 : Nat) : Int) < (En : Int)) = true := by simp; omega
      have z5 : inB ((bs + 1 + 2 * i : Nat) : Int) N = true := by simp [inB]; omega
      rw [z4, br_t, z5, br_t, fl_step (by omega) hi hn1 hl]
    · have z4 : decide (((i + 1 : Nat) : Int) < (En : Int)) = false := by simp; omega
      rw [z4, br_f, fl_last (by omega) hi hn1 hl])
  rw [itB_def]
  refine Eq.trans hn ?_
  rw [m68_1, decide_eq_false (by omega), br_f]

def FFirst : List (List Int) → List (Bool × SV × SH)
  | [[a, b, c, d, e, f, g, l]] => [(!(chk a b c d e f g l == 0), .d (.v (.slice none 0 0)), []), (true, .own 2, [.dead, .dead, .rowi 22 .u64 (fl (sizeN a.toNat b.toNat c.toNat d.toNat e.toNat) (3 + a.toNat + b.toNat) e.toNat e.toNat)])]
  | _ => []

theorem v68' {a b c d e f g l : Int} (h : ¬ chk a b c d e f g l = 0) : ∃ H, sxFn E68 A68 C68 [cfgS a b c d e f g l] [] KS = some (.d (.v (.slice none 0 0)), H) := by
  have hc' : (chk a b c d e f g l == 0) = false := by simp [h]
  rw [← sxFnI_eq, m68, hc']
  simp only [Bool.not_false, br_t]
  exact ⟨_, rfl⟩

def S68 {Ω : Type} : Spec Ω := conSpecL [.g cfgK] FFirst
theorem g68 : Good1 Tryz.prog 54 S68 := conGoodL Tryz.func54 (by kernel_rfl) c68 e68 mix (A := A68) fun L r hr hl hF => by
  obtain ⟨x, rfl, hx⟩ := lenAs_one hl
  obtain ⟨a, b, c, d, e, f, g, i, rfl⟩ := eight hx
  simp only [FFirst, firstAlt] at hF
  by_cases h : chk a b c d e f g i = 0
  · have hc' : (chk a b c d e f g i == 0) = true := by simp [h]
    rw [hc'] at hF
    simp only [Bool.not_true, cond_false, cond_true, Option.some.injEq, Prod.mk.injEq] at hF
    obtain ⟨rfl, rfl⟩ := hF
    exact ⟨trivial, ⟨trivial, trivial, trivial, trivial⟩, _, _, RowEq.refl _, by kernel_rfl, v68 h⟩
  · have hc' : (chk a b c d e f g i == 0) = false := by simp [h]
    rw [hc'] at hF
    simp only [Bool.not_false, cond_true, Option.some.injEq, Prod.mk.injEq] at hF
    obtain ⟨rfl, rfl⟩ := hF
    obtain ⟨H, hH⟩ := v68' h
    exact ⟨trivial, trivial, _, H, RowEq.refl _, trim_none rfl _, hH⟩
end Go.Sx.Pr

/- Contract: the layout's list, each word's place written out. -/
namespace Go.Sx.Pr
open Go Go.Sx Go.Proofs
set_option maxRecDepth 100000

theorem blt_t {a b : Nat} (h : a < b) : Nat.blt a b = true := Nat.ble_eq_true_of_le h
theorem blt_f {a b : Nat} (h : b ≤ a) : Nat.blt a b = false := by
  cases e : Nat.blt a b with
  | false => rfl
  | true => have := Nat.le_of_ble_eq_true e; omega

theorem acc_lo {q : Nat → Nat → DV} {m0 w : Nat} {ds : Nat → List DV} : ∀ {n i j : Nat}, i < m0 → acc 3 q m0 w ds n i j = q i j
  | 0, _, _, _ => rfl
  | n + 1, i, j, h => by
    have : i < m0 + w * n := by omega
    simp only [acc, catF]
    rw [blt_t this, cond_true]
    exact acc_lo h

theorem acc_hi {q : Nat → Nat → DV} {m0 w : Nat} {ds : Nat → List DV} (hw : 0 < w) : ∀ {n i j : Nat}, m0 ≤ i → i < m0 + w * n → acc 3 q m0 w ds n i j = lkD (ds ((i - m0) / w)) (((i - m0) % w) * 3 + j)
  | 0, i, _, h1, h2 => by omega
  | n + 1, i, j, h1, h2 => by
    simp only [acc, catF]
    rcases Nat.lt_or_ge i (m0 + w * n) with h | h
    · rw [blt_t h, cond_true]; exact acc_hi hw h1 h
    · rw [blt_f h, cond_false]
      have h3 : w * (n + 1) = w * n + w := Nat.mul_succ _ _
      have e : i - m0 = w * n + (i - (m0 + w * n)) := by omega
      have hr : i - (m0 + w * n) < w := by omega
      rw [e, Nat.mul_add_div hw, Nat.mul_add_mod, Nat.div_eq_of_lt hr, Nat.mod_eq_of_lt hr, Nat.add_zero]

theorem blk_lo {D : Nat} {q : Nat → Nat → DV} {m0 : Nat} : ∀ {n i j : Nat}, i < m0 → blkA D q m0 n i j = q i j
  | 0, _, _, _ => rfl
  | n + 1, i, j, h => by
    simp only [blkA]
    rw [acc_lo (by omega)]
    simp only [catF]
    rw [blt_t (by omega), cond_true]
    exact blk_lo h

theorem blk_hi {D : Nat} {q : Nat → Nat → DV} {m0 : Nat} : ∀ {n i j : Nat}, m0 ≤ i → i < m0 + (1 + D) * n →
    blkA D q m0 n i j = if (i - m0) % (1 + D) = 0 then lkD [dI 5, dI ((i - m0) / (1 + D) : Nat), dI 0] j else lkD (d6 ((i - m0) / (1 + D) : Nat) ((i - m0) % (1 + D) - 1)) j
  | 0, i, _, h1, h2 => by omega
  | n + 1, i, j, h1, h2 => by
    have h3 : (1 + D) * (n + 1) = (1 + D) * n + (1 + D) := Nat.mul_succ _ _
    simp only [blkA]
    rcases Nat.lt_or_ge i (m0 + (1 + D) * n) with h | h
    · rw [acc_lo (by omega)]
      simp only [catF]
      rw [blt_t h, cond_true]
      exact blk_hi h1 h
    · have e : i - m0 = (1 + D) * n + (i - (m0 + (1 + D) * n)) := by omega
      have hr : i - (m0 + (1 + D) * n) < 1 + D := by omega
      rw [e, Nat.mul_add_div (by omega), Nat.mul_add_mod, Nat.div_eq_of_lt hr, Nat.mod_eq_of_lt hr, Nat.add_zero]
      rcases Nat.eq_or_lt_of_le h with h4 | h4
      · subst h4
        rw [acc_lo (by omega)]
        simp only [catF]
        rw [blt_f (Nat.le_refl _), cond_false, Nat.sub_self, if_pos rfl]
        simp only [ap, Nat.zero_mul, Nat.zero_add]
        rfl
      · rw [acc_hi (by omega) (by omega) (by omega), if_neg (by omega)]
        have e2 : (i - (m0 + (1 + D) * n + 1)) / 1 = i - (m0 + (1 + D) * n) - 1 := by rw [Nat.div_one]; omega
        have e3 : (i - (m0 + (1 + D) * n + 1)) % 1 = 0 := Nat.mod_one _
        rw [e2, e3, Nat.zero_mul, Nat.zero_add]
        rfl

/-- What word i is. -/
def spotL (A Bn D E i : Nat) : List Int :=
  if i < 3 then [0, i, 0] else if i < 3 + A then [1, (i - 3 : Nat), 0] else if i < 3 + A + Bn then [2, (i - (3 + A) : Nat), 0]
  else if i < 3 + A + Bn + 2 * E then [(if (i - (3 + A + Bn)) % 2 = 0 then 3 else 4), ((i - (3 + A + Bn)) / 2 : Nat), 0]
  else if (i - (3 + A + Bn + 2 * E)) % (1 + D) = 0 then [5, ((i - (3 + A + Bn + 2 * E)) / (1 + D) : Nat), 0] else [6, ((i - (3 + A + Bn + 2 * E)) / (1 + D) : Nat), ((i - (3 + A + Bn + 2 * E)) % (1 + D) - 1 : Nat)]
def spot (A Bn D E i j : Nat) : Int := (spotL A Bn D E i).getD j 0

theorem qAll_spot {A Bn Cn D E i j : Nat} (hi : i < sizeN A Bn Cn D E) (hj : j < 3) : qAll A Bn Cn D E i j = .v (.int .i64 (spot A Bn D E i j)) := by
  unfold qAll spot spotL
  unfold sizeN at hi
  simp only [Nat.one_mul] at *
  split
  · rename_i h
    rw [blk_lo (by omega), acc_lo (by omega), acc_lo (by omega), acc_lo (by omega)]
    match i, h, j, hj with
    | 0, _, 0, _ | 0, _, 1, _ | 0, _, 2, _ | 1, _, 0, _ | 1, _, 1, _ | 1, _, 2, _ | 2, _, 0, _ | 2, _, 1, _ | 2, _, 2, _ => rfl
  · split
    · rw [blk_lo (by omega), acc_lo (by omega), acc_lo (by omega), acc_hi (by omega) (by omega) (by omega), Nat.div_one, Nat.mod_one, Nat.zero_mul, Nat.zero_add]
      match j, hj with
      | 0, _ | 1, _ | 2, _ => rfl
    · split
      · rw [blk_lo (by omega), acc_lo (by omega), acc_hi (by omega) (by omega) (by omega), Nat.div_one, Nat.mod_one, Nat.zero_mul, Nat.zero_add]
        match j, hj with
        | 0, _ | 1, _ | 2, _ => rfl
      · split
        · rw [blk_lo (by omega), acc_hi (by omega) (by omega) (by omega)]
          rcases Nat.mod_two_eq_zero_or_one (i - (3 + A + Bn)) with h | h
          · rw [h, if_pos rfl]
            match j, hj with
            | 0, _ | 1, _ | 2, _ => rfl
          · rw [h, if_neg (by omega)]
            match j, hj with
            | 0, _ | 1, _ | 2, _ => rfl
        · rw [blk_hi (by omega) (by omega)]
          split
          · match j, hj with
            | 0, _ | 1, _ | 2, _ => rfl
          · match j, hj with
            | 0, _ | 1, _ | 2, _ => rfl

def FAllN : List (List Int) → List (Bool × SV × SH)
  | [[a, b, c, d, e, f, g, l]] => [(chk a b c d e f g l == 0, .own 3, [.dead, .dead, .dead, .row 94 3 (sizeN a.toNat b.toNat c.toNat d.toNat e.toNat) (fun i j => .v (.int .i64 (spot a.toNat b.toNat d.toNat e.toNat i j)))])]
  | _ => []
def S20n {Ω : Type} : Spec Ω := conSpecL [.g cfgK] FAllN
theorem g20n : Good1 Tryz.prog 44 S20n := conGoodL Tryz.func44 (by kernel_rfl) c20 e20 mix (A := A20) fun L r hr hl hF => by
  obtain ⟨x, rfl, hx⟩ := lenAs_one hl
  obtain ⟨a, b, c, d, e, f, g, i, rfl⟩ := eight hx
  simp only [FAllN, firstAlt] at hF
  cases h : (chk a b c d e f g i == 0) with
  | false => rw [h] at hF; cases hF
  | true =>
    rw [h] at hF
    simp only [cond_true, Option.some.injEq, Prod.mk.injEq] at hF
    obtain ⟨rfl, rfl⟩ := hF
    exact ⟨trivial, ⟨trivial, trivial, trivial, fun _ _ => ⟨_, rfl⟩, trivial⟩, [.dead, .dead, .dead, .row 94 3 (sizeN a.toNat b.toNat c.toNat d.toNat e.toNat) (qAll a.toNat b.toNat c.toNat d.toNat e.toNat)], _,
      ⟨.inl rfl, .inl rfl, .inl rfl, .inr ⟨_, _, _, _, _, rfl, rfl, fun i hi j hj => qAll_spot hi hj⟩, trivial⟩, by kernel_rfl, v20 _ (by simpa using h)⟩
end Go.Sx.Pr

namespace Go.Sx.Pr
open Go Go.Sx Go.Proofs
set_option maxRecDepth 100000
def K83_1 : CC := .seq (.reg false [⟨some 12, .mv (.t 3), none, 0⟩,
   ⟨some 2, .mv (.t 12), none, 0⟩])
 (.ret)
def L83_2 : CC := .seq (.seq (.reg false [⟨some 5, .mv (.t 4), none, 0⟩,
   ⟨some 6, .mv (.t 0), none, 0⟩,
   ⟨some 7, .bin .lss (.t 5) (.t 6), none, 0⟩])
 (.cond 7 (.skip)
   (.exit 0)))
 (.seq (.block 1 (.reg false [⟨some 10, .mv (.t 3), none, 0⟩,
     ⟨some 11, .bin .mul (.t 10) (.c (.d (.v (.int .u64 2)))), none, 0⟩,
     ⟨some 3, .mv (.t 11), none, 0⟩]))
 (.reg false [⟨some 8, .mv (.t 4), none, 0⟩,
   ⟨some 9, .bin .add (.t 8) (.c (.d (.v (.int .i64 1)))), none, 0⟩,
   ⟨some 4, .mv (.t 9), none, 0⟩]))
def K83_3 : CC := .reg false [⟨some 4, .mv (.c (.d (.v (.int .i64 0)))), none, 0⟩]
def K83_4 : CC := .reg false [⟨some 3, .mv (.c (.d (.v (.int .u64 1)))), none, 0⟩]
def K83_5 : CC := .reg false [⟨some 2, .mv (.c (.d (.v (.int .u64 0)))), none, 0⟩]
/-- coatcheck/coatcheckref01.power -/
def C83 : CF := ⟨1, [(2, none)],
 .seq K83_5 (.seq K83_4 (.seq (.seq K83_3 (.block 0 (.loop L83_2))) K83_1))⟩
theorem c83 : coF Tryz.prog Tryz.f65 = some C83 := by kernel_rfl
def A83 : Ann := { keep := [0, 2, 3, 4, 7], live := [(0, [0, 3, 4])] }
def E83 {Ω : Type} : Env Ω := enil
theorem e83 : GoodE Tryz.prog E83 := GoodE.nil
def S83 {Ω : Type} : Spec Ω := inl E83 A83 C83 false
theorem g83 : Good1 Tryz.prog 65 S83 := Good1.inl e83 mix Tryz.func65 (by kernel_rfl) c83 A83 false
def K80_1 : CC := .seq (.seq (.reg false [⟨some 14, .mv (.t 1), none, 0⟩,
   ⟨some 15, .bin .gtr (.t 14) (.c (.d (.v (.int .i64 63)))), none, 0⟩])
 (.cond 15 (.seq (.reg false [⟨some 16, .mv (.t 0), none, 0⟩,
     ⟨some 4, .mv (.t 16), none, 0⟩])
   (.ret))
   (.skip)))
 (.seq (.reg false [⟨some 17, .mv (.t 0), none, 0⟩,
   ⟨some 18, .mv (.t 5), none, 0⟩,
   ⟨some 19, .bin .rem (.t 17) (.t 18), none, 0⟩,
   ⟨some 4, .mv (.t 19), none, 0⟩])
 (.ret))
def L80_2 : CC := .seq (.seq (.reg false [⟨some 7, .mv (.t 6), none, 0⟩,
   ⟨some 8, .mv (.t 1), none, 0⟩,
   ⟨some 9, .bin .lss (.t 7) (.t 8), none, 0⟩])
 (.cond 9 (.skip)
   (.exit 0)))
 (.seq (.block 1 (.reg false [⟨some 12, .mv (.t 5), none, 0⟩,
     ⟨some 13, .bin .mul (.t 12) (.c (.d (.v (.int .u64 2)))), none, 0⟩,
     ⟨some 5, .mv (.t 13), none, 0⟩]))
 (.reg false [⟨some 10, .mv (.t 6), none, 0⟩,
   ⟨some 11, .bin .add (.t 10) (.c (.d (.v (.int .i64 1)))), none, 0⟩,
   ⟨some 6, .mv (.t 11), none, 0⟩]))
def K80_3 : CC := .reg false [⟨some 6, .mv (.c (.d (.v (.int .i64 0)))), none, 0⟩]
def K80_4 : CC := .reg false [⟨some 5, .mv (.c (.d (.v (.int .u64 1)))), none, 0⟩]
def K80_5 : CC := .reg false [⟨some 4, .mv (.c (.d (.v (.int .u64 0)))), none, 0⟩]
/-- coatcheck/coatcheckref01.Low -/
def C80 : CF := ⟨2, [(4, none)],
 .seq K80_5 (.seq K80_4 (.seq (.seq K80_3 (.block 0 (.loop L80_2))) K80_1))⟩
theorem c80 : coF Tryz.prog Tryz.f64 = some C80 := by kernel_rfl
def A80 : Ann := { keep := [0, 1, 4, 5, 6, 9, 15], live := [(0, [0, 1, 5, 6])] }
def E80 {Ω : Type} : Env Ω := enil
theorem e80 : GoodE Tryz.prog E80 := GoodE.nil
def S80 {Ω : Type} : Spec Ω := inl E80 A80 C80 false
theorem g80 : Good1 Tryz.prog 64 S80 := Good1.inl e80 mix Tryz.func64 (by kernel_rfl) c80 A80 false
/-- coatcheck/coatcheckref01.Entry -/
def C69 : CF := ⟨3, [(6, none)],
 .seq (.reg false [⟨some 6, .mv (.c (.d (.v (.int .u64 0)))), none, 0⟩])
 (.seq (.reg false [⟨some 7, .mv (.t 0), none, 0⟩,
   ⟨some 8, .call (.c (.fn (.func 64) [] [])) [.t 7, .c (.d (.v (.int .i64 44)))], none, 0⟩,
   ⟨some 9, .call (.c (.fn (.func 65) [] [])) [.c (.d (.v (.int .i64 20)))], none, 0⟩,
   ⟨some 10, .bin .mul (.t 8) (.t 9), none, 0⟩,
   ⟨some 11, .mv (.t 1), none, 0⟩,
   ⟨some 12, .conv .u64 (.t 11), none, 0⟩,
   ⟨some 13, .bin .add (.t 12) (.c (.d (.v (.int .u64 1)))), none, 0⟩,
   ⟨some 14, .call (.c (.fn (.func 64) [] [])) [.t 13, .c (.d (.v (.int .i64 16)))], none, 0⟩,
   ⟨some 15, .bin .mul (.t 14) (.c (.d (.v (.int .u64 16)))), none, 0⟩,
   ⟨some 16, .bin .add (.t 10) (.t 15), none, 0⟩,
   ⟨some 17, .mv (.t 2), none, 0⟩,
   ⟨some 18, .conv .u64 (.t 17), none, 0⟩,
   ⟨some 19, .call (.c (.fn (.func 64) [] [])) [.t 18, .c (.d (.v (.int .i64 4)))], none, 0⟩,
   ⟨some 20, .bin .add (.t 16) (.t 19), none, 0⟩,
   ⟨some 6, .mv (.t 20), none, 0⟩])
 (.ret))⟩
theorem c69 : coF Tryz.prog Tryz.f45 = some C69 := by kernel_rfl
def A69 : Ann := { keep := [0, 1, 2, 6], live := [] }
def E69 {Ω : Type} : Env Ω := econs 64 S80 (econs 65 S83 (enil))
theorem e69 : GoodE Tryz.prog E69 := GoodE.cons g80 (GoodE.cons g83 (GoodE.nil))
end Go.Sx.Pr

/- Contract: the document's entry word of a free entry. -/
namespace Go.Sx.Pr
open Go Go.Sx Go.Proofs
set_option maxRecDepth 100000
def FEnt : List (List Int) → Option (Bool × SV × SH)
  | [[1], [-1], [0]] => some (true, U 1048576, [])
  | _ => none
def S69 {Ω : Type} : Spec Ω := conSpec [.i .u64, .i .i64, .i .i64] FEnt
theorem run69 : sxFn (E69 (Ω := SV)) A69 C69 [U 1, I (-1), I 0] [] (fun r _ => some r) = some (U 1048576) := by kernel_rfl
theorem g69 : Good1 Tryz.prog 45 S69 := conGood Tryz.func45 (by kernel_rfl) c69 e69 mix (A := A69) fun l r hr hl hF => by
  unfold FEnt at hF
  split at hF
  · simp only [Option.some.injEq, Prod.mk.injEq, true_and] at hF
    obtain ⟨rfl, rfl⟩ := hF
    obtain ⟨H, hH⟩ := run_of_val e69 run69
    exact ⟨trivial, trivial, H, trim_none rfl _, hH⟩
  · cases hF
end Go.Sx.Pr

namespace Go.Sx.Pr
open Go Go.Sx Go.Proofs
set_option maxRecDepth 100000
def K35_1 : CC := .seq (.reg false [⟨some 81, .mv (.t 4), none, 0⟩,
   ⟨some 2, .mv (.t 81), none, 0⟩])
 (.ret)
def K35_2 : CC := .reg false [⟨some 16, .mv (.t 5), none, 0⟩,
   ⟨some 17, .bin .add (.t 16) (.c (.d (.v (.int .i64 1)))), none, 0⟩,
   ⟨some 5, .mv (.t 17), none, 0⟩]
def K35_3 : CC := .reg false [⟨some 77, .mv (.t 4), none, 0⟩,
   ⟨some 78, .mv (.t 6), none, 0⟩,
   ⟨some 79, .bsl 22 1 1 [.d (.v (.int .u64 0))] [(0, 1, .t 78)], none, 0⟩,
   ⟨some 80, .app 22 1 8 (some .u64) (.t 77) (.t 79), none, 0⟩,
   ⟨some 4, .mv (.t 80), none, 0⟩]
def K35_4 : CC := .seq (.reg true [⟨some 53, .mv (.t 3), none, 0⟩,
   ⟨some 54, .mv (.t 5), none, 0⟩,
   ⟨some 55, .ixs 3 (.t 53) (.t 54), none, 3⟩,
   ⟨some 56, .fa 0 (.t 55), none, 7⟩,
   ⟨some 57, .ld 1 false (.t 56), none, 15⟩,
   ⟨some 58, .eq .int false (.t 57) (.c (.d (.v (.int .i64 4)))), none, 31⟩,
   ⟨some 59, .mv (.t 58), none, 63⟩,
   ⟨some 60, .mv (.t 3), some (59, true), 127⟩,
   ⟨some 61, .mv (.t 5), some (59, true), 127⟩,
   ⟨some 62, .ixs 3 (.t 60) (.t 61), some (59, true), 511⟩,
   ⟨some 63, .fa 1 (.t 62), some (59, true), 1023⟩,
   ⟨some 64, .ld 1 false (.t 63), some (59, true), 2047⟩,
   ⟨some 65, .fa 4 (.t 1), some (59, true), 127⟩,
   ⟨some 66, .ld 1 false (.t 65), some (59, true), 4223⟩,
   ⟨some 67, .bin .sub (.t 66) (.c (.d (.v (.int .i64 1)))), some (59, true), 12415⟩,
   ⟨some 68, .bin .lss (.t 64) (.t 67), some (59, true), 32767⟩,
   ⟨some 69, .pick (.t 59) (.t 68) (.c (.d (.v (.bool false)))), none, 65535⟩])
 (.cond 69 (.reg false [⟨some 70, .mv (.t 3), none, 0⟩,
     ⟨some 71, .mv (.t 5), none, 0⟩,
     ⟨some 72, .ixs 3 (.t 70) (.t 71), none, 0⟩,
     ⟨some 73, .fa 1 (.t 72), none, 0⟩,
     ⟨some 74, .ld 1 false (.t 73), none, 0⟩,
     ⟨some 75, .conv .u64 (.t 74), none, 0⟩,
     ⟨some 76, .bin .add (.t 75) (.c (.d (.v (.int .u64 2)))), none, 0⟩,
     ⟨some 6, .mv (.t 76), none, 0⟩])
   (.skip))
def K35_5 : CC := .seq (.reg false [⟨some 46, .mv (.t 3), none, 0⟩,
   ⟨some 47, .mv (.t 5), none, 0⟩,
   ⟨some 48, .ixs 3 (.t 46) (.t 47), none, 0⟩,
   ⟨some 49, .fa 0 (.t 48), none, 0⟩,
   ⟨some 50, .ld 1 false (.t 49), none, 0⟩,
   ⟨some 51, .eq .int false (.t 50) (.c (.d (.v (.int .i64 3)))), none, 0⟩])
 (.cond 51 (.reg false [⟨some 52, .call (.c (.fn (.func 45) [] [])) [.c (.d (.v (.int .u64 1))), .c (.d (.v (.int .i64 (-1)))), .c (.d (.v (.int .i64 0)))], none, 0⟩,
     ⟨some 6, .mv (.t 52), none, 0⟩])
   (.skip))
def K35_6 : CC := .seq (.reg false [⟨some 32, .mv (.t 3), none, 0⟩,
   ⟨some 33, .mv (.t 5), none, 0⟩,
   ⟨some 34, .ixs 3 (.t 32) (.t 33), none, 0⟩,
   ⟨some 35, .fa 0 (.t 34), none, 0⟩,
   ⟨some 36, .ld 1 false (.t 35), none, 0⟩,
   ⟨some 37, .eq .int false (.t 36) (.c (.d (.v (.int .i64 0)))), none, 0⟩,
   ⟨some 38, .mv (.t 37), none, 0⟩,
   ⟨some 39, .mv (.t 3), some (38, true), 0⟩,
   ⟨some 40, .mv (.t 5), some (38, true), 0⟩,
   ⟨some 41, .ixs 3 (.t 39) (.t 40), some (38, true), 0⟩,
   ⟨some 42, .fa 1 (.t 41), some (38, true), 0⟩,
   ⟨some 43, .ld 1 false (.t 42), some (38, true), 0⟩,
   ⟨some 44, .eq .int false (.t 43) (.c (.d (.v (.int .i64 2)))), some (38, true), 0⟩,
   ⟨some 45, .pick (.t 38) (.t 44) (.c (.d (.v (.bool false)))), none, 0⟩])
 (.cond 45 (.reg false [⟨some 6, .mv (.c (.d (.v (.int .u64 1)))), none, 0⟩])
   (.skip))
def K35_7 : CC := .seq (.reg false [⟨some 18, .mv (.t 3), none, 0⟩,
   ⟨some 19, .mv (.t 5), none, 0⟩,
   ⟨some 20, .ixs 3 (.t 18) (.t 19), none, 0⟩,
   ⟨some 21, .fa 0 (.t 20), none, 0⟩,
   ⟨some 22, .ld 1 false (.t 21), none, 0⟩,
   ⟨some 23, .eq .int false (.t 22) (.c (.d (.v (.int .i64 0)))), none, 0⟩,
   ⟨some 24, .mv (.t 23), none, 0⟩,
   ⟨some 25, .mv (.t 3), some (24, true), 0⟩,
   ⟨some 26, .mv (.t 5), some (24, true), 0⟩,
   ⟨some 27, .ixs 3 (.t 25) (.t 26), some (24, true), 0⟩,
   ⟨some 28, .fa 1 (.t 27), some (24, true), 0⟩,
   ⟨some 29, .ld 1 false (.t 28), some (24, true), 0⟩,
   ⟨some 30, .eq .int false (.t 29) (.c (.d (.v (.int .i64 0)))), some (24, true), 0⟩,
   ⟨some 31, .pick (.t 24) (.t 30) (.c (.d (.v (.bool false)))), none, 0⟩])
 (.cond 31 (.reg false [⟨some 6, .mv (.c (.d (.v (.int .u64 2)))), none, 0⟩])
   (.skip))
def K35_8 : CC := .reg false [⟨some 6, .mv (.c (.d (.v (.int .u64 0)))), none, 0⟩]
def K35_9 : CC := .seq (.reg false [⟨some 12, .mv (.t 5), none, 0⟩,
   ⟨some 13, .mv (.t 3), none, 0⟩,
   ⟨some 14, .len (.t 13), none, 0⟩,
   ⟨some 15, .bin .lss (.t 12) (.t 14), none, 0⟩])
 (.cond 15 (.skip)
   (.exit 0))
def L35_10 : CC := .seq K35_9 (.seq (.block 1 (.seq K35_8 (.seq K35_7 (.seq K35_6 (.seq K35_5 (.seq K35_4 K35_3)))))) K35_2)
def K35_11 : CC := .reg false [⟨some 5, .mv (.c (.d (.v (.int .i64 0)))), none, 0⟩]
def K35_12 : CC := .reg false [⟨some 4, .mv (.c (.d (.v (.slice none 0 0)))), none, 0⟩]
def K35_13 : CC := .reg false [⟨some 10, .ld 8 true (.t 1), none, 0⟩,
   ⟨some 11, .call (.c (.fn (.func 44) [] [])) [.t 10], none, 0⟩,
   ⟨some 3, .mv (.t 11), none, 0⟩]
def K35_14 : CC := .seq (.reg false [⟨some 7, .ld 8 true (.t 1), none, 0⟩,
   ⟨some 8, .call (.c (.fn (.func 18) [] [])) [.t 7], none, 0⟩,
   ⟨some 9, .eq .int true (.t 8) (.c (.d (.v (.int .i64 0)))), none, 0⟩])
 (.cond 9 (.seq (.reg false [⟨some 2, .mv (.c (.d (.v (.slice none 0 0)))), none, 0⟩])
   (.ret))
   (.skip))
def K35_15 : CC := .reg false [⟨some 1, .box 24 8 (.t 0), none, 0⟩,
   ⟨some 2, .mv (.c (.d (.v (.slice none 0 0)))), none, 0⟩]
/-- coatcheck/coatcheckref02.First -/
def C35 : CF := ⟨1, [(2, none)],
 .seq K35_15 (.seq K35_14 (.seq K35_13 (.seq K35_12 (.seq (.seq K35_11 (.block 0 (.loop L35_10))) K35_1))))⟩
theorem c35 : coF Tryz.prog Tryz.f20 = some C35 := by kernel_rfl
def A35 : Ann := { keep := [0, 1, 2, 3, 4, 5, 6, 9, 15, 31, 45, 51, 69], live := [(0, [1, 3, 4, 5])] }
def E35 {Ω : Type} : Env Ω := econs 18 S19 (econs 44 S20n (econs 45 S69 (enil)))
theorem e35 : GoodE Tryz.prog E35 := GoodE.cons g19 (GoodE.cons g20n (GoodE.cons g69 (GoodE.nil)))
def Z35_10 {Ω : Type} (it : Itr Ω) (K : SV → SH → Option Ω) : SE → SS → Option Ω := kblk 0 (kseq it E35 A35 K35_1 0 (kfn C35 K))
end Go.Sx.Pr
