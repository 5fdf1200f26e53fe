/- Operations, eleventh part: append. -/
import Derived.Test.YtpnnnklahanecaaSxOps10
namespace Go.Sx

section
variable {P : Program} {A : Ann} {o : Oper} {s : SS} {Ω : Type} {k : SV → List Nat → SS → Option Ω} {out : Ω}

theorem DRep.one {fz : Nat → Prop} {w : World} {x : DV} {u : Value} (h : DRep fz w x u) : u.oneCell' = true := by
  cases x with
  | v y => obtain ⟨rfl, hc⟩ := h; cases u <;> simp_all [cellV, Value.oneCell']
  | ints k l => obtain ⟨a, c, rfl, _⟩ := h; rfl
  | sl sz n f => obtain ⟨a, c, rfl, _⟩ := h; rfl

/-- A slice value with its cells. -/
structure Src (w : World) (sz m : Nat) (x : Value) (bb : Option Addr) (cc : Nat) (l : List Value) : Prop where
  val : x = .slice bb m cc
  len : l.length = m * sz
  one : ∀ v ∈ l, v.oneCell' = true
  cell : ∀ b, bb = some b → ∀ j v, l[j]? = some v → w.cell? (b.add j) = some v
  nil : bb = none → l = []

theorem Src.first {w : World} {sz m : Nat} {x : Value} {bb : Option Addr} {cc : Nat} {l : List Value} (h : Src w sz m x bb cc l) : (Builtin.firstCells sz m x).run P w = .ok ⟨l⟩ w := by
  rw [h.val]
  cases bb with
  | none => rw [h.nil rfl, run_firstCells_none]
  | some b => rw [run_firstCells_some (P := P) w sz m b m cc l h.len (h.cell b rfl)]

theorem Src.firstD {w w' : World} {sz m : Nat} {x : Value} {bb : Option Addr} {cc : Nat} {l : List Value} (h : Src w sz m x bb cc l) (hh : w'.heap = w.heap) : (Builtin.firstCells sz m x).run P w' = .ok ⟨l⟩ w' := by
  refine Src.first ⟨h.val, h.len, h.one, fun b e j v hv => ?_, h.nil⟩
  have := h.cell b e j v hv
  simpa [World.cell?, hh] using this

/-- A row object's content as cells. -/
def Holds (fz : Nat → Prop) (w : World) (sz N : Nat) (l : List Value) : SO → Prop
  | .rowi _ k xs => sz = 1 ∧ xs.length = N ∧ l = xs.map (.int k)
  | .row _ sz' n f => sz' = sz ∧ n = N ∧ l.length = N * sz ∧ ∀ i, i < N → ∀ j, j < sz → ∃ v, l[i * sz + j]? = some v ∧ DRep fz w (f i j) v
  | _ => False

theorem Holds.length {fz : Nat → Prop} {w : World} {sz N : Nat} {l : List Value} {so : SO} (h : Holds fz w sz N l so) : l.length = N * sz := by
  cases so with
  | rowi t k xs => obtain ⟨rfl, rfl, rfl⟩ := h; simp
  | row t sz' n f => exact h.2.2.1
  | _ => exact h.elim

theorem Holds.mono {fz fz' : Nat → Prop} {w w' : World} (hf : ∀ b, fz b → fz' b) (hs : ∀ b, fz b → w'.heap[b]? = w.heap[b]?) {sz N : Nat} {l : List Value} {so : SO} (h : Holds fz w sz N l so) : Holds fz' w' sz N l so := by
  cases so with
  | rowi t k xs => exact h
  | row t sz' n f =>
    obtain ⟨h1, h2, h3, h4⟩ := h
    refine ⟨h1, h2, h3, fun i hi j hj => ?_⟩
    obtain ⟨v, h5, h6⟩ := h4 i hi j hj
    exact ⟨v, h5, DRep.mono hf hs _ _ h6⟩
  | _ => exact h.elim

theorem ORep.row_of {cx : Cx} {w : World} {l : Nat} {so : SO} {sz N : Nat} {cells : List Value} (h : Holds cx.fz w sz N cells so) (hl : cx.ln l = N) (hr : cx.rs l = sz) (hc : N ≤ cx.cp l)
    (hn : cx.nl l = true → cx.cp l = 0) (hb : cx.nl l = false → ∃ t c', w.heap[cx.th l]? = some (.cells c' t (0, 0)) ∧ c'.size = cx.cp l * sz ∧ c'.toList.take (N * sz) = cells) : ORep cx w l so := by
  have get : ∀ {c' : Array Value} {i : Nat}, c'.toList.take (N * sz) = cells → i < N * sz → c'[i]? = cells[i]? := by
    intro c' i e hi
    rw [← e, List.getElem?_take, if_pos hi]; simp
  cases so with
  | rowi t k xs =>
    obtain ⟨rfl, rfl, rfl⟩ := h
    refine ⟨hl, hr, hc, hn, fun e => ?_⟩
    obtain ⟨t', c', h1, h2, h3⟩ := hb e
    refine ⟨t', c', h1, by simpa using h2, fun i hi => ?_⟩
    rw [get h3 (by omega)]
    simp [List.getD_eq_getElem?_getD, hi]
  | row t sz' n f =>
    obtain ⟨rfl, rfl, h3, h4⟩ := h
    refine ⟨hl, hr, hc, hn, fun e => ?_⟩
    obtain ⟨t', c', h1, h2, h5⟩ := hb e
    refine ⟨t', c', h1, h2, fun i hi j hj => ?_⟩
    obtain ⟨v, h6, h7⟩ := h4 i hi j hj
    refine ⟨v, ?_, h7⟩
    rw [get h5 ?_]; exact h6
    have : (i + 1) * sz' ≤ n * sz' := Nat.mul_le_mul_right _ hi
    rw [Nat.add_mul, Nat.one_mul] at this; omega
  | _ => exact h.elim

theorem liv_row {cx : Cx} {h : SH} {l : Nat} {so : SO} {fz : Nat → Prop} {w : World} {sz N : Nat} {c : List Value} (hh : Holds fz w sz N c so) (hg : hget h l = so) : liv cx h l ↔ cx.nl l = false := by
  cases so with
  | rowi t k xs => simp [liv, hg]
  | row t sz' n f => simp [liv, hg]
  | _ => exact hh.elim

/-! ### reading a slice value as cells -/
theorem asInts_map {cx : Cx} {w : World} {kd : IntKind} : ∀ {c : List SV} {l : List Int} {c' : List Value}, asInts kd c = some l → SRepL cx w c c' → c' = l.map (.int kd)
  | [], l, [], h, _ => by simp only [asInts, Option.some.injEq] at h; subst h; rfl
  | x :: r, l, v :: vs, h, hr => by
    simp only [SRepL] at hr
    unfold asInts at h
    split at h
    · rename_i e; simp at e
    · rename_i k' y r' e
      simp only [List.cons.injEq] at e
      obtain ⟨rfl, rfl⟩ := e
      have hA := cond_some h
      clear h
      have hk := kEq_eq hA.1
      have h := hA.2
      clear hA
      subst hk
      split at h
      · rename_i q hq
        simp only [Option.some.injEq] at h; subst h
        rw [asInts_map hq hr.2, int_of hr.1]; rfl
      · simp at h
    · simp at h
  | [], _, _ :: _, _, h => by simp [SRepL] at h
  | _ :: _, _, [], _, h => by simp [SRepL] at h

theorem vals_one {k : IntKind} (xs : List Int) : ∀ v ∈ xs.map (Value.int k), v.oneCell' = true := by
  intro v hv
  obtain ⟨x, _, rfl⟩ := List.mem_map.1 hv
  rfl

theorem src_ints {cx : Cx} {h : SH} {w : World} (g : Gam cx h w) {x : SV} {u : Value} (hx : SRep cx w x u) {kd : IntKind} {ys : List Int} (hi : intsOf h kd x = some ys) :
    ∃ bb cc, Src w 1 ys.length u bb cc (ys.map (.int kd)) := by
  unfold intsOf at hi
  split at hi
  · rename_i k' l
    have hA := cond_some hi
    clear hi
    have hk := kEq_eq hA.1
    have hi := hA.2
    clear hA
    subst hk
    simp only [Option.some.injEq] at hi; subst hi
    simp only [SRep, DRep] at hx
    obtain ⟨a, c, e, hc, hl⟩ := hx
    refine ⟨a, c, ⟨e, by simp, vals_one _, fun b hb j v hv => ?_, fun hn => ?_⟩⟩
    · simp only [List.getElem?_map, Option.map_eq_some_iff] at hv
      obtain ⟨y, hy, rfl⟩ := hv
      have hj := (List.getElem?_eq_some_iff.1 hy).1
      obtain ⟨blk, off, e1, _, hcell⟩ := hl (by intro e0; subst e0; simp at hj)
      rw [hb] at e1; simp only [Option.some.injEq] at e1; subst e1
      rw [addr_add, hcell j hj]; simp [List.getD_eq_getElem?_getD, hy]
    · rcases l with _ | ⟨y, r⟩
      · rfl
      · obtain ⟨blk, off, e1, _⟩ := hl (by simp); rw [hn] at e1; simp at e1
  · simp only [Option.some.injEq] at hi; subst hi
    simp only [SRep, DRep] at hx
    exact ⟨none, 0, ⟨hx.1, rfl, fun v hv => by simp at hv, fun b hb => by simp at hb, fun _ => rfl⟩⟩
  · simp only [Option.some.injEq] at hi; subst hi
    simp only [SRep, DRep] at hx
    exact ⟨_, _, ⟨hx.1, rfl, fun v hv => by simp at hv, fun b _ j v hv => by simp at hv, fun _ => rfl⟩⟩
  · rename_i l
    have ho := g.obj l
    simp only [SRep] at hx
    split at hi
    · rename_i t k' xs hg
      have hA := cond_some hi
      clear hi
      have hk := kEq_eq hA.1
      have hi := hA.2
      clear hA
      subst hk
      simp only [Option.some.injEq] at hi; subst hi
      rw [hg] at ho
      obtain ⟨hln, hrs, hcp, hnl, hb⟩ := ho
      rw [hln] at hx
      refine ⟨_, _, ⟨hx.2, by simp, vals_one _, fun b hb' j v hv => ?_, fun hn => ?_⟩⟩
      · cases hq : cx.nl l with
        | true => simp [hq] at hb'
        | false =>
          simp only [hq, cond_false, Option.some.injEq] at hb'; subst hb'
          obtain ⟨t', c', h1, h2, h3⟩ := hb hq
          simp only [List.getElem?_map, Option.map_eq_some_iff] at hv
          obtain ⟨y, hy, rfl⟩ := hv
          have hj := (List.getElem?_eq_some_iff.1 hy).1
          rw [addr_add]
          simp [World.cell?, ad, h1, h3 j hj, List.getD_eq_getElem?_getD, hy]
      · cases hq : cx.nl l with
        | true =>
          have := hnl hq
          have : xs.length = 0 := by omega
          rw [List.length_eq_zero_iff.1 this]; rfl
        | false => simp [hq] at hn
    · simp at hi
  · rename_i l o' sz n c
    have ho := g.obj l
    simp only [SRep] at hx
    split at hi
    · rename_i t cs hg
      obtain ⟨hb, hi⟩ := cond_some hi
      simp only [Bool.and_eq_true] at hb
      have hle := Nat.le_of_ble_eq_true hb.2
      rw [hg] at ho
      obtain ⟨t', c', h1, h2⟩ := ho
      have hcl := h2.length
      have e := asInts_map hi ((h2.drop o').take n)
      have hyl : ys.length = n := by
        have := congrArg List.length e
        simp at this; omega
      subst hyl
      refine ⟨_, _, ⟨hx.2, by simp, vals_one _, fun b hb' j v hv => ?_, fun hn => by simp at hn⟩⟩
      simp only [Option.some.injEq] at hb'; subst hb'
      rw [← e, List.getElem?_take] at hv
      split at hv
      · rw [List.getElem?_drop] at hv
        rw [addr_add]; simp [World.cell?, ad, h1, hv]
      · simp at hv
    · simp at hi
  · simp at hi

theorem rows_idx {sz n i : Nat} (h : i < n * sz) : i / sz < n ∧ i % sz < sz ∧ i / sz * sz + i % sz = i := by
  have hs : 0 < sz := by
    rcases Nat.eq_zero_or_pos sz with h0 | h0
    · subst h0; simp at h
    · exact h0
  refine ⟨Nat.div_lt_of_lt_mul (by rw [Nat.mul_comm]; exact h), Nat.mod_lt _ hs, ?_⟩
  rw [Nat.mul_comm]; exact Nat.div_add_mod i sz

/-- Cells found one by one, as a list. -/
theorem src_cells {fz : Nat → Prop} {w : World} {b o sz n : Nat} {f : Nat → Nat → DV} (h : ∀ i, i < n → ∀ j, j < sz → ∃ x, w.cell? (ad b (o + (i * sz + j))) = some x ∧ DRep fz w (f i j) x) :
    ∃ l : List Value, l.length = n * sz ∧ (∀ v ∈ l, v.oneCell' = true) ∧ (∀ j v, l[j]? = some v → w.cell? (ad b (o + j)) = some v) ∧ ∀ i, i < n → ∀ j, j < sz → ∃ v, l[i * sz + j]? = some v ∧ DRep fz w (f i j) v := by
  have hi : ∀ q, q < n * sz → ∃ x, w.cell? (ad b (o + q)) = some x ∧ DRep fz w (f (q / sz) (q % sz)) x := by
    intro q hq
    obtain ⟨h1, h2, h3⟩ := rows_idx hq
    have := h _ h1 _ h2
    rwa [h3] at this
  refine ⟨(List.range (n * sz)).map fun q => (w.cell? (ad b (o + q))).getD undef, by simp, fun v hv => ?_, fun j v hv => ?_, fun i hi' j hj => ?_⟩
  · obtain ⟨q, hq, rfl⟩ := List.mem_map.1 hv
    obtain ⟨x, h1, h2⟩ := hi q (List.mem_range.1 hq)
    simp only [h1, Option.getD_some]; exact h2.one
  · simp only [List.getElem?_map, Option.map_eq_some_iff] at hv
    obtain ⟨q, hq, rfl⟩ := hv
    obtain ⟨hlt, he⟩ := List.getElem?_eq_some_iff.1 hq
    simp only [List.getElem_range] at he; subst he
    simp only [List.length_range] at hlt
    obtain ⟨x, h1, _⟩ := hi j hlt
    simp [h1]
  · obtain ⟨x, h1, h2⟩ := h i hi' j hj
    have : i * sz + j < n * sz := by
      have : (i + 1) * sz ≤ n * sz := Nat.mul_le_mul_right _ hi'
      rw [Nat.add_mul, Nat.one_mul] at this; omega
    exact ⟨x, by simp [this, h1], h2⟩

theorem src_row {cx : Cx} {h : SH} {w : World} (g : Gam cx h w) {x : SV} {u : Value} (hx : SRep cx w x u) {sz n : Nat} {f : Nat → Nat → DV} {e : TypeId} (hi : rowOf h sz x = some (n, f)) :
    ∃ bb cc l, Src w sz n u bb cc l ∧ Holds cx.fz w sz n l (.row e sz n f) := by
  unfold rowOf at hi
  split at hi
  · rename_i sz' n' f'
    have hA := cond_some hi
    clear hi
    have hk := Nat.eq_of_beq_eq_true hA.1
    have hi := hA.2
    clear hA
    subst hk
    simp only [Option.some.injEq, Prod.mk.injEq] at hi
    obtain ⟨rfl, rfl⟩ := hi
    simp only [SRep, DRep] at hx
    obtain ⟨a, c, e1, hc, hl⟩ := hx
    rcases Nat.eq_zero_or_pos n' with h0 | h0
    · subst h0
      exact ⟨a, c, [], ⟨e1, by simp, fun v hv => by simp at hv, fun b hb j v hv => by simp at hv, fun _ => rfl⟩, rfl, rfl, by simp, fun i hi => by omega⟩
    · obtain ⟨blk, off, e2, _, hcell⟩ := hl (by omega)
      obtain ⟨l, h1, h2, h3, h4⟩ := src_cells hcell
      refine ⟨a, c, l, ⟨e1, h1, h2, fun b hb j v hv => ?_, fun hn => by rw [hn] at e2; simp at e2⟩, rfl, rfl, h1, h4⟩
      rw [hb] at e2; simp only [Option.some.injEq] at e2; subst e2
      rw [addr_add]; exact h3 j v hv
  · simp only [Option.some.injEq, Prod.mk.injEq] at hi
    obtain ⟨rfl, rfl⟩ := hi
    simp only [SRep, DRep] at hx
    exact ⟨none, 0, [], ⟨hx.1, by simp, fun v hv => by simp at hv, fun b hb => by simp at hb, fun _ => rfl⟩, rfl, rfl, by simp, fun i hi => by omega⟩
  · simp only [Option.some.injEq, Prod.mk.injEq] at hi
    obtain ⟨rfl, rfl⟩ := hi
    simp only [SRep, DRep] at hx
    exact ⟨_, _, [], ⟨hx.1, by simp, fun v hv => by simp at hv, fun b _ j v hv => by simp at hv, fun _ => rfl⟩, rfl, rfl, by simp, fun i hi => by omega⟩
  · rename_i l
    have ho := g.obj l
    simp only [SRep] at hx
    split at hi
    · rename_i t sz' n' f' hg
      have hA := cond_some hi
      clear hi
      have hk := Nat.eq_of_beq_eq_true hA.1
      have hi := hA.2
      clear hA
      subst hk
      simp only [Option.some.injEq, Prod.mk.injEq] at hi
      obtain ⟨rfl, rfl⟩ := hi
      rw [hg] at ho
      obtain ⟨hln, hrs, hcp, hnl, hb⟩ := ho
      rw [hln] at hx
      cases hq : cx.nl l with
      | true =>
        have := hnl hq
        have h0 : n' = 0 := by omega
        subst h0
        exact ⟨_, _, [], ⟨hx.2, by simp, fun v hv => by simp at hv, fun b hb j v hv => by simp at hv, fun _ => rfl⟩, rfl, rfl, by simp, fun i hi => by omega⟩
      | false =>
        obtain ⟨t', c', h1, h2, h3⟩ := hb hq
        obtain ⟨l', h4, h5, h6, h7⟩ := src_cells (fz := cx.fz) (w := w) (b := cx.th l) (o := 0) (sz := sz) (n := n') (f := f') (by
          intro i hi j hj
          obtain ⟨x, h8, h9⟩ := h3 i hi j hj
          exact ⟨x, by simp [World.cell?, ad, h1, h8], h9⟩)
        refine ⟨_, _, l', ⟨hx.2, h4, h5, fun b hb' j v hv => ?_, fun hn => by simp [hq] at hn⟩, rfl, rfl, h4, h7⟩
        simp only [hq, cond_false, Option.some.injEq] at hb'; subst hb'
        rw [addr_add]; exact h6 j v hv
    · simp at hi
  · rename_i l o' sz' n' c
    have ho := g.obj l
    simp only [SRep] at hx
    split at hi
    · rename_i t cs hg
      have hA := cond_some hi
      clear hi
      have hb := hA.1
      have hi := hA.2
      clear hA
      simp only [Bool.and_eq_true] at hb
      have hk := Nat.eq_of_beq_eq_true hb.1
      have hle := Nat.le_of_ble_eq_true hb.2
      clear hb
      subst hk
      split at hi
      · rename_i ds hds
        simp only [Option.some.injEq, Prod.mk.injEq] at hi
        obtain ⟨rfl, rfl⟩ := hi
        rw [hg] at ho
        obtain ⟨t', c', h1, h2⟩ := ho
        have hcl := h2.length
        have hsl := (h2.drop o').take (n' * sz)
        have hsll := hsl.length
        obtain ⟨h3, h4⟩ := hsl.toD hds
        have hlen : ((c'.drop o').take (n' * sz)).length = n' * sz := by simp; omega
        refine ⟨_, _, (c'.drop o').take (n' * sz), ⟨hx.2, hlen, fun v hv => ?_, fun b hb' j v hv => ?_, fun hn => by simp at hn⟩, rfl, rfl, hlen, fun i hi j hj => ?_⟩
        · obtain ⟨q, hq, e1⟩ := List.getElem_of_mem hv
          obtain ⟨v', h5, h6⟩ := h4 q (by omega)
          rw [List.getElem?_eq_getElem hq] at h5
          simp only [Option.some.injEq] at h5
          rw [← e1, h5]; exact h6.one
        · simp only [Option.some.injEq] at hb'; subst hb'
          rw [List.getElem?_take] at hv
          split at hv
          · rw [List.getElem?_drop] at hv
            rw [addr_add]; simp [World.cell?, ad, h1, hv]
          · simp at hv
        · have : i * sz + j < n' * sz := by
            have : (i + 1) * sz ≤ n' * sz := Nat.mul_le_mul_right _ hi
            rw [Nat.add_mul, Nat.one_mul] at this; omega
          exact h4 (i * sz + j) (by omega)
      · simp at hi
    · simp at hi
  · simp at hi
end
end Go.Sx
