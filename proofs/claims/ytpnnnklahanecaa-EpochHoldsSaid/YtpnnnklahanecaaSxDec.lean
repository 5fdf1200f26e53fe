/- What a law's arguments are, as symbolic data. -/
import Derived.Test.YtpnnnklahanecaaSxLaw
set_option linter.unusedVariables false
set_option linter.unusedSimpArgs false
namespace Go.Sx

/-- Data of a type: the integers fit, no row is too long. -/
def Wt (P : Program) : Nat → TypeId → List DV → Prop
  | 0, _, _ => False
  | n + 1, t, l => match P.underlying t with
    | some .bool => ∃ b, l = [.v (.bool b)]
    | some (.int k) => ∃ x, l = [.v (.int k x)] ∧ (Lit.int k x).wf = true
    | some .string => ∃ s : ByteArray, l = [.v (.string s)] ∧ s.size ≤ maxLen
    | some (.slice e) => match P.underlying e with
      | some (.int k) => ∃ xs : List Int, l = [.ints k xs] ∧ xs.length ≤ maxLen ∧ ∀ x ∈ xs, (Lit.int k x).wf = true
      | _ => ∃ m f, l = [.sl (P.cellsOf e) m f] ∧ m ≤ maxLen ∧ ∀ i, i < m → Wt P n e ((List.range (P.cellsOf e)).map (f i))
    | some (.struct fs) => l.length = P.cellsOf t ∧ ∀ f ∈ fs.toList, Wt P n f.type ((l.drop f.offset).take (P.cellsOf f.type))
    | some (.array m e) => l.length = P.cellsOf t ∧ ∀ i, i < m → Wt P n e ((l.drop (i * P.cellsOf e)).take (P.cellsOf e))
    | _ => False

/-- The types that are served. -/
def suppT (P : Program) : Nat → TypeId → Bool
  | 0, _ => false
  | n + 1, t => match P.underlying t with
    | some .bool | some (.int _) | some .string => true
    | some (.slice e) => suppT P n e
    | some (.struct fs) => fs.toList.all fun f => suppT P n f.type
    | some (.array _ e) => suppT P n e
    | _ => false

def DRepL (fz : Nat → Prop) (w : World) (l : List DV) (cs : List Value) : Prop := l.length = cs.length ∧ ∀ j, j < l.length → DRep fz w (l.getD j (.v undef)) (cs.getD j undef)

theorem DRepL.one {fz : Nat → Prop} {w : World} {x : DV} {v : Value} (h : DRep fz w x v) : DRepL fz w [x] [v] := ⟨rfl, fun j hj => by
  have : j = 0 := by simpa using hj
  subst this; simpa using h⟩

theorem DRepL.part {fz : Nat → Prop} {w : World} {l : List DV} {cs : List Value} (h : DRepL fz w l cs) (o n : Nat) : DRepL fz w ((l.drop o).take n) ((cs.drop o).take n) := by
  refine ⟨by simp [h.1], fun j hj => ?_⟩
  simp only [List.length_take, List.length_drop] at hj
  have := h.2 (o + j) (by omega)
  simp only [List.getD_eq_getElem?_getD, List.getElem?_take, List.getElem?_drop] at this ⊢
  rw [if_pos (by omega), if_pos (by omega)]; exact this

theorem glue {fz : Nat → Prop} {w : World} {cs : List Value} : ∀ (items : List (Nat × Nat × (List DV → Prop))) (o : Nat),
    (∀ (j : Nat) x, items[j]? = some x → x.1 = o + ((items.take j).map (·.2.1)).sum) → (∀ x ∈ items, ∃ l, x.2.2 l ∧ DRepL fz w l ((cs.drop x.1).take x.2.1) ∧ l.length = x.2.1) →
    ∃ l : List DV, l.length = (items.map (·.2.1)).sum ∧ (∀ j, j < l.length → DRep fz w (l.getD j (.v undef)) (cs.getD (o + j) undef)) ∧ ∀ x ∈ items, x.2.2 ((l.drop (x.1 - o)).take x.2.1)
  | [], o, _, _ => ⟨[], rfl, by simp, by simp⟩
  | x :: r, o, ho, hl => by
    have hx : x.1 = o := by simpa using ho 0 x rfl
    obtain ⟨l1, h1, h2, h3⟩ := hl x (by simp)
    obtain ⟨l2, k1, k2, k3⟩ := glue (cs := cs) r (o + x.2.1) (fun j y hy => by
      have := ho (j + 1) y (by simpa using hy)
      simp only [List.take_succ_cons, List.map_cons, List.sum_cons] at this
      omega) fun y hy => hl y (by simp [hy])
    refine ⟨l1 ++ l2, by simp [h3, k1], fun j hj => ?_, fun y hy => ?_⟩
    · rcases Nat.lt_or_ge j l1.length with h | h
      · have := h2.2 j h
        simp only [List.getD_eq_getElem?_getD, List.getElem?_take, List.getElem?_drop, List.getElem?_append_left h] at this ⊢
        rw [if_pos (by omega), hx] at this; exact this
      · have := k2 (j - l1.length) (by simp at hj; omega)
        simp only [List.getD_eq_getElem?_getD, List.getElem?_append_right h] at this ⊢
        rw [show o + j = o + x.2.1 + (j - l1.length) by omega]; exact this
    · rcases List.mem_cons.1 hy with rfl | hy
      · rw [hx, Nat.sub_self, List.drop_zero, ← h3, List.take_left]; exact h1
      · obtain ⟨j, hj⟩ := List.getElem?_of_mem hy
        have hyo := ho (j + 1) y (by simpa using hj)
        simp only [List.take_succ_cons, List.map_cons, List.sum_cons] at hyo
        have := k3 y hy
        rw [List.drop_append, List.drop_of_length_le (by omega), List.nil_append, show y.1 - o - l1.length = y.1 - (o + x.2.1) by omega]
        exact this

theorem cell_ad {w : World} {a : Addr} {v : Value} (h : w.cell? a = some v) : a = ad a.block a.off ∧ a.block < w.heap.size := by
  obtain ⟨b, o, m⟩ := a
  simp only [World.cell?, ad] at h ⊢
  split at h
  · rename_i c t f hb
    cases m with
    | none => exact ⟨rfl, (Array.getElem?_eq_some_iff.1 hb).1⟩
    | some _ => simp at h
  · cases h

theorem ad_add (b o n : Nat) : (ad b o).add n = ad b (o + n) := by
  unfold Addr.add ad
  split
  · rename_i h; subst h; rfl
  · rfl

theorem sum_take_le : ∀ (l : List Nat) (j : Nat), j < l.length → (l.take j).sum + l.getD j 0 ≤ l.sum
  | x :: r, 0, _ => by simp
  | x :: r, j + 1, h => by
    have := sum_take_le r j (by simpa using h)
    simp only [List.take_succ_cons, List.sum_cons, List.getD_cons_succ]; omega

section
variable {H : Type} {enc : TypeId × Value → H} {P : Program} {w : World}

/-- The cells of a slice's elements. -/
theorem elems_of {n len : Nat} {e : TypeId} {a : Addr} {elems : List (DataW H × List MemPlace)} (h : (List.range len).mapM (fun i => (w.cells? 0 (a.add (i * P.cellsOf e)) (P.cellsOf e)).bind (DataW.trod enc P w 0 (fun _ => true) true n e)) = some elems) :
    ∀ i, i < len → ∃ ci x, DataW.trod enc P w 0 (fun _ => true) true n e ci = some x ∧ ci.length = P.cellsOf e ∧ ∀ j, j < P.cellsOf e → w.cell? ((a.add (i * P.cellsOf e)).add j) = ci[j]? := by
  intro i hi
  have h1 := mapM_some_get h i i (by simp [hi])
  have hl := mapM_some_length h
  rw [List.getElem?_eq_getElem (by rw [hl]; simpa using hi)] at h1
  obtain ⟨ci, h2, h3⟩ := Option.bind_eq_some_iff.1 h1
  obtain ⟨_, h4, h5⟩ := World.cells?_some h2
  exact ⟨ci, _, h3, h4, h5⟩

theorem Wt_int {n : Nat} {e : TypeId} {k : IntKind} (he : P.underlying e = some (.int k)) {l : List DV} (h : Wt P n e l) : ∃ x, l = [.v (.int k x)] ∧ (Lit.int k x).wf = true := by
  cases n with
  | zero => exact h.elim
  | succ n => simp only [Wt, he] at h; exact h

theorem add_zero' (a : Addr) : a.add 0 = a := by simp [Addr.add]

theorem part_len {cs : List Value} {o n : Nat} (h : o + n ≤ cs.length) : ((cs.drop o).take n).length = n := by simp; omega

theorem trod_dv (K : Kids P (fun t => t < P.types.size)) (hz : ∀ t e, t < P.types.size → P.underlying t = some (.slice e) → 0 < P.cellsOf e) : ∀ (n : Nat) (t : TypeId) (cs : List Value) (x : DataW H × List MemPlace), t < P.types.size → suppT P n t = true →
    DataW.trod enc P w 0 (fun _ => true) true n t cs = some x → ∃ l, Wt P n t l ∧ DRepL (fun b => b < w.heap.size) w l cs := by
  intro n
  induction n with
  | zero => intro t cs x _ _ h; simp [DataW.trod] at h
  | succ n ih =>
    intro t cs x ht hs h
    unfold DataW.trod at h
    simp only [suppT] at hs
    simp only [Wt]
    cases hu : P.underlying t with
    | none => rw [hu] at hs; cases hs
    | some d =>
    cases d <;> simp only [hu] at hs h ⊢ <;> (try (cases hs; done))
    case bool =>
      split at h <;> rename_i hq <;> first | (cases h; done) | (cases hq; done) | skip
      rename_i b
      exact ⟨_, ⟨b, rfl⟩, .one (by simp [DRep, cellV])⟩
    case int k =>
      split at h <;> rename_i hq <;> first | (cases h; done) | (cases hq; done) | skip
      rename_i k1 k' m
      cases hq
      split at h
      · rename_i hw
        obtain ⟨rfl, hw⟩ := hw
        exact ⟨_, ⟨m, rfl, hw⟩, .one (by simp [DRep, cellV])⟩
      · cases h
    case string =>
      split at h <;> rename_i hq <;> first | (cases h; done) | (cases hq; done) | skip
      rename_i s
      split at h
      · rename_i hw
        exact ⟨_, ⟨s, rfl, hw⟩, .one (by simp [DRep, cellV])⟩
      · cases h
    case slice e =>
      split at h <;> rename_i hq <;> first | (cases h; done) | (cases hq; done) | skip
      · split
        · rename_i k _
          exact ⟨_, ⟨[], rfl, by simp [maxLen], by simp⟩, .one ⟨none, 0, rfl, Nat.le_refl _, by simp⟩⟩
        · exact ⟨_, ⟨0, fun _ _ => .v undef, rfl, by simp [maxLen], fun i hi => absurd hi (by omega)⟩, .one ⟨none, 0, rfl, Nat.le_refl _, by simp⟩⟩
      · rename_i e' a len cap
        cases hq
        split at h
        · rename_i hb
          obtain ⟨elems, hel, h⟩ := Option.bind_eq_some_iff.1 h
          have hE := elems_of hel
          have hc := hz t e ht hu
          have hL : ∀ i, ∃ l, i < len → Wt P n e l ∧ l.length = P.cellsOf e ∧ ∀ j, j < P.cellsOf e → ∃ v, w.cell? ((a.add (i * P.cellsOf e)).add j) = some v ∧ DRep (fun b => b < w.heap.size) w (l.getD j (.v undef)) v := fun i => by
            by_cases hi : i < len
            · obtain ⟨ci, y, h1, h2, h3⟩ := hE i hi
              obtain ⟨l, h4, h5, h6⟩ := ih e ci y (K.slice ht hu) hs h1
              refine ⟨l, fun _ => ⟨h4, by rw [h5, h2], fun j hj => ?_⟩⟩
              have hjc : j < ci.length := by omega
              refine ⟨ci[j], by rw [h3 j hj]; exact List.getElem?_eq_getElem hjc, ?_⟩
              have := h6 j (by omega)
              rw [List.getD_eq_getElem?_getD (l := ci), List.getElem?_eq_getElem hjc] at this
              exact this
            · exact ⟨[], fun h => absurd h hi⟩
          obtain ⟨L, hL⟩ := Classical.axiomOfChoice hL
          have hA : 0 < len → a = ad a.block a.off ∧ a.block < w.heap.size := fun hp => by
            obtain ⟨v, h1, _⟩ := (hL 0 hp).2.2 0 hc
            rw [Nat.zero_mul, add_zero', add_zero'] at h1
            exact cell_ad h1
          have hcell : ∀ i, i < len → ∀ j, j < P.cellsOf e → ∃ v, w.cell? (ad a.block (a.off + (i * P.cellsOf e + j))) = some v ∧ DRep (fun b => b < w.heap.size) w ((L i).getD j (.v undef)) v := fun i hi j hj => by
            obtain ⟨v, h1, h2⟩ := (hL i hi).2.2 j hj
            rw [(hA (by omega)).1, ad_add, ad_add, Nat.add_assoc] at h1
            exact ⟨v, h1, h2⟩
          split
          · rename_i k he
            have hX : ∀ i, ∃ x, i < len → L i = [.v (.int k x)] ∧ (Lit.int k x).wf = true := fun i => by
              by_cases hi : i < len
              · obtain ⟨x, hx⟩ := Wt_int he (hL i hi).1
                exact ⟨x, fun _ => hx⟩
              · exact ⟨0, fun h => absurd h hi⟩
            obtain ⟨X, hX⟩ := Classical.axiomOfChoice hX
            have h1 : 0 < len → P.cellsOf e = 1 := fun hp => by rw [← (hL 0 hp).2.1, (hX 0 hp).1]; rfl
            refine ⟨_, ⟨(List.range len).map X, rfl, by simp; omega, fun x hx => ?_⟩, .one ⟨some a, cap, by simp, by simp; omega, fun hne => ?_⟩⟩
            · obtain ⟨i, hi, rfl⟩ := List.mem_map.1 hx
              exact (hX i (List.mem_range.1 hi)).2
            · have hp : 0 < len := by
                rcases Nat.eq_zero_or_pos len with h | h
                · subst h; simp at hne
                · exact h
              refine ⟨a.block, a.off, by rw [← (hA hp).1], (hA hp).2, fun i hi => ?_⟩
              have hi' : i < len := by simpa using hi
              obtain ⟨v, h2, h3⟩ := hcell i hi' 0 hc
              rw [h1 hp, Nat.mul_one, Nat.add_zero] at h2
              rw [(hX i hi').1] at h3
              simp only [List.getD_cons_zero, DRep] at h3
              rw [h2, h3.1]
              simp [List.getD_eq_getElem?_getD, hi']
          · refine ⟨_, ⟨len, fun i j => (L i).getD j (.v undef), rfl, by omega, fun i hi => ?_⟩, .one ⟨some a, cap, rfl, by omega, fun hne => ?_⟩⟩
            · have hl := (hL i hi).2.1
              have : (List.range (P.cellsOf e)).map (fun j => (L i).getD j (.v undef)) = L i := by
                apply List.ext_getElem
                · simp [hl]
                · intro j h1 h2
                  simp [List.getD_eq_getElem?_getD, h2]
              rw [this]; exact (hL i hi).1
            · have hp : 0 < len := Nat.pos_of_ne_zero hne
              exact ⟨a.block, a.off, by rw [← (hA hp).1], (hA hp).2, fun i hi j hj => hcell i hi j hj⟩
        · cases h
    case struct fs =>
      split at h
      · rename_i hlen
        obtain ⟨xs, hxs, rfl⟩ := Option.map_eq_some_iff.1 h
        obtain ⟨hk, hsum, hoff⟩ := K.struct ht hu
        have hat : ∀ (j : Nat) (f : Field), fs.toList[j]? = some f → f.offset + P.cellsOf f.type ≤ cs.length := fun j f hj => by
          have hjl := (List.getElem?_eq_some_iff.1 hj).1
          have := sum_take_le (fs.toList.map fun f => P.cellsOf f.type) j (by simpa using hjl)
          rw [hlen, hsum, hoff j f hj]
          simp only [List.getD_eq_getElem?_getD, List.getElem?_map, hj, Option.map_some, Option.getD_some, ← List.map_take] at this
          exact this
        obtain ⟨l, k1, k2, k3⟩ := glue (fz := fun b => b < w.heap.size) (w := w) (cs := cs) (fs.toList.map fun f => (f.offset, P.cellsOf f.type, Wt P n f.type)) 0 (fun j y hy => by
          rw [List.getElem?_map] at hy
          obtain ⟨f, hf, rfl⟩ := Option.map_eq_some_iff.1 hy
          simp only [← List.map_take, List.map_map]
          rw [Nat.zero_add]
          exact hoff j f hf) (fun y hy => by
          obtain ⟨f, hf, rfl⟩ := List.mem_map.1 hy
          obtain ⟨j, hj⟩ := List.getElem?_of_mem hf
          have h1 := mapM_some_get hxs j f hj
          have h2 := mapM_some_length hxs
          rw [List.getElem?_eq_getElem (by rw [h2]; exact (List.getElem?_eq_some_iff.1 hj).1)] at h1
          obtain ⟨l, h3, h4⟩ := ih f.type _ _ (hk f hf) (List.all_eq_true.1 hs f hf) h1
          exact ⟨l, h3, h4, by rw [h4.1]; exact part_len (hat j f hj)⟩)
        have hll : l.length = cs.length := by rw [k1, hlen, hsum]; simp [List.map_map, Function.comp_def]
        refine ⟨l, ⟨by rw [hll, hlen], fun f hf => ?_⟩, hll, fun j hj => by simpa using k2 j hj⟩
        have := k3 _ (List.mem_map.2 ⟨f, hf, rfl⟩)
        simpa using this
      · cases h
    case array m e =>
      split at h
      · rename_i hlen
        obtain ⟨xs, hxs, rfl⟩ := Option.map_eq_some_iff.1 h
        obtain ⟨hk, hsum⟩ := K.array ht hu
        have hat : ∀ j, j < m → j * P.cellsOf e + P.cellsOf e ≤ cs.length := fun j hj => by
          rw [hlen, hsum]
          have : (j + 1) * P.cellsOf e ≤ m * P.cellsOf e := Nat.mul_le_mul_right _ hj
          rw [Nat.add_mul, Nat.one_mul] at this; exact this
        have hsums : ∀ j, (((List.range j).map fun i => (i * P.cellsOf e, P.cellsOf e, Wt P n e)).map (·.2.1)).sum = j * P.cellsOf e := fun j => by
          induction j with
          | zero => simp
          | succ j ihj => rw [List.range_succ, List.map_append, List.map_append, List.sum_append, ihj, Nat.add_mul]; simp
        obtain ⟨l, k1, k2, k3⟩ := glue (fz := fun b => b < w.heap.size) (w := w) (cs := cs) ((List.range m).map fun i => (i * P.cellsOf e, P.cellsOf e, Wt P n e)) 0 (fun j y hy => by
          have hjm : j < m := by have := (List.getElem?_eq_some_iff.1 hy).1; simpa using this
          rw [List.getElem?_map, List.getElem?_range hjm] at hy
          simp only [Option.map_some, Option.some.injEq] at hy
          subst hy
          rw [← List.map_take, List.take_range, Nat.min_eq_left (Nat.le_of_lt hjm), hsums, Nat.zero_add]) (fun y hy => by
          obtain ⟨i, hi, rfl⟩ := List.mem_map.1 hy
          have him := List.mem_range.1 hi
          have h1 := mapM_some_get hxs i i (by simp [him])
          have h2 := mapM_some_length hxs
          rw [List.getElem?_eq_getElem (by rw [h2]; simpa using him)] at h1
          obtain ⟨l, h3, h4⟩ := ih e _ _ hk hs h1
          exact ⟨l, h3, h4, by rw [h4.1]; exact part_len (hat i him)⟩)
        have hll : l.length = cs.length := by rw [k1, hsums, hlen, hsum]
        refine ⟨l, ⟨by rw [hll, hlen], fun i hi => ?_⟩, hll, fun j hj => by simpa using k2 j hj⟩
        have := k3 _ (List.mem_map.2 ⟨i, List.mem_range.2 hi, rfl⟩)
        simpa using this
      · cases h
end
end Go.Sx
namespace Go.Sx
section
variable {H : Type} {enc : TypeId × Value → H} {P : Program} {w : World}

theorem cell_not_agg {r : Reach} {base : Nat} {t : TypeId} {cs : Array Value} (h : Cell.okWide P w r base t (.agg cs)) (hu : (∃ d, P.underlying t = some d ∧ ((d = .bool) ∨ (∃ k, d = .int k) ∨ (d = .string) ∨ (∃ e, d = .slice e)))) : False := by
  obtain ⟨d, hu, hd⟩ := hu
  rcases hd with rfl | ⟨k, rfl⟩ | rfl | ⟨e, rfl⟩ <;> simp [Cell.okWide, Cell.ok, hu] at h

/-- One argument of a served type. -/
theorem arg_rep (K : Kids P (fun t => t < P.types.size)) (hz : ∀ t e, t < P.types.size → P.underlying t = some (.slice e) → 0 < P.cellsOf e) {t : TypeId} (ht : t < P.types.size) {m : Nat} (hs : ∀ n, suppT P (n + m) t = true)
    {v : Value} {d : DataW H} {p : List MemPlace} (h : DataW.Trod enc P w 0 (fun _ => true) true t v d p) : ∃ n l, Wt P (n + m) t l ∧ DRepL (fun b => b < w.heap.size) w l v.cells.toList := by
  obtain ⟨n, h⟩ := h
  have := DataW.trod_le (Nat.le_add_right n m) h
  obtain ⟨l, h1, h2⟩ := trod_dv K hz (n + m) t _ _ ht (hs n) this
  exact ⟨n, l, h1, h2⟩
end
end Go.Sx
