/- What a law's arguments are, as symbolic data. -/
import Derived.Test.YtppkbofmgjkboaaSxLaw
import Derived.IntWalk
import Derived.Test.YtppkbofmgjkboaaRows
import Derived.KernelRfl
set_option linter.all false
set_option linter.unusedVariables false
set_option linter.unusedSimpArgs false
set_option linter.unnecessarySimpa false
namespace Go.Sx

/-- Data of a type: the integers fit, no row is too long. -/
def Wt (P : Program) : Nat → TypeId → List DV → Prop
  | 0, _, _ => False
  | n + 1, t, l => match P.underlying t with
    | some .bool => ∃ b, l = [.v (.bool b)]
    | some (.int k) => ∃ x, l = [.v (.int k x)] ∧ (Lit.int k x).wf = true
    | some .string => ∃ s : ByteArray, l = [.v (.string s)] ∧ s.size ≤ maxLen
    | some (.slice e) => match P.underlying e with
      | some (.int k) => ∃ xs : List Int, l = [.ints k xs] ∧ xs.length ≤ maxLen ∧ ∀ x ∈ xs, (Lit.int k x).wf = true
      | _ => ∃ m f, l = [.sl (P.cellsOf e) m f] ∧ m ≤ maxLen ∧ ∀ i, i < m → Wt P n e ((List.range (P.cellsOf e)).map (f i))
    | some (.struct fs) => l.length = P.cellsOf t ∧ ∀ f ∈ fs.toList, Wt P n f.type ((l.drop f.offset).take (P.cellsOf f.type))
    | some (.array m e) => l.length = P.cellsOf t ∧ ∀ i, i < m → Wt P n e ((l.drop (i * P.cellsOf e)).take (P.cellsOf e))
    | _ => False

/-- The types that are served. -/
def suppT (P : Program) : Nat → TypeId → Bool
  | 0, _ => false
  | n + 1, t => match P.underlying t with
    | some .bool | some (.int _) | some .string => true
    | some (.slice e) => suppT P n e
    | some (.struct fs) => fs.toList.all fun f => suppT P n f.type
    | some (.array _ e) => suppT P n e
    | _ => false

def DRepL (fz : Nat → Prop) (w : World) (l : List DV) (cs : List Value) : Prop := l.length = cs.length ∧ ∀ j, j < l.length → DRep fz w (l.getD j (.v undef)) (cs.getD j undef)

theorem DRepL.one {fz : Nat → Prop} {w : World} {x : DV} {v : Value} (h : DRep fz w x v) : DRepL fz w [x] [v] := ⟨rfl, fun j hj => by
  have : j = 0 := by simpa using hj
  subst this; simpa using h⟩

theorem DRepL.part {fz : Nat → Prop} {w : World} {l : List DV} {cs : List Value} (h : DRepL fz w l cs) (o n : Nat) : DRepL fz w ((l.drop o).take n) ((cs.drop o).take n) := by
  refine ⟨by simp [h.1], fun j hj => ?_⟩
  simp only [List.length_take, List.length_drop] at hj
  have := h.2 (o + j) (by omega)
  simp only [List.getD_eq_getElem?_getD, List.getElem?_take, List.getElem?_drop] at this ⊢
  rw [if_pos (by omega), if_pos (by omega)]; exact this

theorem glue {fz : Nat → Prop} {w : World} {cs : List Value} : ∀ (items : List (Nat × Nat × (List DV → Prop))) (o : Nat),
    (∀ (j : Nat) x, items[j]? = some x → x.1 = o + ((items.take j).map (·.2.1)).sum) → (∀ x ∈ items, ∃ l, x.2.2 l ∧ DRepL fz w l ((cs.drop x.1).take x.2.1) ∧ l.length = x.2.1) →
    ∃ l : List DV, l.length = (items.map (·.2.1)).sum ∧ (∀ j, j < l.length → DRep fz w (l.getD j (.v undef)) (cs.getD (o + j) undef)) ∧ ∀ x ∈ items, x.2.2 ((l.drop (x.1 - o)).take x.2.1)
  | [], o, _, _ => ⟨[], rfl, by simp, by simp⟩
  | x :: r, o, ho, hl => by
    have hx : x.1 = o := by simpa using ho 0 x rfl
    obtain ⟨l1, h1, h2, h3⟩ := hl x (by simp)
    obtain ⟨l2, k1, k2, k3⟩ := glue (cs := cs) r (o + x.2.1) (fun j y hy => by
      have := ho (j + 1) y (by simpa using hy)
      simp only [List.take_succ_cons, List.map_cons, List.sum_cons] at this
      omega) fun y hy => hl y (by simp [hy])
    refine ⟨l1 ++ l2, by simp [h3, k1], fun j hj => ?_, fun y hy => ?_⟩
    · rcases Nat.lt_or_ge j l1.length with h | h
      · have := h2.2 j h
        simp only [List.getD_eq_getElem?_getD, List.getElem?_take, List.getElem?_drop, List.getElem?_append_left h] at this ⊢
        rw [if_pos (by omega), hx] at this; exact this
      · have := k2 (j - l1.length) (by simp at hj; omega)
        simp only [List.getD_eq_getElem?_getD, List.getElem?_append_right h] at this ⊢
        rw [show o + j = o + x.2.1 + (j - l1.length) by omega]; exact this
    · rcases List.mem_cons.1 hy with rfl | hy
      · rw [hx, Nat.sub_self, List.drop_zero, ← h3, List.take_left]; exact h1
      · obtain ⟨j, hj⟩ := List.getElem?_of_mem hy
        have hyo := ho (j + 1) y (by simpa using hj)
        simp only [List.take_succ_cons, List.map_cons, List.sum_cons] at hyo
        have := k3 y hy
        rw [List.drop_append, List.drop_of_length_le (by omega), List.nil_append, show y.1 - o - l1.length = y.1 - (o + x.2.1) by omega]
        exact this

theorem cell_ad {w : World} {a : Addr} {v : Value} (h : w.cell? a = some v) : a = ad a.block a.off ∧ a.block < w.heap.size := by
  obtain ⟨b, o, m⟩ := a
  simp only [World.cell?, ad] at h ⊢
  split at h
  · rename_i c t f hb
    cases m with
    | none => exact ⟨rfl, (Array.getElem?_eq_some_iff.1 hb).1⟩
    | some _ => simp at h
  · cases h

theorem ad_add (b o n : Nat) : (ad b o).add n = ad b (o + n) := by
  unfold Addr.add ad
  split
  · rename_i h; subst h; rfl
  · rfl

theorem sum_take_le : ∀ (l : List Nat) (j : Nat), j < l.length → (l.take j).sum + l.getD j 0 ≤ l.sum
  | x :: r, 0, _ => by simp
  | x :: r, j + 1, h => by
    have := sum_take_le r j (by simpa using h)
    simp only [List.take_succ_cons, List.sum_cons, List.getD_cons_succ]; omega

section
variable {H : Type} {enc : TypeId × Value → H} {P : Program} {w : World}

/-- The cells of a slice's elements. -/
theorem elems_of {n len : Nat} {e : TypeId} {a : Addr} {elems : List (DataW H × List MemPlace)} (h : (List.range len).mapM (fun i => (w.cells? 0 (a.add (i * P.cellsOf e)) (P.cellsOf e)).bind (DataW.trod enc P w 0 (fun _ => true) true n e)) = some elems) :
    ∀ i, i < len → ∃ ci x, DataW.trod enc P w 0 (fun _ => true) true n e ci = some x ∧ ci.length = P.cellsOf e ∧ ∀ j, j < P.cellsOf e → w.cell? ((a.add (i * P.cellsOf e)).add j) = ci[j]? := by
  intro i hi
  have h1 := mapM_some_get h i i (by simp [hi])
  have hl := mapM_some_length h
  rw [List.getElem?_eq_getElem (by rw [hl]; simpa using hi)] at h1
  obtain ⟨ci, h2, h3⟩ := Option.bind_eq_some_iff.1 h1
  obtain ⟨_, h4, h5⟩ := World.cells?_some h2
  exact ⟨ci, _, h3, h4, h5⟩

theorem Wt_int {n : Nat} {e : TypeId} {k : IntKind} (he : P.underlying e = some (.int k)) {l : List DV} (h : Wt P n e l) : ∃ x, l = [.v (.int k x)] ∧ (Lit.int k x).wf = true := by
  cases n with
  | zero => exact h.elim
  | succ n => simp only [Wt, he] at h; exact h

theorem add_zero' (a : Addr) : a.add 0 = a := by simp [Addr.add]

theorem part_len {cs : List Value} {o n : Nat} (h : o + n ≤ cs.length) : ((cs.drop o).take n).length = n := by simp; omega

theorem trod_dv (K : Kids P (fun t => t < P.types.size)) (hz : ∀ t e, t < P.types.size → P.underlying t = some (.slice e) → 0 < P.cellsOf e) : ∀ (n : Nat) (t : TypeId) (cs : List Value) (x : DataW H × List MemPlace), t < P.types.size → suppT P n t = true →
    DataW.trod enc P w 0 (fun _ => true) true n t cs = some x → ∃ l, Wt P n t l ∧ DRepL (fun b => b < w.heap.size) w l cs := by
  intro n
  induction n with
  | zero => intro t cs x _ _ h; simp [DataW.trod] at h
  | succ n ih =>
    intro t cs x ht hs h
    unfold DataW.trod at h
    simp only [suppT] at hs
    simp only [Wt]
    cases hu : P.underlying t with
    | none => rw [hu] at hs; cases hs
    | some d =>
    cases d <;> simp only [hu] at hs h ⊢ <;> (try (cases hs; done))
    case bool =>
      split at h <;> rename_i hq <;> first | (cases h; done) | (cases hq; done) | skip
      rename_i b
      exact ⟨_, ⟨b, rfl⟩, .one (by simp [DRep, cellV])⟩
    case int k =>
      split at h <;> rename_i hq <;> first | (cases h; done) | (cases hq; done) | skip
      rename_i k1 k' m
      cases hq
      split at h
      · rename_i hw
        obtain ⟨rfl, hw⟩ := hw
        exact ⟨_, ⟨m, rfl, hw⟩, .one (by simp [DRep, cellV])⟩
      · cases h
    case string =>
      split at h <;> rename_i hq <;> first | (cases h; done) | (cases hq; done) | skip
      rename_i s
      split at h
      · rename_i hw
        exact ⟨_, ⟨s, rfl, hw⟩, .one (by simp [DRep, cellV])⟩
      · cases h
    case slice e =>
      split at h <;> rename_i hq <;> first | (cases h; done) | (cases hq; done) | skip
      · split
        · rename_i k _
          exact ⟨_, ⟨[], rfl, by simp [maxLen], by simp⟩, .one ⟨none, 0, rfl, Nat.le_refl _, by simp⟩⟩
        · exact ⟨_, ⟨0, fun _ _ => .v undef, rfl, by simp [maxLen], fun i hi => absurd hi (by omega)⟩, .one ⟨none, 0, rfl, Nat.le_refl _, by simp⟩⟩
      · rename_i e' a len cap
        cases hq
        split at h
        · rename_i hb
          obtain ⟨elems, hel, h⟩ := Option.bind_eq_some_iff.1 h
          have hE := elems_of hel
          have hc := hz t e ht hu
          have hL : ∀ i, ∃ l, i < len → Wt P n e l ∧ l.length = P.cellsOf e ∧ ∀ j, j < P.cellsOf e → ∃ v, w.cell? ((a.add (i * P.cellsOf e)).add j) = some v ∧ DRep (fun b => b < w.heap.size) w (l.getD j (.v undef)) v := fun i => by
            by_cases hi : i < len
            · obtain ⟨ci, y, h1, h2, h3⟩ := hE i hi
              obtain ⟨l, h4, h5, h6⟩ := ih e ci y (K.slice ht hu) hs h1
              refine ⟨l, fun _ => ⟨h4, by rw [h5, h2], fun j hj => ?_⟩⟩
              have hjc : j < ci.length := by omega
              refine ⟨ci[j], by rw [h3 j hj]; exact List.getElem?_eq_getElem hjc, ?_⟩
              have := h6 j (by omega)
              rw [List.getD_eq_getElem?_getD (l := ci), List.getElem?_eq_getElem hjc] at this
              exact this
            · exact ⟨[], fun h => absurd h hi⟩
          obtain ⟨L, hL⟩ := Classical.axiomOfChoice hL
          have hA : 0 < len → a = ad a.block a.off ∧ a.block < w.heap.size := fun hp => by
            obtain ⟨v, h1, _⟩ := (hL 0 hp).2.2 0 hc
            rw [Nat.zero_mul, add_zero', add_zero'] at h1
            exact cell_ad h1
          have hcell : ∀ i, i < len → ∀ j, j < P.cellsOf e → ∃ v, w.cell? (ad a.block (a.off + (i * P.cellsOf e + j))) = some v ∧ DRep (fun b => b < w.heap.size) w ((L i).getD j (.v undef)) v := fun i hi j hj => by
            obtain ⟨v, h1, h2⟩ := (hL i hi).2.2 j hj
            rw [(hA (by omega)).1, ad_add, ad_add, Nat.add_assoc] at h1
            exact ⟨v, h1, h2⟩
          split
          · rename_i k he
            have hX : ∀ i, ∃ x, i < len → L i = [.v (.int k x)] ∧ (Lit.int k x).wf = true := fun i => by
              by_cases hi : i < len
              · obtain ⟨x, hx⟩ := Wt_int he (hL i hi).1
                exact ⟨x, fun _ => hx⟩
              · exact ⟨0, fun h => absurd h hi⟩
            obtain ⟨X, hX⟩ := Classical.axiomOfChoice hX
            have h1 : 0 < len → P.cellsOf e = 1 := fun hp => by rw [← (hL 0 hp).2.1, (hX 0 hp).1]; rfl
            refine ⟨_, ⟨(List.range len).map X, rfl, by simp; omega, fun x hx => ?_⟩, .one ⟨some a, cap, by simp, by simp; omega, fun hne => ?_⟩⟩
            · obtain ⟨i, hi, rfl⟩ := List.mem_map.1 hx
              exact (hX i (List.mem_range.1 hi)).2
            · have hp : 0 < len := by
                rcases Nat.eq_zero_or_pos len with h | h
                · subst h; simp at hne
                · exact h
              refine ⟨a.block, a.off, by rw [← (hA hp).1], (hA hp).2, fun i hi => ?_⟩
              have hi' : i < len := by simpa using hi
              obtain ⟨v, h2, h3⟩ := hcell i hi' 0 hc
              rw [h1 hp, Nat.mul_one, Nat.add_zero] at h2
              rw [(hX i hi').1] at h3
              simp only [List.getD_cons_zero, DRep] at h3
              rw [h2, h3.1]
              simp [List.getD_eq_getElem?_getD, hi']
          · refine ⟨_, ⟨len, fun i j => (L i).getD j (.v undef), rfl, by omega, fun i hi => ?_⟩, .one ⟨some a, cap, rfl, by omega, fun hne => ?_⟩⟩
            · have hl := (hL i hi).2.1
              have : (List.range (P.cellsOf e)).map (fun j => (L i).getD j (.v undef)) = L i := by
                apply List.ext_getElem
                · simp [hl]
                · intro j h1 h2
                  simp [List.getD_eq_getElem?_getD, h2]
              rw [this]; exact (hL i hi).1
            · have hp : 0 < len := Nat.pos_of_ne_zero hne
              exact ⟨a.block, a.off, by rw [← (hA hp).1], (hA hp).2, fun i hi j hj => hcell i hi j hj⟩
        · cases h
    case struct fs =>
      split at h
      · rename_i hlen
        obtain ⟨xs, hxs, rfl⟩ := Option.map_eq_some_iff.1 h
        obtain ⟨hk, hsum, hoff⟩ := K.struct ht hu
        have hat : ∀ (j : Nat) (f : Field), fs.toList[j]? = some f → f.offset + P.cellsOf f.type ≤ cs.length := fun j f hj => by
          have hjl := (List.getElem?_eq_some_iff.1 hj).1
          have := sum_take_le (fs.toList.map fun f => P.cellsOf f.type) j (by simpa using hjl)
          rw [hlen, hsum, hoff j f hj]
          simp only [List.getD_eq_getElem?_getD, List.getElem?_map, hj, Option.map_some, Option.getD_some, ← List.map_take] at this
          exact this
        obtain ⟨l, k1, k2, k3⟩ := glue (fz := fun b => b < w.heap.size) (w := w) (cs := cs) (fs.toList.map fun f => (f.offset, P.cellsOf f.type, Wt P n f.type)) 0 (fun j y hy => by
          rw [List.getElem?_map] at hy
          obtain ⟨f, hf, rfl⟩ := Option.map_eq_some_iff.1 hy
          simp only [← List.map_take, List.map_map]
          rw [Nat.zero_add]
          exact hoff j f hf) (fun y hy => by
          obtain ⟨f, hf, rfl⟩ := List.mem_map.1 hy
          obtain ⟨j, hj⟩ := List.getElem?_of_mem hf
          have h1 := mapM_some_get hxs j f hj
          have h2 := mapM_some_length hxs
          rw [List.getElem?_eq_getElem (by rw [h2]; exact (List.getElem?_eq_some_iff.1 hj).1)] at h1
          obtain ⟨l, h3, h4⟩ := ih f.type _ _ (hk f hf) (List.all_eq_true.1 hs f hf) h1
          exact ⟨l, h3, h4, by rw [h4.1]; exact part_len (hat j f hj)⟩)
        have hll : l.length = cs.length := by rw [k1, hlen, hsum]; simp [List.map_map, Function.comp_def]
        refine ⟨l, ⟨by rw [hll, hlen], fun f hf => ?_⟩, hll, fun j hj => by simpa using k2 j hj⟩
        have := k3 _ (List.mem_map.2 ⟨f, hf, rfl⟩)
        simpa using this
      · cases h
    case array m e =>
      split at h
      · rename_i hlen
        obtain ⟨xs, hxs, rfl⟩ := Option.map_eq_some_iff.1 h
        obtain ⟨hk, hsum⟩ := K.array ht hu
        have hat : ∀ j, j < m → j * P.cellsOf e + P.cellsOf e ≤ cs.length := fun j hj => by
          rw [hlen, hsum]
          have : (j + 1) * P.cellsOf e ≤ m * P.cellsOf e := Nat.mul_le_mul_right _ hj
          rw [Nat.add_mul, Nat.one_mul] at this; exact this
        have hsums : ∀ j, (((List.range j).map fun i => (i * P.cellsOf e, P.cellsOf e, Wt P n e)).map (·.2.1)).sum = j * P.cellsOf e := fun j => by
          induction j with
          | zero => simp
          | succ j ihj => rw [List.range_succ, List.map_append, List.map_append, List.sum_append, ihj, Nat.add_mul]; simp
        obtain ⟨l, k1, k2, k3⟩ := glue (fz := fun b => b < w.heap.size) (w := w) (cs := cs) ((List.range m).map fun i => (i * P.cellsOf e, P.cellsOf e, Wt P n e)) 0 (fun j y hy => by
          have hjm : j < m := by have := (List.getElem?_eq_some_iff.1 hy).1; simpa using this
          rw [List.getElem?_map, List.getElem?_range hjm] at hy
          simp only [Option.map_some, Option.some.injEq] at hy
          subst hy
          rw [← List.map_take, List.take_range, Nat.min_eq_left (Nat.le_of_lt hjm), hsums, Nat.zero_add]) (fun y hy => by
          obtain ⟨i, hi, rfl⟩ := List.mem_map.1 hy
          have him := List.mem_range.1 hi
          have h1 := mapM_some_get hxs i i (by simp [him])
          have h2 := mapM_some_length hxs
          rw [List.getElem?_eq_getElem (by rw [h2]; simpa using him)] at h1
          obtain ⟨l, h3, h4⟩ := ih e _ _ hk hs h1
          exact ⟨l, h3, h4, by rw [h4.1]; exact part_len (hat i him)⟩)
        have hll : l.length = cs.length := by rw [k1, hsums, hlen, hsum]
        refine ⟨l, ⟨by rw [hll, hlen], fun i hi => ?_⟩, hll, fun j hj => by simpa using k2 j hj⟩
        have := k3 _ (List.mem_map.2 ⟨i, List.mem_range.2 hi, rfl⟩)
        simpa using this
      · cases h
end
end Go.Sx
namespace Go.Sx
section
variable {H : Type} {enc : TypeId × Value → H} {P : Program} {w : World}

theorem cell_not_agg {r : Reach} {base : Nat} {t : TypeId} {cs : Array Value} (h : Cell.okWide P w r base t (.agg cs)) (hu : (∃ d, P.underlying t = some d ∧ ((d = .bool) ∨ (∃ k, d = .int k) ∨ (d = .string) ∨ (∃ e, d = .slice e)))) : False := by
  obtain ⟨d, hu, hd⟩ := hu
  rcases hd with rfl | ⟨k, rfl⟩ | rfl | ⟨e, rfl⟩ <;> simp [Cell.okWide, Cell.ok, hu] at h

/-- One argument of a served type. -/
theorem arg_rep (K : Kids P (fun t => t < P.types.size)) (hz : ∀ t e, t < P.types.size → P.underlying t = some (.slice e) → 0 < P.cellsOf e) {t : TypeId} (ht : t < P.types.size) {m : Nat} (hs : ∀ n, suppT P (n + m) t = true)
    {v : Value} {d : DataW H} {p : List MemPlace} (h : DataW.Trod enc P w 0 (fun _ => true) true t v d p) : ∃ n l, Wt P (n + m) t l ∧ DRepL (fun b => b < w.heap.size) w l v.cells.toList := by
  obtain ⟨n, h⟩ := h
  have := DataW.trod_le (Nat.le_add_right n m) h
  obtain ⟨l, h1, h2⟩ := trod_dv K hz (n + m) t _ _ ht (hs n) this
  exact ⟨n, l, h1, h2⟩
end
end Go.Sx

/- Environments put together one callee at a time. -/
namespace Go.Sx

def enil {Ω : Type} : Env Ω := fun _ => none
def econs {Ω : Type} (n : Nat) (s : Spec Ω) (env : Env Ω) : Env Ω := fun g => bif Nat.beq g n then some s else env g

def SpecPar {Ω Ω' : Type} (sp : Spec Ω) (sp' : Spec Ω') : Prop := ∀ args h k out, sp args h k = some out → ∃ r m sc h', k r m sc h' = some out ∧ ∀ k', sp' args h k' = k' r m sc h'

theorem EnvOK.nil {P : Program} {Ω : Type} : EnvOK P (enil (Ω := Ω)) := fun g sp h => by cases h
theorem EnvPar.nil {Ω Ω' : Type} : EnvPar (enil (Ω := Ω)) (enil (Ω := Ω')) := fun g sp h => by cases h

theorem EnvOK.cons {P : Program} {Ω : Type} {n : Nat} {s : Spec Ω} {env : Env Ω} (h : SpecOK P n s) (he : EnvOK P env) : EnvOK P (econs n s env) := fun g sp hg => by
  unfold econs at hg
  cases hb : Nat.beq g n with
  | true =>
    rw [hb] at hg
    simp only [cond_true, Option.some.injEq] at hg
    subst hg
    rw [nbeq.1 hb]; exact h
  | false => rw [hb] at hg; exact he g sp hg

theorem EnvPar.cons {Ω Ω' : Type} {n : Nat} {s : Spec Ω} {s' : Spec Ω'} {env : Env Ω} {env' : Env Ω'} (h : SpecPar s s') (he : EnvPar env env') : EnvPar (econs n s env) (econs n s' env') := fun g sp hg => by
  unfold econs at hg ⊢
  cases hb : Nat.beq g n with
  | true =>
    rw [hb] at hg
    simp only [cond_true, Option.some.injEq] at hg
    subst hg
    exact ⟨s', rfl, h⟩
  | false => rw [hb] at hg; exact he g sp hg

/-- A spec for every result type. -/
structure Good1 (P : Program) (n : Nat) (s : {Ω : Type} → Spec Ω) : Prop where
  ok : ∀ Ω, SpecOK P n (s (Ω := Ω))
  par : ∀ Ω Ω', SpecPar (s (Ω := Ω)) (s (Ω := Ω'))

structure GoodE (P : Program) (e : {Ω : Type} → Env Ω) : Prop where
  ok : ∀ Ω, EnvOK P (e (Ω := Ω))
  par : ∀ Ω Ω', EnvPar (e (Ω := Ω)) (e (Ω := Ω'))

theorem GoodE.nil {P : Program} : GoodE P enil := ⟨fun _ => .nil, fun _ _ => .nil⟩
theorem GoodE.cons {P : Program} {n : Nat} {s : {Ω : Type} → Spec Ω} {e : {Ω : Type} → Env Ω} (h : Good1 P n s) (he : GoodE P e) : GoodE P (fun {Ω} => econs n (s (Ω := Ω)) (e (Ω := Ω))) :=
  ⟨fun Ω => (he.ok Ω).cons (h.ok Ω), fun Ω Ω' => (he.par Ω Ω').cons (h.par Ω Ω')⟩

theorem Good1.inl {P : Program} {e : {Ω : Type} → Env Ω} (he : GoodE P e) (hmix : P.follows .mixedOrders = true) {g : Nat} {fn : Func} (hf : P.funcs[g]? = some fn) (hname : (fn.name == "runtime.NumGoroutine") = false) {C : CF} (hC : coF P fn = some C) (A : Ann) (w : Bool) :
    Good1 P g (fun {Ω} => inl (e (Ω := Ω)) A C w) :=
  ⟨fun Ω => inl_ok (he.ok _) (he.par Ω _) hmix hf hname hC w, fun Ω Ω' => inl_par (he.par Ω Ω')⟩
end Go.Sx

/- Contracts by hand. -/
namespace Go.Sx
/-- A context that owns nothing: one block lent as data, the rest a frame. -/
def cxL (w : World) (d : Nat → Prop) : Cx := { n := 0, th := fun _ => 0, ln := fun _ => 0, cp := fun _ => 0, nl := fun _ => false, rs := fun _ => 0, fz := fun b => b < w.heap.size ∧ d b, fr := fun b => b < w.heap.size ∧ ¬ d b }

theorem gamL (w : World) (d : Nat → Prop) : Gam (cxL w d) [] w := by
  refine ⟨rfl, fun l => ?_, fun l hl => ?_, fun l hl => ?_, fun l m hl => ?_, fun b hb => ?_, fun b hb hf => hf.2 hb.2⟩
  · simp [hget, ORep]
  · simp [liv, hget] at hl
  · simp [liv, hget] at hl
  · simp [liv, hget] at hl
  · rcases hb with hb | hb
    · exact hb.1
    · exact hb.1

theorem cxL_all {w : World} {d : Nat → Prop} {b : Nat} (hb : b < w.heap.size) : (cxL w d).hd b := by
  by_cases h : d b
  · exact .inl ⟨hb, h⟩
  · exact .inr ⟨hb, h⟩

/-- No literal with more elements than room. -/
def capOk : SV → Bool
  | .cs _ _ _ n c => Nat.ble n c
  | _ => true

theorem slice_ad {cx : Cx} {h : SH} {w : World} (g : Gam cx h w) {x : SV} {u : Value} (hx : SRep cx w x u) {kd : IntKind} {ys : List Int} (hi : intsOf h kd x = some ys) (hc : capOk x = true)
    {bb : Option Addr} {n cc : Nat} (hu : u = .slice bb n cc) : n ≤ cc ∧ (n = 0 ∨ bb = none ∨ ∃ b o, bb = some (ad b o)) := by
  unfold intsOf at hi
  split at hi
  · rename_i k' l
    simp only [SRep, DRep] at hx
    obtain ⟨a, c, e, hcc, hl⟩ := hx
    rw [e] at hu
    simp only [Value.slice.injEq] at hu
    obtain ⟨rfl, rfl, rfl⟩ := hu
    refine ⟨hcc, ?_⟩
    by_cases h0 : l = []
    · subst h0; exact .inl rfl
    · obtain ⟨b, o, e1, _⟩ := hl h0
      exact .inr (.inr ⟨b, o, e1⟩)
  · simp only [SRep, DRep] at hx
    rw [hx.1] at hu
    simp only [Value.slice.injEq] at hu
    obtain ⟨rfl, rfl, rfl⟩ := hu
    exact ⟨Nat.le_refl _, .inl rfl⟩
  · simp only [SRep, DRep] at hx
    rw [hx.1] at hu
    simp only [Value.slice.injEq] at hu
    obtain ⟨rfl, rfl, rfl⟩ := hu
    exact ⟨Nat.zero_le _, .inl rfl⟩
  · rename_i l
    have ho := g.obj l
    simp only [SRep] at hx
    split at hi
    · rename_i t k' xs hg
      rw [hg] at ho
      obtain ⟨hln, hrs, hcp, hnl, hb⟩ := ho
      rw [hx.2] at hu
      simp only [Value.slice.injEq] at hu
      obtain ⟨e1, rfl, rfl⟩ := hu
      refine ⟨by omega, ?_⟩
      cases hq : cx.nl l with
      | true => rw [hq] at e1; exact .inr (.inl e1.symm)
      | false => rw [hq] at e1; exact .inr (.inr ⟨_, _, e1.symm⟩)
    · simp at hi
  · rename_i l o' sz m c
    simp only [SRep] at hx
    rw [hx.2] at hu
    simp only [Value.slice.injEq] at hu
    obtain ⟨rfl, rfl, rfl⟩ := hu
    simp only [capOk] at hc
    exact ⟨Nat.le_of_ble_eq_true hc, .inr (.inr ⟨_, _, rfl⟩)⟩
  · simp at hi

theorem src_ad {cx : Cx} {h : SH} {w : World} (g : Gam cx h w) {x : SV} {u : Value} (hx : SRep cx w x u) {kd : IntKind} {ys : List Int} (hi : intsOf h kd x = some ys) (hc : capOk x = true) :
    ∃ bb cc, u = .slice bb ys.length cc ∧ ys.length ≤ cc ∧ (ys ≠ [] → ∃ b o, bb = some (ad b o) ∧ b < w.heap.size ∧ ∀ i, i < ys.length → w.cell? (ad b (o + i)) = some (.int kd (ys.getD i 0))) := by
  obtain ⟨bb, cc, s⟩ := src_ints g hx hi
  obtain ⟨h1, h2⟩ := slice_ad g hx hi hc s.val
  refine ⟨bb, cc, s.val, h1, fun hn => ?_⟩
  have hl : 0 < ys.length := List.length_pos_iff.2 hn
  rcases h2 with h2 | h2 | ⟨b, o, h2⟩
  · omega
  · have := s.nil h2
    simp at this
    exact absurd this hn
  · have hcell : ∀ i, i < ys.length → w.cell? (ad b (o + i)) = some (.int kd (ys.getD i 0)) := fun i hi => by
      have := s.cell _ h2 i (.int kd (ys.getD i 0)) (by simp [List.getD_eq_getElem?_getD, List.getElem?_eq_getElem hi])
      rwa [addr_add] at this
    refine ⟨b, o, h2, ?_, hcell⟩
    have := hcell 0 hl
    simp only [World.cell?, ad] at this
    cases hb : w.heap[b]? with
    | none => rw [hb] at this; simp at this
    | some q => exact (Array.getElem?_eq_some_iff.1 hb).1

end Go.Sx

/- A callee whose arguments reach nothing: it runs on an empty heap, and what it makes is set behind the caller's. -/
namespace Go.Sx

/-- A spec that answers only as another one does. -/
theorem Good1.sub {P : Program} {n : Nat} {s s' : {Ω : Type} → Spec Ω} (h : Good1 P n s) (hs : ∀ Ω args hh k out, s' (Ω := Ω) args hh k = some out → s (Ω := Ω) args hh k = some out) (hp : ∀ Ω Ω', SpecPar (s' (Ω := Ω)) (s' (Ω := Ω'))) : Good1 P n s' :=
  ⟨fun Ω => ⟨(h.ok Ω).1, fun args hh k out ho => (h.ok Ω).2 args hh k out (hs Ω args hh k out ho)⟩, hp⟩
end Go.Sx

/- Contracts: a function of integers, aggregates of integers and slices of integers, known by what it answers. -/
namespace Go.Sx

abbrev I (x : Int) : SV := .d (.v (.int .i64 x))
abbrev U (x : Int) : SV := .d (.v (.int .u64 x))
abbrev B (x : Bool) : SV := .d (.v (.bool x))

/-- The arguments' kinds: an integer, a boolean, a struct of integers, a slice of integers. -/
inductive AT where
  | i (k : IntKind)
  | b
  | g (ks : List IntKind)
  | s (k : IntKind)

def asK : List IntKind → List SV → Option (List Int)
  | [], [] => some []
  | k :: ks, .d (.v (.int k' x)) :: r => bif kEq k k' then (match asK ks r with | some l => some (x :: l) | none => none) else none
  | _, _ => none

def encK : List IntKind → List Int → List SV
  | k :: ks, x :: r => .d (.v (.int k x)) :: encK ks r
  | _, _ => []

def lendA (h : SH) : AT → SV → Option (List Int)
  | .i k, .d (.v (.int k' x)) => bif kEq k k' then some [x] else none
  | .b, .d (.v (.bool x)) => some [bif x then 1 else 0]
  | .g ks, .agg c => asK ks c
  | .s k, x => bif capOk x then intsOf h k x else none
  | _, _ => none

def encA : AT → List Int → SV
  | .i k, l => .d (.v (.int k (l.headD 0)))
  | .b, l => .d (.v (.bool (l.headD 0 == 1)))
  | .g ks, l => .agg (encK ks l)
  | .s k, l => .d (.ints k l)

def lendAs (h : SH) : List AT → List SV → Option (List (List Int))
  | [], [] => some []
  | t :: ts, x :: r => match lendA h t x, lendAs h ts r with
    | some a, some l => some (a :: l)
    | _, _ => none
  | _, _ => none

def encAs : List AT → List (List Int) → List SV
  | t :: ts, x :: r => encA t x :: encAs ts r
  | _, _ => []

/-- A function by its answer: the result, and the heap it leaves, its locs counted from 0. -/
def conSpec (ts : List AT) (F : List (List Int) → Option (Bool × SV × SH)) {Ω : Type} : Spec Ω := fun args h k =>
  match lendAs h ts args with
  | some l => match F l with
    | some (g, r, hr) => br g (k (shft h.length r) [] [] (h ++ shftH h.length hr)) none
    | none => none
  | none => none

 mutual
/-- Says nothing of data. -/
def Flat : SV → Prop
  | .d (.v _) => True
  | .d _ => False
  | .rp _ _ _ => False
  | .md _ _ => False
  | .rc _ _ => False
  | .fn _ a b => FlatL a ∧ FlatL b
  | .agg c => FlatL c
  | .tup c => FlatL c
  | _ => True
def FlatL : List SV → Prop
  | [] => True
  | x :: r => Flat x ∧ FlatL r
end

def FlatO : SO → Prop
  | .cells _ c => FlatL c
  | .row _ _ _ f => ∀ i j, ∃ v, f i j = .v v
  | .maps _ => False
  | _ => True

def FlatH : SH → Prop
  | [] => True
  | o :: r => FlatO o ∧ FlatH r

theorem FlatH.get : ∀ {h : SH}, FlatH h → ∀ l, FlatO (hget h l)
  | [], _, l => by simp [hget, FlatO]
  | o :: r, hf, 0 => by simpa [hget] using hf.1
  | o :: r, hf, l + 1 => by simpa [hget] using FlatH.get hf.2 l

/-- Two contexts side by side; nothing new is frozen. -/
def cxK (cx cxs : Cx) : Cx := { cxJ cx cxs with fz := cx.fz }

section
variable {cx cxs : Cx} {w : World}
 mutual
theorem SRep.flat : ∀ (x : SV) (u : Value), Flat x → SRep cxs w x u → SRep (cxK cx cxs) w (shft cx.n x) u
  | .d (.v x), u, _, h => by simp only [SRep, Sx.shft, DRep] at h ⊢; exact h
  | .d (.ints _ _), u, hf, _ => by simp [Flat] at hf
  | .d (.sl _ _ _), u, hf, _ => by simp [Flat] at hf
  | .ptr l o, u, _, h => by
      simp only [SRep, Sx.shft] at h ⊢
      simp only [cxK, cxJ, at_J]; exact ⟨by omega, h.2⟩
  | .pe l i o, u, _, h => by
      simp only [SRep, Sx.shft] at h ⊢
      simp only [cxK, cxJ, at_J]; exact ⟨by omega, h.2⟩
  | .rp sz f o, u, hf, _ => by simp [Flat] at hf
  | .md _ _, u, hf, _ => by simp [Flat] at hf
  | .rc _ _, u, hf, _ => by simp [Flat] at hf
  | .own l, u, _, h => by
      simp only [SRep, Sx.shft] at h ⊢
      simp only [cxK, cxJ, at_J]; exact ⟨by omega, h.2⟩
  | .cs l o sz m c, u, _, h => by
      simp only [SRep, Sx.shft] at h ⊢
      simp only [cxK, cxJ, at_J]; exact ⟨by omega, h.2⟩
  | .mp l, u, _, h => by
      simp only [SRep, Sx.shft] at h ⊢
      simp only [cxK, cxJ, at_J]; exact ⟨by omega, h.2⟩
  | .fn g a b, u, hf, h => by
      simp only [SRep, Sx.shft, Flat] at h hf ⊢
      obtain ⟨a', b', e, ha, hb⟩ := h
      exact ⟨a', b', e, SRepL.flat a a' hf.1 ha, SRepL.flat b b' hf.2 hb⟩
  | .agg c, u, hf, h => by
      simp only [SRep, Sx.shft, Flat] at h hf ⊢
      obtain ⟨c', e, hc⟩ := h
      exact ⟨c', e, SRepL.flat c c' hf hc⟩
  | .tup c, u, hf, h => by
      simp only [SRep, Sx.shft, Flat] at h hf ⊢
      obtain ⟨c', e, hc⟩ := h
      exact ⟨c', e, SRepL.flat c c' hf hc⟩
  | .top, u, _, _ => by simp only [SRep, Sx.shft]
theorem SRepL.flat : ∀ (c : List SV) (c' : List Value), FlatL c → SRepL cxs w c c' → SRepL (cxK cx cxs) w (shftL cx.n c) c'
  | [], [], _, _ => by simp only [SRepL, Sx.shftL]
  | x :: r, v :: vs, hf, h => by
      simp only [SRepL, Sx.shftL, FlatL] at h hf ⊢
      exact ⟨SRep.flat x v hf.1 h.1, SRepL.flat r vs hf.2 h.2⟩
  | [], _ :: _, _, h => by simp [SRepL] at h
  | _ :: _, [], _, h => by simp [SRepL] at h
end

theorem ORep.flat {l : Nat} : ∀ (o : SO), FlatO o → ORep cxs w l o → ORep (cxK cx cxs) w (cx.n + l) (shftO cx.n o)
  | .dead, _, _ => trivial
  | .cells t c, hf, h => by
    obtain ⟨t', c', h1, h2⟩ := h
    exact ⟨t', c', by simp only [cxK, cxJ, at_J]; exact h1, SRepL.flat c c' hf h2⟩
  | .rowi t k xs, _, h => by
    simp only [ORep, shftO] at h ⊢
    simp only [cxK, cxJ, at_J]; exact h
  | .row t sz n f, hf, h => by
    simp only [ORep, shftO] at h ⊢
    simp only [cxK, cxJ, at_J]
    refine ⟨h.1, h.2.1, h.2.2.1, h.2.2.2.1, fun hn => ?_⟩
    obtain ⟨t', c', h1, h2, h3⟩ := h.2.2.2.2 hn
    refine ⟨t', c', h1, h2, fun i hi j hj => ?_⟩
    obtain ⟨x, hx, hr⟩ := h3 i hi j hj
    obtain ⟨v, hv⟩ := hf i j
    rw [hv] at hr ⊢
    exact ⟨x, hx, by simpa [DRep] using hr⟩
  | .mapi k es, _, h => by simp only [ORep, shftO] at h ⊢; simp only [cxK, cxJ, at_J]; exact h
  | .mapb es, _, h => by simp only [ORep, shftO] at h ⊢; simp only [cxK, cxJ, at_J]; exact h
  | .maps es, hf, _ => hf.elim
end

theorem join_flat {cx : Cx} {h h' : SH} {w w' : World} {d : Nat → Prop} (hg : Gam cx h w) {p : Nat → Bool} {cxs : Cx} (gr : Grow p (cxL w d) w cxs w') (hG : Gam cxs h' w') (hfl : FlatH h') :
    Gam (cxK cx cxs) (h ++ shftH h.length h') w' ∧ Grow0 cx w (cxK cx cxs) w' := by
  have hsame : ∀ b, b < w.heap.size → w'.heap[b]? = w.heap[b]? := fun b hb => gr.same b (cxL_all hb)
  have hn := hg.n
  have hns := hG.n
  have gr' : Grow0 cx w (cxK cx cxs) w' := ⟨fun b hb => hb, fun b hb => hsame b (hg.fzlt b hb), gr.size, fun l hl _ => by
    refine ⟨by simp only [cxK, cxJ]; omega, ?_, ?_, ?_, ?_, ?_⟩ <;> simp [cxK, cxJ, hl], rfl, gr.io⟩
  have hget' : ∀ l, hget (h ++ shftH h.length h') l = if l < cx.n then hget h l else shftO cx.n (hget h' (l - cx.n)) := fun l => by
    rw [hget_app, shftH_get, ← hn]
  have lo : ∀ l, l < cx.n → liv (cxK cx cxs) (h ++ shftH h.length h') l → liv cx h l := fun l hl hv => by
    unfold liv at hv ⊢
    rw [hget', if_pos hl] at hv
    simpa [cxK, cxJ, hl] using hv
  have hi : ∀ l, ¬ l < cx.n → liv (cxK cx cxs) (h ++ shftH h.length h') l → liv cxs h' (l - cx.n) := fun l hl hv => by
    unfold liv at hv ⊢
    rw [hget', if_neg hl] at hv
    cases e : hget h' (l - cx.n) with
    | dead => rw [e] at hv; exact hv
    | rowi t k xs => rw [e] at hv; simpa [cxK, cxJ, hl, shftO] using hv
    | row t sz n f => rw [e] at hv; simpa [cxK, cxJ, hl, shftO] using hv
    | _ => trivial
  have new : ∀ l, liv cxs h' l → w.heap.size ≤ cxs.th l := fun l hl => by
    rcases Nat.lt_or_ge (cxs.th l) w.heap.size with h1 | h1
    · exact absurd (gr.hd _ (cxL_all h1)) (hG.own l hl)
    · exact h1
  refine ⟨⟨by simp [cxK, cxJ, shftH_length, hn, hns], fun l => ?_, fun l hl => ?_, fun l hl hhd => ?_, fun l m hl hm e => ?_, fun b hb => Nat.lt_of_lt_of_le (hg.fzlt b hb) gr.size, fun b hb hf => hg.dj b hb hf⟩, gr'⟩
  · rw [hget']
    split
    · rename_i hl
      exact ORep.keep (h := h) gr' hl _ rfl (fun hv => hsame _ (hg.lt l hv)) (hg.obj l)
    · rename_i hl
      have := ORep.flat (cx := cx) (l := l - cx.n) _ (hfl.get _) (hG.obj (l - cx.n))
      rwa [show cx.n + (l - cx.n) = l by omega] at this
  · by_cases h1 : l < cx.n
    · have := hg.lt l (lo l h1 hl)
      simp only [cxK, cxJ, h1, if_true]; exact Nat.lt_of_lt_of_le this gr.size
    · simp only [cxK, cxJ, h1, if_false]; exact hG.lt _ (hi l h1 hl)
  · by_cases h1 : l < cx.n
    · have h2 := lo l h1 hl
      simp only [cxK, cxJ, Cx.hd, h1, if_true] at hhd
      exact hg.own l h2 hhd
    · have h2 := hi l h1 hl
      have hge := new _ h2
      simp only [cxK, cxJ, Cx.hd, h1, if_false] at hhd
      have := hg.fzlt _ hhd
      omega
  · by_cases h1 : l < cx.n <;> by_cases h2 : m < cx.n
    · simp only [cxK, cxJ, h1, h2, if_true] at e
      exact hg.inj l m (lo l h1 hl) (lo m h2 hm) e
    · simp only [cxK, cxJ, h1, h2, if_true, if_false] at e
      have a := hg.lt l (lo l h1 hl)
      have b := new _ (hi m h2 hm)
      omega
    · simp only [cxK, cxJ, h1, h2, if_true, if_false] at e
      have a := hg.lt m (lo m h2 hm)
      have b := new _ (hi l h1 hl)
      omega
    · simp only [cxK, cxJ, h1, h2, if_false] at e
      have := hG.inj _ _ (hi l h1 hl) (hi m h2 hm) e
      omega

/-! ### what is lent -/
theorem asK_enc {cx cx' : Cx} {w : World} : ∀ {ks : List IntKind} {c : List SV} {l : List Int} {vs : List Value}, asK ks c = some l → SRepL cx w c vs → SRepL cx' w (encK ks l) vs
  | [], [], l, vs, h, hr => by
    simp only [asK, Option.some.injEq] at h; subst h
    match vs, hr with
    | [], _ => simp [encK, SRepL]
    | _ :: _, hr => simp [SRepL] at hr
  | k :: ks, .d (.v (.int k' x)) :: r, l, vs, h, hr => by
    simp only [asK] at h
    have hA := cond_some h
    clear h
    have hk := kEq_eq hA.1
    have h := hA.2
    clear hA
    subst hk
    split at h
    · rename_i l' hl
      simp only [Option.some.injEq] at h; subst h
      match vs, hr with
      | v :: vs, hr =>
        simp only [SRepL, SRep, encK] at hr ⊢
        exact ⟨hr.1, asK_enc hl hr.2⟩
      | [], hr => simp [SRepL] at hr
    · simp at h
  | [], _ :: _, l, vs, h, _ => by simp [asK] at h
  | _ :: _, [], l, vs, h, _ => by simp [asK] at h
  | k :: ks, .d (.v (.bool _)) :: r, l, vs, h, _ | k :: ks, .d (.v (.string _)) :: r, l, vs, h, _ | k :: ks, .d (.v (.pointer _)) :: r, l, vs, h, _ | k :: ks, .d (.v (.slice _ _ _)) :: r, l, vs, h, _
  | k :: ks, .d (.v (.agg _)) :: r, l, vs, h, _ | k :: ks, .d (.v (.tuple _)) :: r, l, vs, h, _ | k :: ks, .d (.v (.map _)) :: r, l, vs, h, _ | k :: ks, .d (.v (.func _ _ _)) :: r, l, vs, h, _ | k :: ks, .d (.v .nilFunc) :: r, l, vs, h, _ => by simp [asK] at h
  | k :: ks, .d (.ints _ _) :: r, l, vs, h, _ | k :: ks, .d (.sl _ _ _) :: r, l, vs, h, _ | k :: ks, .ptr _ _ :: r, l, vs, h, _ | k :: ks, .pe _ _ _ :: r, l, vs, h, _ | k :: ks, .rp _ _ _ :: r, l, vs, h, _ | k :: ks, .own _ :: r, l, vs, h, _
  | k :: ks, .cs _ _ _ _ _ :: r, l, vs, h, _ | k :: ks, .mp _ :: r, l, vs, h, _ | k :: ks, .md _ _ :: r, l, vs, h, _ | k :: ks, .rc _ _ :: r, l, vs, h, _ | k :: ks, .fn _ _ _ :: r, l, vs, h, _ | k :: ks, .agg _ :: r, l, vs, h, _ | k :: ks, .tup _ :: r, l, vs, h, _ | k :: ks, .top :: r, l, vs, h, _ => by simp [asK] at h

abbrev cxA (w : World) : Cx := cxL w (fun _ => True)

theorem lendA_ok {cx : Cx} {h : SH} {w : World} (hg : Gam cx h w) {t : AT} {x : SV} {xs : List Int} {u : Value} (hl : lendA h t x = some xs) (hx : SRep cx w x u) : SRep (cxA w) w (encA t xs) u := by
  unfold lendA at hl
  split at hl
  · rename_i k k' x'
    have hA := cond_some hl
    clear hl
    have hk := kEq_eq hA.1
    have hl := hA.2
    clear hA
    subst hk
    simp only [Option.some.injEq] at hl; subst hl
    simp only [SRep, encA, List.headD_cons] at hx ⊢
    exact hx
  · rename_i x'
    simp only [Option.some.injEq] at hl; subst hl
    simp only [SRep, encA, List.headD_cons] at hx ⊢
    have : ((bif x' then (1 : Int) else 0) == 1) = x' := by cases x' <;> rfl
    rw [this]; exact hx
  · rename_i ks c
    simp only [SRep, encA] at hx ⊢
    obtain ⟨c', e, hc⟩ := hx
    exact ⟨c', e, asK_enc hl hc⟩
  · rename_i k
    have hA := cond_some hl
    clear hl
    obtain ⟨bb, cc, e, hle, hc⟩ := src_ad hg hx hA.2 hA.1
    simp only [SRep, encA, DRep]
    refine ⟨bb, cc, e, hle, fun hn => ?_⟩
    obtain ⟨b, o, e1, h1, h2⟩ := hc hn
    exact ⟨b, o, e1, ⟨h1, trivial⟩, h2⟩
  · cases hl

theorem lendAs_ok {cx : Cx} {h : SH} {w : World} (hg : Gam cx h w) : ∀ {ts : List AT} {args : List SV} {l : List (List Int)} {vs : List Value}, lendAs h ts args = some l → SRepL cx w args vs → SRepL (cxA w) w (encAs ts l) vs
  | [], [], l, vs, hl, hr => by
    simp only [lendAs, Option.some.injEq] at hl; subst hl
    match vs, hr with
    | [], _ => simp [encAs, SRepL]
    | _ :: _, hr => simp [SRepL] at hr
  | t :: ts, x :: r, l, vs, hl, hr => by
    simp only [lendAs] at hl
    split at hl
    · rename_i a l' h1 h2
      simp only [Option.some.injEq] at hl; subst hl
      match vs, hr with
      | v :: vs, hr =>
        simp only [SRepL, encAs] at hr ⊢
        exact ⟨lendA_ok hg h1 hr.1, lendAs_ok hg h2 hr.2⟩
      | [], hr => simp [SRepL] at hr
    · cases hl
  | [], _ :: _, l, vs, hl, _ => by simp [lendAs] at hl
  | _ :: _, [], l, vs, hl, _ => by simp [lendAs] at hl

theorem con_par {ts : List AT} {F : List (List Int) → Option (Bool × SV × SH)} {Ω Ω' : Type} : SpecPar (conSpec ts F (Ω := Ω)) (conSpec ts F (Ω := Ω')) := by
  intro args h k out hs
  unfold conSpec at hs ⊢
  split at hs
  · rename_i l hl
    split at hs
    · rename_i g r hr hF
      cases g with
      | true => exact ⟨_, _, _, _, hs, fun k' => rfl⟩
      | false => simp [br] at hs
    · cases hs
  · cases hs

/-- The lengths that the arguments have. -/
def lenA : AT → Nat → Prop
  | .i _, n => n = 1
  | .b, n => n = 1
  | .g ks, n => n = ks.length
  | .s _, _ => True

theorem asK_len : ∀ {ks : List IntKind} {c : List SV} {l : List Int}, asK ks c = some l → l.length = ks.length
  | [], c, l, h => by
    cases c with
    | nil => simp only [asK, Option.some.injEq] at h; subst h; rfl
    | cons _ _ => simp [asK] at h
  | k :: ks, c, l, h => by
    unfold asK at h
    split at h
    · rename_i e1; cases e1
    · rename_i k1 ks1 k' x r e1
      cases e1
      have hA := cond_some h
      clear h
      have h := hA.2
      clear hA
      split at h
      · rename_i l' hl
        simp only [Option.some.injEq] at h; subst h
        simp [asK_len hl]
      · cases h
    · cases h

theorem lendA_len {h : SH} {t : AT} {x : SV} {xs : List Int} (hl : lendA h t x = some xs) : lenA t xs.length := by
  unfold lendA at hl
  split at hl
  · have hA := cond_some hl
    clear hl
    have hl := hA.2
    simp only [Option.some.injEq] at hl; subst hl
    simp [lenA]
  · simp only [Option.some.injEq] at hl; subst hl
    simp [lenA]
  · simp only [lenA]; exact asK_len hl
  · trivial
  · cases hl

def lenAs : List AT → List (List Int) → Prop
  | [], l => l = []
  | t :: ts, l => ∃ a r, l = a :: r ∧ lenA t a.length ∧ lenAs ts r

theorem lendAs_len {h : SH} : ∀ {ts : List AT} {args : List SV} {l : List (List Int)}, lendAs h ts args = some l → lenAs ts l
  | [], [], l, hl => by simp only [lendAs, Option.some.injEq] at hl; subst hl; rfl
  | t :: ts, x :: r, l, hl => by
    simp only [lendAs] at hl
    split at hl
    · rename_i a l' h1 h2
      simp only [Option.some.injEq] at hl; subst hl
      exact ⟨_, _, rfl, lendA_len h1, lendAs_len h2⟩
    · cases hl
  | [], _ :: _, l, hl => by simp [lendAs] at hl
  | _ :: _, [], l, hl => by simp [lendAs] at hl

/-- A contract is met: the run on what is lent answers so, whatever follows. -/
theorem conGood {P : Program} {g : Nat} {fn : Func} (hf : P.funcs[g]? = some fn) (hname : (fn.name == "runtime.NumGoroutine") = false) {C : CF} (hC : coF P fn = some C) {A : Ann} {e : {Ω : Type} → Env Ω} (he : GoodE P e) (hmix : P.follows .mixedOrders = true)
    {ts : List AT} {F : List (List Int) → Option (Bool × SV × SH)}
    (hrun : ∀ l r hr, lenAs ts l → F l = some (true, r, hr) → Flat r ∧ FlatH hr ∧ ∃ H, trim 0 r [] H = hr ∧ sxFn (e (Ω := SV × SH)) A C (encAs ts l) [] (fun r h => some (r, h)) = some (r, H)) :
    Good1 P g (fun {Ω} => conSpec ts F (Ω := Ω)) := by
  have hbody : ∃ c, fn.body = some c := by
    unfold coF at hC
    split at hC
    · rename_i c hb; exact ⟨c, hb⟩
    · cases hC
  obtain ⟨c, hb⟩ := hbody
  have henter : ∀ (args : Array Value) (w : World), (callFunc g args).run P w = .ok (.enter g args) w := fun args w => by
    have h1 : fn.name ≠ "runtime.NumGoroutine" := by simpa using hname
    simp [callFunc, hf, h1, hb]
  refine ⟨fun Ω => ⟨henter, fun args h kk out hs => ?_⟩, fun Ω Ω' => con_par⟩
  unfold conSpec at hs
  split at hs
  · rename_i l hl
    split at hs
    · rename_i g r hr hF
      cases g with
      | false => simp [br] at hs
      | true =>
      simp only [br, cond_true] at hs
      obtain ⟨f1, f2, H, htr, hrun⟩ := hrun l r hr (lendAs_len hl) hF
      refine ⟨_, [], [], _, hs, ⟨by simp, fun l hl _ => by rw [hget_app, if_pos hl]⟩, fun cx w vals hg ha => ?_⟩
      refine (fn_calls (he.ok _) hmix hf hC hrun (cxA w) w vals (gamL w _) (lendAs_ok hg hl ha)).mono fun e w' ⟨v, cxq, e1, grq, hrq, hGq⟩ => ?_
      obtain ⟨cxs, hG, hr', hgrow⟩ := trim_sound (n0 := 0) (m := []) hGq hrq
      rw [htr] at hG
      have gr := hgrow (Nat.le_refl _) grq
      obtain ⟨k1, k2⟩ := join_flat hg gr hG f2
      have nm : (fun l => nmem l []) = fun _ => false := funext fun l => by simp [nmem]
      rw [nm]
      exact ⟨v, _, e1, k2, by rw [← hg.n]; exact SRep.flat _ _ f1 hr', k1⟩
    · cases hs
  · cases hs

 mutual
theorem noloc_locs : ∀ x : SV, ment (fun _ => true) x = false → locsD x = []
  | .d _, _ | .rp _ _ _, _ | .top, _ => by simp [locsD]
  | .ptr _ _, h | .pe _ _ _, h | .own _, h | .cs _ _ _ _ _, h | .mp _, h => by simp [ment] at h
  | .fn _ a b, h => by
    simp only [ment, Bool.or_eq_false_iff] at h
    simp [locsD, noloc_locsL a h.1, noloc_locsL b h.2]
  | .agg c, h => by simp only [ment] at h; simp [locsD, noloc_locsL c h]
  | .tup c, h => by simp only [ment] at h; simp [locsD, noloc_locsL c h]
  | .md _ c, h => by simp only [ment] at h; simp [locsD, noloc_locsL c h]
  | .rc c _, h => by simp only [ment] at h; simp [locsD, noloc_locsL c h]
theorem noloc_locsL : ∀ c : List SV, mentL (fun _ => true) c = false → locsDL c = []
  | [], _ => rfl
  | x :: r, h => by
    simp only [mentL, Bool.or_eq_false_iff] at h
    simp [locsDL, noloc_locs x h.1, noloc_locsL r h.2]
end

/-- A result that holds no loc: nothing is left. -/
theorem trim_none {r : SV} (hr : ment (fun _ => true) r = false) (H : SH) : trim 0 r [] H = [] := by
  unfold trim
  dsimp only
  have h1 : clos H 100000 (locsD r ++ []) [] = [] := by rw [noloc_locs r hr]; simp [clos]
  rw [h1]
  have h2 : ment (Nat.ble (max 0 (topOf []))) r = false := ment_sub (fun _ _ => rfl) r hr
  rw [h2]
  simp [topOf, mentH]
end Go.Sx

/- Loops that count; numbers. -/
namespace Go.Sx

/-- Loops run by iter. -/
def itB {Ω : Type} : Itr Ω := fun lv n0 f s k => iter lv n0 f big s k

theorem itB_def {Ω : Type} {lv : List Nat} {n0 : Nat} {f : SS → (SE → SS → Option Ω) → Option Ω} {s : SS} {k : SE → SS → Option Ω} : itB lv n0 f s k = iter lv n0 f big s k := rfl

theorem sxI_eq {Ω : Type} (env : Env Ω) (A : Ann) : ∀ c : CC, sxI itB env A c = sx env A c
  | .skip => rfl
  | .reg _ _ => rfl
  | .seq a b => by
    funext c s k
    simp only [sxI, sx, sxI_eq env A a, sxI_eq env A b]
  | .cond n a b => by
    funext c s k
    simp only [sxI, sx, sxI_eq env A a, sxI_eq env A b]
  | .block id a => by
    funext c s k
    simp only [sxI, sx, sxI_eq env A a]
  | .loop a => by
    funext c s k
    simp only [sxI, sx, sxI_eq env A a, itB]
  | .exit _ => rfl
  | .ret => rfl
  | .bad => rfl

theorem sxFnI_eq {Ω : Type} (env : Env Ω) (A : Ann) (f : CF) (args : List SV) (h : SH) (k : SV → SH → Option Ω) : sxFnI itB env A f args h k = sxFn env A f args h k := by
  unfold sxFnI sxFn
  rw [sxI_eq]
  have : kfn f k = fun e s => match e with
      | .exit _ => none
      | _ => match rets s f.res with
        | some l => k (tup1 l) s.h
        | none => none := by
    funext e s
    cases e <;> rfl
  rw [this]
  rfl

theorem iter_succ {Ω : Type} {lv : List Nat} {n0 : Nat} {f : SS → (SE → SS → Option Ω) → Option Ω} {n : Nat} {s : SS} {k : SE → SS → Option Ω} : iter lv n0 f (n + 1) s k = f s (kitV lv n0 (fun s => iter lv n0 f n s k) k) := by
  rfl

/-- A row that grows: ds i is what round i appends (w elements of sz cells). -/
def acc (sz : Nat) (q : Nat → Nat → DV) (m0 w : Nat) (ds : Nat → List DV) : Nat → Nat → Nat → DV
  | 0 => q
  | i + 1 => catF (m0 + w * i) (acc sz q m0 w ds i) (fun a j => lkD (ds i) (a * sz + j))

/-- A run's answer, the heap left aside. -/
theorem run_of_val {P : Program} {e : {Ω : Type} → Env Ω} (he : GoodE P e) {A : Ann} {C : CF} {args : List SV} {h : SH} {r : SV} (hr : sxFn (e (Ω := SV)) A C args h (fun r _ => some r) = some r) :
    ∃ H, sxFn (e (Ω := SV × SH)) A C args h (fun r h => some (r, h)) = some (r, H) := by
  obtain ⟨r', h', h1, h2⟩ := sxFn_par (he.par SV (SV × SH)) hr
  simp only [Option.some.injEq] at h1
  subst h1
  exact ⟨h', h2 _⟩

/-- A function without arguments that answers true. -/
def FTrue : List (List Int) → Option (Bool × SV × SH)
  | [] => some (true, B true, [])
  | _ => none

theorem trueGood {P : Program} {g : Nat} {fn : Func} (hf : P.funcs[g]? = some fn) (hname : (fn.name == "runtime.NumGoroutine") = false) {C : CF} (hC : coF P fn = some C) {A : Ann} {e : {Ω : Type} → Env Ω} (he : GoodE P e) (hmix : P.follows .mixedOrders = true)
    (hr : sxFn (e (Ω := SV)) A C [] [] (fun r _ => some r) = some (B true)) : Good1 P g (fun {Ω} => conSpec [] FTrue (Ω := Ω)) :=
  conGood hf hname hC he hmix fun l r hr' hl hF => by
    simp only [lenAs] at hl
    subst hl
    simp only [FTrue, Option.some.injEq, Prod.mk.injEq, true_and] at hF
    obtain ⟨rfl, rfl⟩ := hF
    obtain ⟨H, hH⟩ := run_of_val he hr
    exact ⟨trivial, trivial, H, trim_none rfl _, hH⟩
end Go.Sx

namespace Go.Sx.Pr
open Go Go.Sx Go.Proofs
set_option maxRecDepth 100000
theorem mix : Try.prog.follows .mixedOrders = true := by kernel_rfl
end Go.Sx.Pr

/- Contracts of the functions with loops: both checks of a configuration, the layout's list, equality of lists, clone. -/
namespace Go.Sx.Pr
open Go Go.Sx Go.Proofs
set_option maxRecDepth 100000

/-! ### plan.Check -/
section
variable {Ω : Type} (it : Itr Ω) (IT : SS → Option Ω) (K : SV → SH → Option Ω) (x a b c d e f g l : Int)
end

def w7 (l x : Int) : Int := bif decide (l < 1) then 1 else bif decide (l > 1048576) then 2 else x
def w6 (g l x : Int) : Int := bif decide (g < 1) then 1 else w7 l (bif decide (g > 8) then 2 else x)
def w5 (f g l x : Int) : Int := bif decide (f < 0) then 1 else w6 g l (bif decide (f > 4) then 2 else x)
def w4 (e f g l x : Int) : Int := bif decide (e < 1) then 1 else w5 f g l (bif decide (e > 32) then 2 else x)
def w3 (d e f g l x : Int) : Int := bif decide (d < 1) then 1 else w4 e f g l (bif decide (d > 4) then 2 else x)
def w2 (c d e f g l x : Int) : Int := bif decide (c < 1) then 1 else w3 d e f g l (bif decide (c > 16) then 2 else x)
def w1 (b c d e f g l x : Int) : Int := bif decide (b < 1) then 1 else w2 c d e f g l (bif decide (b > 8) then 2 else x)
def w0 (a b c d e f g l x : Int) : Int := bif decide (a < 1) then 1 else w1 b c d e f g l (bif decide (a > 8) then 2 else x)

end Go.Sx.Pr

/- A law's arguments as symbolic values. -/
namespace Go.Sx

theorem u64_wf {x : Int} (h : (Lit.int .u64 x).wf = true) : 0 ≤ x ∧ x ≤ 18446744073709551615 := by
  simp only [Lit.wf, Bool.and_eq_true, IntKind.min, IntKind.max, IntKind.signed, IntKind.bits] at h
  simpa using h

theorem cell_rep {fz : Nat → Prop} {w : World} {x : DV} {v : Value} (h : DRepL fz w [x] v.cells.toList) (hn : ∀ c, v ≠ .agg c) : DRep fz w x v := by
  have e : v.cells = #[v] := by
    cases v with
    | agg c => exact absurd rfl (hn c)
    | _ => rfl
  rw [e] at h
  simpa using h.2 0 (by simp)

end Go.Sx

/- Arguments of laws: a configuration, a list of words. -/
namespace Go.Sx.Pr
open Go Go.Sx Go.Proofs Go.ChangeShapes Go.WideShapes Go.ChangeAt Go.RowKit
set_option maxRecDepth 100000

theorem laid : laidOutB Try.prog = true := by kernel_rfl
theorem rowed : mapsRowed Try.prog = true := by kernel_rfl
theorem slicesFull : ∀ t e, t < Try.prog.types.size → Try.prog.underlying t = some (.slice e) → 0 < Try.prog.cellsOf e := slices_full_of Try.prog (by kernel_rfl)
theorem typesN : Nat.blt 100 Try.prog.types.size = true := by kernel_rfl
theorem tlt {t : Nat} (h : t ≤ 100) : t < Try.prog.types.size := by
  have := Nat.le_of_ble_eq_true typesN
  omega
/-- Words, as a test. -/
def u64B (ws : List Int) : Bool := ws.all fun v => decide (0 ≤ v) && decide (v ≤ 18446744073709551615)

section
variable {H : Type} {enc : TypeId × Value → H} {w : World}

theorem words_arg {v : Value} {d : DataW H} {p : List MemPlace} {r : Reach} {base : Nat} (hv : Value.okWide Try.prog w r base 31 v) (h : DataW.Trod enc Try.prog w 0 (fun _ => true) true 31 v d p) :
    ∃ ws, u64B ws = true ∧ SRep (cx0 w) w (.d (.ints .u64 ws)) v := by
  obtain ⟨n, L, hW, hR⟩ := arg_rep (kids_rows laid rowed) slicesFull (t := 31) (tlt (by omega)) (m := 2) (fun n => by simp only [suppT, Try.underlying31, Try.underlying27]) h
  rw [show n + 2 = (n + 1) + 1 from rfl] at hW
  simp only [Wt, Try.underlying31, Try.underlying27] at hW
  obtain ⟨ws, rfl, _, hws⟩ := hW
  refine ⟨ws, List.all_eq_true.2 fun x hx => by have := u64_wf (hws x hx); simpa using this, ?_⟩
  simp only [SRep]
  exact cell_rep hR fun c e => by
    subst e
    simp only [Value.okWide, Try.underlying31] at hv
    exact cell_not_agg hv ⟨_, Try.underlying31, .inr (.inr (.inr ⟨_, rfl⟩))⟩
end
end Go.Sx.Pr

/- Arguments whose cells are integers, booleans and slices of integers: structs and arrays of such. -/
namespace Go.Sx

/-- What a cell holds. -/
inductive CT where
  | i (k : IntKind)
  | b
  | s (k : IntKind)

def tyC : DV → CT → Prop
  | x, .i k => ∃ n, x = .v (.int k n) ∧ (Lit.int k n).wf = true
  | x, .b => ∃ n, x = .v (.bool n)
  | x, .s k => ∃ xs : List Int, x = .ints k xs ∧ ∀ n ∈ xs, (Lit.int k n).wf = true

def Typ : List DV → List CT → Prop
  | [], [] => True
  | x :: r, c :: cs => tyC x c ∧ Typ r cs
  | _, _ => False

theorem Typ.append : ∀ {l l' : List DV} {a b : List CT}, Typ l a → Typ l' b → Typ (l ++ l') (a ++ b)
  | [], _, [], _, _, h => h
  | _ :: _, _, _ :: _, _, h, h' => ⟨h.1, Typ.append h.2 h'⟩
  | [], _, _ :: _, _, h, _ => h.elim
  | _ :: _, _, [], _, h, _ => h.elim

theorem Typ.split {l : List DV} {n : Nat} {a b : List CT} (h : Typ (l.take n) a) (h' : Typ (l.drop n) b) : Typ l (a ++ b) := by
  have := Typ.append h h'
  rwa [List.take_append_drop] at this

end Go.Sx

/- Contracts with several outcomes; rows of which only what lies within counts. -/
namespace Go.Sx

/-- The same, but for what lies outside of a row. -/
def RowEqO (o o' : SO) : Prop := o = o' ∨ ∃ t sz n f f', o = .row t sz n f ∧ o' = .row t sz n f' ∧ ∀ i, i < n → ∀ j, j < sz → f i j = f' i j
def RowEq : SH → SH → Prop
  | [], [] => True
  | o :: r, o' :: r' => RowEqO o o' ∧ RowEq r r'
  | _, _ => False

theorem RowEq.refl : ∀ h : SH, RowEq h h
  | [] => trivial
  | _ :: r => ⟨.inl rfl, RowEq.refl r⟩
theorem RowEq.length : ∀ {h h' : SH}, RowEq h h' → h.length = h'.length
  | [], [], _ => rfl
  | _ :: r, _ :: r', e => by simp [RowEq.length e.2]
  | [], _ :: _, e => e.elim
  | _ :: _, [], e => e.elim
theorem RowEq.get : ∀ {h h' : SH}, RowEq h h' → ∀ l, RowEqO (hget h l) (hget h' l)
  | [], [], _, l => .inl rfl
  | _ :: r, _ :: r', e, 0 => by simpa [hget] using e.1
  | _ :: r, _ :: r', e, l + 1 => by simpa [hget] using RowEq.get e.2 l
  | [], _ :: _, e, _ => e.elim
  | _ :: _, [], e, _ => e.elim

end Go.Sx

/- Contracts with memory: a function that is given locs, known by what it answers and by what it leaves in them. -/
namespace Go.Sx

/-! ### locs under other names -/
/-! ### data cells: nil lists as empty lists -/
/-! ### what they say -/
/-- Two contexts where locs mean the same under other names. -/
structure Rn (f : Nat → Nat) (cx cx' : Cx) : Prop where
  fz : ∀ b, cx.fz b → cx'.fz b
  loc : ∀ i, i < cx.n → f i < cx'.n ∧ cx'.th (f i) = cx.th i ∧ cx'.ln (f i) = cx.ln i ∧ cx'.cp (f i) = cx.cp i ∧ cx'.nl (f i) = cx.nl i ∧ cx'.rs (f i) = cx.rs i

section
variable {f : Nat → Nat} {cx cx' : Cx} {w : World}
end

section
variable {cx : Cx} {h : SH} {w : World} {ls : List Nat}

end

/-! ### results that say less -/
 mutual
/-- What x says, y says too, or less. -/
def LeV : SV → SV → Prop
  | .agg c, .agg c' => LeVL c c'
  | .tup c, .tup c' => LeVL c c'
  | .d (.v (.slice none 0 0)), .d (.ints _ []) => True
  | x, y => x = y
def LeVL : List SV → List SV → Prop
  | [], [] => True
  | x :: r, y :: s => LeV x y ∧ LeVL r s
  | _, _ => False
end

 mutual
theorem LeV.refl : ∀ x : SV, LeV x x
  | .agg c => by simp only [LeV]; exact LeVL.refl c
  | .tup c => by simp only [LeV]; exact LeVL.refl c
  | .d x => by
    unfold LeV
    split
    · rename_i e; cases e
    · rename_i e; cases e
    · trivial
    · rfl
  | .ptr l o => by simp only [LeV]
  | .pe l i o => by simp only [LeV]
  | .rp sz g o => by simp only [LeV]
  | .own l => by simp only [LeV]
  | .cs l o sz n c => by simp only [LeV]
  | .mp l => by simp only [LeV]
  | .md ks c => by simp only [LeV]
  | .rc c o => by simp only [LeV]
  | .fn g a b => by simp only [LeV]
  | .top => by simp only [LeV]
theorem LeVL.refl : ∀ c : List SV, LeVL c c
  | [] => trivial
  | x :: r => ⟨LeV.refl x, LeVL.refl r⟩
end

section
variable {cx : Cx} {w : World}
 mutual
theorem LeV.rep : ∀ (x y : SV) (u : Value), LeV x y → SRep cx w x u → SRep cx w y u
  | .agg c, y, u, e, h => by
    cases y with
    | agg c' =>
      simp only [LeV] at e
      simp only [SRep] at h ⊢
      obtain ⟨p, e1, h1⟩ := h
      exact ⟨p, e1, LeVL.rep c c' p e h1⟩
    | _ => simp [LeV] at e
  | .tup c, y, u, e, h => by
    cases y with
    | tup c' =>
      simp only [LeV] at e
      simp only [SRep] at h ⊢
      obtain ⟨p, e1, h1⟩ := h
      exact ⟨p, e1, LeVL.rep c c' p e h1⟩
    | _ => simp [LeV] at e
  | .d x, y, u, e, h => by
    unfold LeV at e
    split at e
    · rename_i e1; cases e1
    · rename_i e1; cases e1
    · rename_i e1
      cases e1
      simp only [SRep, DRep] at h ⊢
      exact ⟨none, 0, h.1, by simp, by simp⟩
    · rw [← e]; exact h
  | .ptr l o, y, u, e, h => by simp only [LeV] at e; rw [← e]; exact h
  | .pe l i o, y, u, e, h => by simp only [LeV] at e; rw [← e]; exact h
  | .rp sz g o, y, u, e, h => by simp only [LeV] at e; rw [← e]; exact h
  | .own l, y, u, e, h => by simp only [LeV] at e; rw [← e]; exact h
  | .cs l o sz n c, y, u, e, h => by simp only [LeV] at e; rw [← e]; exact h
  | .mp l, y, u, e, h => by simp only [LeV] at e; rw [← e]; exact h
  | .md ks c, y, u, e, h => by simp only [LeV] at e; rw [← e]; exact h
  | .rc c o, y, u, e, h => by simp only [LeV] at e; rw [← e]; exact h
  | .fn g a b, y, u, e, h => by simp only [LeV] at e; rw [← e]; exact h
  | .top, y, u, e, h => by simp only [LeV] at e; rw [← e]; exact h
theorem LeVL.rep : ∀ (c c' : List SV) (u : List Value), LeVL c c' → SRepL cx w c u → SRepL cx w c' u
  | [], [], u, _, h => h
  | x :: r, y :: s, u, e, h => by
    match u, h with
    | v :: vs, h =>
      simp only [SRepL, LeVL] at h e ⊢
      exact ⟨LeV.rep x y v e.1 h.1, LeVL.rep r s vs e.2 h.2⟩
    | [], h => simp [SRepL] at h
  | [], _ :: _, _, e, _ => by simp [LeVL] at e
  | _ :: _, [], _, e, _ => by simp [LeVL] at e
end
end

end Go.Sx

/- Contracts with memory of functions that leave some of the locs as they are. -/
namespace Go.Sx

end Go.Sx

/- Contracts with memory whose results are data: rows that the callee made become data. -/
namespace Go.Sx

end Go.Sx

/- Contracts whose answer is a new row that nobody writes any more: data. -/
namespace Go.Sx

def firstD : List (Bool × Nat × Nat × (Nat → Nat → Value)) → Option (Nat × Nat × (Nat → Nat → Value))
  | [] => none
  | (g, x) :: rest => bif g then some x else firstD rest

end Go.Sx

/- Contracts with several outcomes, whose results may say less than the run's. -/
namespace Go.Sx
end Go.Sx

/- Pure contracts: functions of data, known by their results as data; nothing of the caller's memory changes. -/
namespace Go.Sx

/-! ### results as data -/
section
variable {cx cx' : Cx} {w w' : World}
end
section
variable {cxq cx' : Cx} {H : SH} {w : World}
end

section
variable {a : Bool} {cxq cx' : Cx} {H : SH} {w : World}
end

/-! ### arguments: data -/
inductive PT where
  | any
  | g (cts : List CT)
  | s (k : IntKind)

section
variable {cx cx' : Cx} {w : World}
end

/-! ### the contracts -/
/-! ### results that say less: nil lists as empty lists -/
end Go.Sx

/- The pure model: memory, a worker's state, the steps of the layers; packing of words. Plain Lean. -/
namespace Go.Sx.Md
open Go Go.Sx

/-! ### data -/
structure Cf where
  (a b c d e f g l : Int)
structure Ac where
  (k a x y o : Int)
structure Mm where
  c : Cf
  s : Ac
  ws : List Int
structure Wk where
  line : Int
  kind : Int
  opT : Int
  opX : Int
  slab : Int
  use : Bool
  by_ : Int
  nth : Int
  pinned : Bool
  E : Int
  rack : List Int
  t0 : Int
  l0 : List Int
  t1 : Int
  l1 : List Int
  t2 : Int
  l2 : List Int
  hold : List Int
  B : Int
  K : Int
  I : Int
  C : Int
  borrow : Int
  H : Int
  N : Int
  V : Int
  U : Int
  G : Int
  J : Int
  read : List Int
  T : Int
  ret : Int
  give : Bool

end Go.Sx.Md
