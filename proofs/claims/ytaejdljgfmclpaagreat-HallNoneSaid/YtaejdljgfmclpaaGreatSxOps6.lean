/- Operations, third part: stores. -/
import Derived.Test.YtaejdljgfmclpaaGreatSxOps2
set_option linter.all false
set_option linter.unusedVariables false
set_option linter.unusedSimpArgs false
set_option linter.unnecessarySimpa false
namespace Go.Sx

theorem frzL_sound {w : World} : ∀ {xs ys : List SV} {h h1 : SH} {cx : Cx} {us : List Value}, Gam cx h w → SRepL cx w xs us → frzL h xs = some (ys, h1) →
    ∃ cx1, Gam cx1 h1 w ∧ Grow0 cx w cx1 w ∧ SRepL cx1 w ys us ∧ cx1.th = cx.th ∧ cx1.nl = cx.nl
  | [], ys, h, h1, cx, us, g, hr, hf => by
    simp only [frzL, Option.some.injEq, Prod.mk.injEq] at hf; obtain ⟨rfl, rfl⟩ := hf
    exact ⟨cx, g, Grow.refl _ _ _, hr, rfl, rfl⟩
  | x :: r, ys, h, h1, cx, u :: us, g, hr, hf => by
    simp only [frzL] at hf
    simp only [SRepL] at hr
    split at hf
    · rename_i y h2 h3
      split at hf
      · rename_i zs h4 h5
        simp only [Option.some.injEq, Prod.mk.injEq] at hf; obtain ⟨rfl, rfl⟩ := hf
        obtain ⟨cx1, g1, gr1, hy, e1, e2⟩ := frz_sound g hr.1 h3
        obtain ⟨cx2, g2, gr2, hz, e3, e4⟩ := frzL_sound (h := h2) g1 (hr.2.grow gr1) h5
        refine ⟨cx2, g2, gr1.trans gr2, ?_, by rw [e3, e1], by rw [e4, e2]⟩
        simp only [SRepL]; exact ⟨hy.grow gr2, hz⟩
      · simp at hf
    · simp at hf
  | _ :: _, _, _, _, _, [], _, hr, _ => by simp [SRepL] at hr

theorem setRow_get (w : World) (g : Nat) (cs cur : Array Value) (t : TypeId) (h : w.heap[g]? = some (.cells cur t (0, 0))) : (w.setRow g cs).heap[g]? = some (.cells cs t (0, 0)) := setRow_heap w g cur cs t (0, 0) h
theorem setRow_ne (w : World) (g b : Nat) (cs : Array Value) (h : b ≠ g) : (w.setRow g cs).heap[b]? = w.heap[b]? := by
  simp [World.setRow, Array.getElem?_modify, Ne.symm h]
theorem setRow_size (w : World) (g : Nat) (cs : Array Value) : (w.setRow g cs).heap.size = w.heap.size := by simp [World.setRow]

theorem frozen_setRow (w : World) (g : Nat) (cs : Array Value) (a : Addr) : (w.setRow g cs).frozen? a = w.frozen? a := by
  simp only [World.frozen?, World.setRow, Array.getElem?_modify]
  by_cases h : g = a.block
  · subst h
    simp only [if_true]
    cases w.heap[a.block]? with
    | none => rfl
    | some o => cases o <;> rfl
  · simp [h]

theorem Io.setRow (w : World) (g : Nat) (cs : Array Value) : Io w (w.setRow g cs) := ⟨rfl, rfl, fun a _ => frozen_setRow w g cs a, Nat.le_of_eq (setRow_size _ _ _).symm⟩

/-- What sto writes, storeCells does. -/
theorem softD_rep {fz : Nat → Prop} {w : World} {old new : DV} {u : Value} (h : DRep fz w new u) : DRep fz w (softD old new) u := by
  unfold softD
  split
  · split
    · simp only [DRep] at h ⊢
      exact ⟨none, 0, h.1, Nat.le_refl _, fun hn => absurd rfl hn⟩
    · exact h
  · exact h
theorem softs_toD {fz : Nat → Prop} {w : World} {g : Nat → DV} : ∀ {ds : List DV} {vs : List Value} {o : Nat}, (ds.length = vs.length ∧ ∀ j, j < ds.length → ∃ v, vs[j]? = some v ∧ DRep fz w (ds.getD j (.v undef)) v) →
    (softs g o ds).length = vs.length ∧ ∀ j, j < (softs g o ds).length → ∃ v, vs[j]? = some v ∧ DRep fz w ((softs g o ds).getD j (.v undef)) v
  | [], vs, o, h => h
  | d :: r, [], o, h => by simp at h
  | d :: r, v :: vs, o, ⟨h1, h2⟩ => by
    obtain ⟨i1, i2⟩ := softs_toD (g := g) (ds := r) (vs := vs) (o := o + 1) ⟨by simpa using h1, fun j hj => by
      have := h2 (j + 1) (by simpa using hj)
      simpa using this⟩
    refine ⟨by simp [softs, i1], fun j hj => ?_⟩
    cases j with
    | zero =>
      obtain ⟨v', e1, e2⟩ := h2 0 (by simp)
      exact ⟨v', by simpa using e1, by simpa [softs] using softD_rep (by simpa using e2)⟩
    | succ j =>
      have := i2 j (by simpa [softs] using hj)
      simpa [softs] using this

theorem softVs_rep {cx : Cx} {w : World} : ∀ {cs xs : List SV} {vs : List Value}, SRepL cx w xs vs → SRepL cx w (softVs cs xs) vs
  | [], xs, vs, h => by cases xs <;> exact h
  | a :: r, [], vs, h => h
  | a :: r, x :: s, [], h => by simp [SRepL] at h
  | a :: r, x :: s, v :: vs, h => by
    simp only [softVs, SRepL] at h ⊢
    refine ⟨?_, softVs_rep h.2⟩
    unfold softV
    split
    · simp only [SRep] at h ⊢; exact softD_rep h.1
    · exact h.1
theorem softVs_length : ∀ {cs xs : List SV}, (softVs cs xs).length = xs.length
  | [], xs => by cases xs <;> rfl
  | a :: r, [] => rfl
  | a :: r, x :: s => by simp [softVs, softVs_length]
theorem softVs_ne {cs xs : List SV} (h : xs ≠ []) : softVs cs xs ≠ [] := fun e => by
  have := @softVs_length cs xs
  rw [e] at this
  cases xs with
  | nil => exact h rfl
  | cons => simp at this

theorem sto_sound {P : Program} {cx : Cx} {h h' : SH} {w : World} (g : Gam cx h w) {p : SV} {u : Value} (hp : SRep cx w p u) {xs : List SV} {vs : List Value}
    (hx : SRepL cx w xs vs) (h1 : ∀ v ∈ vs, v.oneCell' = true) (hne : xs ≠ []) (hs : sto h p xs = some h') :
    ∃ a w' cx', u = .pointer (some a) ∧ (storeCells a vs).run P w = .ok () w' ∧ Gam cx' h' w' ∧ Grow0 cx w cx' w' := by
  cases p with
  | ptr l o =>
    simp only [sto] at hs
    simp only [SRep] at hp
    obtain ⟨hn, rfl⟩ := hp
    have ho := g.obj l
    split at hs
    · rename_i t cs hg
      rw [hg] at ho
      obtain ⟨t', c', hh, hr⟩ := ho
      have hx := softVs_rep (cs := cs.drop o) hx
      have hne := softVs_ne (cs := cs.drop o) hne
      rw [← @softVs_length (cs.drop o) xs] at hs
      generalize softVs (cs.drop o) xs = xs at hx hne hs
      cases hb : Nat.ble (o + xs.length) cs.length with
      | false => simp [hb] at hs
      | true =>
        simp only [hb, cond_true, Option.some.injEq] at hs; subst hs
        have hle := Nat.le_of_ble_eq_true hb
        have hxl := hx.length
        have hcl := hr.length
        have hst := run_storeCells_at P (cx.th l) o t' vs 0 ⟨c'⟩ w hh (by simp; omega) h1
        have hv : liv cx h l := by simp [liv, hg]
        refine ⟨_, _, cx, rfl, hst, ?_⟩
        refine Gam.write g hv _ (.inl ?_) (setRow_size _ _ _) (fun b hbn => setRow_ne _ _ _ _ hbn) ⟨t', _, setRow_get w _ _ _ t' hh, ?_⟩ (Io.setRow _ _ _)
        · simp [liv, hget_set_eq (lt_of_liv hv)]
        · simp only [Nat.add_zero, ← hxl, List.append_assoc]
          exact (SRepL.append (hr.take o) (hx.append (hr.drop _))).mono (p := fun _ => false) ⟨fun _ h => h, fun b hbf => setRow_ne _ _ _ _ (fun (e : b = cx.th l) => g.own l hv (e ▸ hbf)), by rw [setRow_size]; exact Nat.le_refl _, fun _ h _ => ⟨h, rfl, rfl, rfl, rfl, rfl⟩, rfl, Io.setRow _ _ _⟩ _ _ (mentL_none _)
    · simp at hs
  | pe l i o =>
    simp only [sto] at hs
    split at hs
    · simp at hs
    · rename_i ys h2 hfz
      obtain ⟨cx1, g1, gr1, hy, eth, enl⟩ := frzL_sound (h := h) g hx hfz
      simp only [SRep] at hp
      obtain ⟨hn, rfl, hi, hnl⟩ := hp
      obtain ⟨hn1, e1, e2, e3, e4, e5⟩ := gr1.loc l hn rfl
      have ho := g1.obj l
      have hyl := hy.length
      have hxl := hx.length
      split at hs
      · rename_i t sz n f hg
        rw [hg] at ho
        obtain ⟨hln, hrs, hcp, _, hh⟩ := ho
        rw [← e4] at hnl
        obtain ⟨t', c', hh, hsz, hr⟩ := hh hnl
        cases hb : Nat.ble (o + ys.length) sz with
        | false => simp [hb] at hs
        | true =>
          simp only [hb, cond_true] at hs
          have hle := Nat.le_of_ble_eq_true hb
          split at hs
          · rename_i ds hds
            simp only [Option.some.injEq] at hs; subst hs
            obtain ⟨hdl, hd⟩ := softs_toD (g := f i) (o := o) (hy.toD hds)
            generalize softs (f i) o ds = ds at hdl hd ⊢
            have hv : liv cx1 h2 l := by simp [liv, hg, hnl]
            rw [← e1, ← e5, hrs]
            rw [← e2, hln] at hi
            have hsp : i * sz + sz ≤ c'.size := by
              have : (i + 1) * sz ≤ cx1.cp l * sz := Nat.mul_le_mul_right _ (by omega)
              rw [Nat.add_mul, Nat.one_mul] at this; omega
            have hst := run_storeCells_at P (cx1.th l) (i * sz + o) t' vs 0 c' w hh (by omega) h1
            refine ⟨_, _, cx1, rfl, hst, ?_⟩
            have hW := Gam.write (w' := w.setRow (cx1.th l) (c'.toList.take (i * sz + o + 0) ++ vs ++ c'.toList.drop (i * sz + o + 0 + vs.length)).toArray) g1 hv (.row t sz n (updRow f i o ds)) (.inl ?_) (setRow_size _ _ _) (fun b hbn => setRow_ne _ _ _ _ hbn) ?_ (Io.setRow _ _ _)
            · exact ⟨hW.1, gr1.trans hW.2⟩
            · simp [liv, hget_set_eq (lt_of_liv hv), hnl]
            · refine ⟨hln, hrs, hcp, fun e => by simp [hnl] at e, fun _ => ⟨t', _, setRow_get w _ _ _ t' hh, ?_, fun i' hi' j hj => ?_⟩⟩
              · simp; omega
              · have grw : ∀ b, cx1.fz b → (w.setRow (cx1.th l) (c'.toList.take (i * sz + o + 0) ++ vs ++ c'.toList.drop (i * sz + o + 0 + vs.length)).toArray).heap[b]? = w.heap[b]? := fun b hbf => setRow_ne _ _ _ _ (fun e => g1.own l hv (e ▸ .inl hbf))
                by_cases hij : i' = i ∧ o ≤ j ∧ j < o + ds.length
                · obtain ⟨rfl, h3, h4⟩ := hij
                  obtain ⟨v, hv1, hv2⟩ := hd (j - o) (by omega)
                  refine ⟨v, ?_, ?_⟩
                  · simp only [Nat.add_zero, List.getElem?_toArray]
                    rw [List.append_assoc, List.getElem?_append_right (by simp; omega), List.getElem?_append_left (by simp; omega)]
                    rw [List.length_take, Array.length_toList, Nat.min_eq_left (by omega)]
                    rw [show i' * sz + j - (i' * sz + o) = j - o by omega]; exact hv1
                  · have : updRow f i' o ds i' j = ds.getD (j - o) (.v undef) := by
                      simp [updRow, Nat.ble_eq_true_of_le h3, Nat.blt, Nat.ble_eq_true_of_le (show j + 1 ≤ o + ds.length by omega)]
                    rw [this]
                    exact DRep.mono (fun _ h => h) grw _ _ hv2
                · obtain ⟨x, hx1, hx2⟩ := hr i' hi' j hj
                  have hout : i' * sz + j < i * sz + o ∨ i * sz + o + vs.length ≤ i' * sz + j := by
                    rcases Nat.lt_trichotomy i' i with h5 | h5 | h5
                    · left
                      have : (i' + 1) * sz ≤ i * sz := Nat.mul_le_mul_right _ (by omega)
                      rw [Nat.add_mul, Nat.one_mul] at this; omega
                    · subst h5
                      rcases Nat.lt_or_ge j o with h6 | h6
                      · left; omega
                      · right
                        have : o + ds.length ≤ j := by
                          rcases Nat.lt_or_ge j (o + ds.length) with h7 | h7
                          · exact absurd ⟨rfl, h6, h7⟩ hij
                          · exact h7
                        omega
                    · right
                      have : (i + 1) * sz ≤ i' * sz := Nat.mul_le_mul_right _ (by omega)
                      rw [Nat.add_mul, Nat.one_mul] at this; omega
                  refine ⟨x, ?_, ?_⟩
                  · simp only [Nat.add_zero, List.getElem?_toArray]
                    have hx1' : c'.toList[i' * sz + j]? = some x := by simpa using hx1
                    rcases hout with h5 | h5
                    · rw [List.append_assoc, List.getElem?_append_left (by have := (Array.getElem?_eq_some_iff.1 hx1).1; simp; omega), List.getElem?_take, if_pos h5]; exact hx1'
                    · rw [List.getElem?_append_right (by simp; omega), List.getElem?_drop]
                      have : i * sz + o + vs.length + (i' * sz + j - (List.take (i * sz + o) c'.toList ++ vs).length) = i' * sz + j := by simp; omega
                      rw [this]; exact hx1'
                  · have : updRow f i o ds i' j = f i' j := by
                      unfold updRow
                      have : (Nat.beq i' i && (Nat.ble o j && Nat.blt j (o + ds.length))) = false := by
                        rw [Bool.eq_false_iff]; intro hc
                        simp only [Bool.and_eq_true] at hc
                        exact hij ⟨Nat.eq_of_beq_eq_true hc.1, Nat.le_of_ble_eq_true hc.2.1, Nat.le_of_ble_eq_true hc.2.2⟩
                      rw [this]; rfl
                    rw [this]
                    exact DRep.mono (fun _ h => h) grw _ _ hx2
          · simp at hs
      · rename_i t k xs' hg
        rw [hg] at ho
        obtain ⟨hln, hrs, hcp, _, hh⟩ := ho
        rw [← e4] at hnl
        obtain ⟨t', c', hh, hsz, hr⟩ := hh hnl
        split at hs
        · rename_i k' x
          cases hb : (Nat.beq o 0 && kEq k k') with
          | false => simp [hb] at hs
          | true =>
            simp only [hb, cond_true, Option.some.injEq] at hs; subst hs
            simp only [Bool.and_eq_true] at hb
            have h0 : o = 0 := Nat.eq_of_beq_eq_true hb.1
            have hk := kEq_eq hb.2
            subst h0; subst hk
            match vs, hy, h1, hyl, hxl with
            | [v], hy, h1, _, _ =>
            simp only [SRepL, SRep, DRep] at hy
            obtain ⟨⟨rfl, _⟩, _⟩ := hy
            have hv : liv cx1 h2 l := by simp [liv, hg, hnl]
            rw [← e1, ← e5, hrs]
            rw [← e2, hln] at hi
            have hst := run_storeCells_at P (cx1.th l) (i * 1 + 0) t' [.int k x] 0 c' w hh (by simp; omega) h1
            refine ⟨_, _, cx1, rfl, hst, ?_⟩
            have hW := Gam.write (w' := w.setRow (cx1.th l) (c'.toList.take (i * 1 + 0 + 0) ++ [Value.int k x] ++ c'.toList.drop (i * 1 + 0 + 0 + [Value.int k x].length)).toArray) g1 hv (.rowi t k (xs'.set i x)) (.inl ?_) (setRow_size _ _ _) (fun b hbn => setRow_ne _ _ _ _ hbn) ?_ (Io.setRow _ _ _)
            · exact ⟨hW.1, gr1.trans hW.2⟩
            · simp [liv, hget_set_eq (lt_of_liv hv), hnl]
            · refine ⟨by simpa using hln, hrs, by simpa using hcp, fun e => by simp [hnl] at e, fun _ => ⟨t', _, setRow_get w _ _ _ t' hh, ?_, fun j hj => ?_⟩⟩
              · simp; omega
              · simp only [Nat.mul_one, Nat.add_zero, List.getElem?_toArray, List.length_singleton]
                simp only [List.length_set] at hj
                have hrj := hr j hj
                have hrj' : c'.toList[j]? = some (.int k (xs'.getD j 0)) := by simpa using hrj
                rcases Nat.lt_trichotomy j i with h5 | h5 | h5
                · rw [List.append_assoc, List.getElem?_append_left (by simp; omega), List.getElem?_take, if_pos h5, hrj']
                  simp [List.getD_eq_getElem?_getD, List.getElem?_set_ne (show i ≠ j by omega)]
                · subst h5
                  have hjc : j ≤ c'.size := by omega
                  rw [List.append_assoc, List.getElem?_append_right (by simp; omega)]
                  simp [List.getD_eq_getElem?_getD, hj, Nat.min_eq_left hjc]
                · rw [List.getElem?_append_right (by simp; omega), List.getElem?_drop]
                  have : i + 1 + (j - (List.take i c'.toList ++ [Value.int k x]).length) = j := by simp; omega
                  rw [this, hrj']
                  simp [List.getD_eq_getElem?_getD, List.getElem?_set_ne (show i ≠ j by omega)]
        · simp at hs
      · simp at hs
  | _ => simp [sto] at hs

theorem snd_st {P : Program} {o : Oper} {p x : Operand} {q y : CA} {t : TypeId} {s : SS} {c : List SV} {h' : SH} (ho : o.op = .store t p x) (hp : coA p = some q) (hx : coA x = some y)
    (hz : szT P t ≠ 0) (hc : cellsOf (ev s.t y) = some c) (hl : c.length = szT P t) (hs : sto s.h (ev s.t q) c = some h') : OpOK0 P o s .top ⟨s.t, h'⟩ := by
  intro cx w a hg ht next Q hk
  obtain ⟨c', e, hr, h1⟩ := cellsOf_sound hc (eval_coA hx ht)
  obtain ⟨ad', w', cx', hpe, hrun, hg', gr⟩ := sto_sound (P := P) hg (eval_coA hp ht) hr h1 (by intro e; simp [e] at hl; exact hz hl.symm) hs
  have hlen : c'.length = szT P t := by rw [← hr.length, hl]
  have : (execOp a.eval o).run P w = .ok .skip w' := by
    simp [execOp, ho, Instr.storeAt, hpe, Instr.sureAddr, storeVar, run_szT w (t := t) (by obtain ⟨i, hi, _⟩ := info_of_sz hz; exact ⟨i, hi⟩), e, hlen, hrun]
  unfold Oper.wp
  rw [this, Oper.upon_skip]
  exact hk cx' w' undef gr (by simp [SRep]) (ht.grow gr) hg'
end Go.Sx

/- Operations, fourth part: scalars, places, indexes. -/
namespace Go.Sx

/-- A result of the continuation-passing kind: some value reached, the machine's value with it. -/
def Plain (P : Program) (A : Ann) (o : Oper) (s : SS) {Ω : Type} (k : SV → List Nat → SS → Option Ω) (out : Ω) : Prop :=
  ∃ v m s', k v m s' = some out ∧ s'.t.Sublist s.t ∧ OpOK P A o s v s'

/-- But for the locs of m the heap is as it was. -/
def Keeps (m : List Nat) (h h' : SH) : Prop := h.length ≤ h'.length ∧ ∀ l, l < h.length → nmem l m = false → hget h' l = hget h l

theorem Keeps.new (h : SH) (so : SO) : Keeps [] h (h ++ [so]) := ⟨by simp, fun l hl _ => by simp [hget, List.getD_eq_getElem?_getD, List.getElem?_append_left hl]⟩

/-- An operation that makes or writes and lets all temporaries stand. -/
def PlainE (P : Program) (o : Oper) (s : SS) {Ω : Type} (k : SV → List Nat → SS → Option Ω) (out : Ω) : Prop :=
  ∃ v m h', k v m ⟨s.t, h'⟩ = some out ∧ OpOK0 P o s v ⟨s.t, h'⟩ ∧ Keeps m s.h h'

theorem PlainV.plain {P : Program} {A : Ann} {o : Oper} {s : SS} {Ω : Type} {k : SV → List Nat → SS → Option Ω} {out : Ω} (h : PlainV P o s k out) : Plain P A o s k out :=
  let ⟨v, h1, h2⟩ := h; ⟨v, [], s, h1, .refl _, h2.op.weak fun _ _ => rfl⟩
theorem PlainE.plain {P : Program} {A : Ann} {o : Oper} {s : SS} {Ω : Type} {k : SV → List Nat → SS → Option Ω} {out : Ω} (h : PlainE P o s k out) : Plain P A o s k out :=
  let ⟨v, m, h', h1, h2, _⟩ := h; ⟨v, m, _, h1, .refl _, h2.weak fun _ _ => rfl⟩

section
variable {P : Program} {A : Ann} {o : Oper} {s : SS} {Ω : Type} {k : SV → List Nat → SS → Option Ω} {out : Ω}

theorem br_some {α : Type} {b : Bool} {x y : Option α} {r : α} (h : br b x y = some r) : (b = true ∧ x = some r) ∨ (b = false ∧ y = some r) := by
  cases b with
  | true => exact .inl ⟨rfl, h⟩
  | false => exact .inr ⟨rfl, h⟩

theorem cond_some {α : Type} {b : Bool} {x : Option α} {r : α} (h : (bif b then x else none) = some r) : b = true ∧ x = some r := by
  cases b with
  | true => exact ⟨rfl, h⟩
  | false => simp at h

theorem snd_pick {c a b : Operand} {c' a' b' : CA} (ho : o.op = .pick c a b) (hc : coA c = some c') (ha : coA a = some a') (hb : coA b = some b')
    {env : Env Ω} (h : sop env A (.pick c' a' b') s k = some out) : PlainV P o s k out := by
  simp only [sop] at h
  have hx : ∀ (cx : Cx) (w : World) (t : Act) (x : Bool), TRep cx w s.t t.tmps → ev s.t c' = .d (.v (.bool x)) → (execOp t.eval o).run P w = .ok (.value (if x then t.eval a else t.eval b)) w := by
    intro cx w t x ht e
    have h1 := eval_coA hc ht
    rw [e] at h1
    simp only [SRep, DRep] at h1
    simp only [execOp, ho, h1.1, asBool]
    cases x <;> simp
  split at h
  · rename_i x p q e1 e2 e3
    refine ⟨_, h, fun cx w t hg ht => ⟨_, hx cx w t x ht e1, ?_⟩⟩
    have h2 := eval_coA ha ht
    have h3 := eval_coA hb ht
    rw [e2] at h2; rw [e3] at h3
    simp only [SRep, DRep] at h2 h3 ⊢
    cases x
    · simp [h3.1, cellV]
    · simp [h2.1, cellV]
  · rename_i x e1 _
    rcases br_some h with ⟨rfl, h⟩ | ⟨rfl, h⟩
    · exact ⟨_, h, fun cx w t hg ht => ⟨_, hx cx w t true ht e1, by simpa using eval_coA ha ht⟩⟩
    · exact ⟨_, h, fun cx w t hg ht => ⟨_, hx cx w t false ht e1, by simpa using eval_coA hb ht⟩⟩
  · simp at h

theorem snd_nilc {x : Operand} {y : CA} (ho : o.op = .nilCheck x) (hx : coA x = some y) {env : Env Ω} (h : sop env A (.nilc y) s k = some out) : PlainV P o s k out := by
  simp only [sop] at h
  split at h
  case h_5 => simp at h
  all_goals
    rename_i e
    refine ⟨_, h, fun cx w t hg ht => ?_⟩
    have h1 := eval_coA hx ht
    rw [e] at h1
    refine ⟨t.eval x, ?_, h1⟩
  · simp only [SRep] at h1; simp [execOp, ho, h1.2]
  · simp only [SRep] at h1; simp [execOp, ho, h1.2.1]
  · simp only [SRep] at h1; obtain ⟨b, o', h1, _⟩ := h1; simp [execOp, ho, h1]
  · simp only [SRep] at h1; obtain ⟨a', b', h1, _⟩ := h1
    simp [execOp, ho, h1]

theorem int_of {cx : Cx} {w : World} {k : IntKind} {n : Int} {u : Value} (h : SRep cx w (.d (.v (.int k n))) u) : u = .int k n := by simp only [SRep, DRep] at h; exact h.1
theorem bool_of {cx : Cx} {w : World} {b : Bool} {u : Value} (h : SRep cx w (.d (.v (.bool b))) u) : u = .bool b := by simp only [SRep, DRep] at h; exact h.1
theorem str_of {cx : Cx} {w : World} {b : ByteArray} {u : Value} (h : SRep cx w (.d (.v (.string b))) u) : u = .string b := by simp only [SRep, DRep] at h; exact h.1
theorem SRep.int {cx : Cx} {w : World} {k : IntKind} {n : Int} : SRep cx w (.d (.v (.int k n))) (.int k n) := by simp [SRep, DRep, cellV]
theorem SRep.bool {cx : Cx} {w : World} {b : Bool} : SRep cx w (.d (.v (.bool b))) (.bool b) := by simp [SRep, DRep, cellV]
theorem SRep.str {cx : Cx} {w : World} {b : ByteArray} : SRep cx w (.d (.v (.string b))) (.string b) := by simp [SRep, DRep, cellV]

theorem snd_bin {op : BinOp} {t u : TypeId} {x y : Operand} {x' y' : CA} (ho : o.op = .binOp op t x y u) (hx : coA x = some x') (hy : coA y = some y') (hne : op ≠ .eql ∧ op ≠ .neq)
    {env : Env Ω} (h : sop env A (.bin op x' y') s k = some out) : PlainV P o s k out := by
  simp only [sop, bop] at h
  have hguard : ∀ a b, (eqGuard op t x y a b) = (pure () : Sem Unit) := by
    intro a b; unfold eqGuard; cases op <;> first | rfl | exact absurd rfl hne.1 | exact absurd rfl hne.2
  have key : ∀ (v : SV) (v' : Value), k v [] s = some out → (∀ cx w, SRep cx w v v') → (∀ (cx : Cx) (w : World) (a : Act), TRep cx w s.t a.tmps → (binOp op t (a.eval x) (a.eval y)).run P w = .ok v' w) → PlainV P o s k out := by
    intro v v' hk hv hr
    refine ⟨_, hk, fun cx w a hg ht => ⟨v', ?_, hv cx w⟩⟩
    simp [execOp, ho, hguard, hr cx w a ht]
  split at h
  · rename_i ka x1 kb y1 e1 e2
    have hxy : ∀ (cx : Cx) (w : World) (a : Act), TRep cx w s.t a.tmps → a.eval x = .int ka x1 ∧ a.eval y = .int kb y1 := fun cx w a ht =>
      ⟨int_of (e1 ▸ eval_coA hx ht), int_of (e2 ▸ eval_coA hy ht)⟩
    split at h
    · rcases br_some h with ⟨_, h⟩ | ⟨hlt, h⟩
      · simp at h
      · refine key _ _ h (fun _ _ => SRep.int) fun cx w a ht => ?_
        obtain ⟨h1, h2⟩ := hxy cx w a ht
        have : ¬ y1 < 0 := by simpa using hlt
        simp [h1, h2, binOp, Op.shift, this, shl]
    · rcases br_some h with ⟨_, h⟩ | ⟨hlt, h⟩
      · simp at h
      · refine key _ _ h (fun _ _ => SRep.int) fun cx w a ht => ?_
        obtain ⟨h1, h2⟩ := hxy cx w a ht
        have : ¬ y1 < 0 := by simpa using hlt
        simp [h1, h2, binOp, Op.shift, this, shr]
    · rename_i n1 n2
      have hk := kEq_eq (cond_some h).1
      replace h := (cond_some h).2
      subst hk
      cases hcm : isCmp op with
      | true =>
        simp only [hcm, cond_true] at h
        cases op <;> simp only [isCmp, cmp] at h hcm <;> first
          | simp at hcm
          | (refine key _ _ h (fun _ _ => SRep.bool) fun cx w a ht => ?_
             obtain ⟨h1, h2⟩ := hxy cx w a ht
             simp [h1, h2, binOp, Op.intCmp])
      | false =>
        simp only [hcm, cond_false] at h
        cases op <;> simp only [isCmp, arith] at h hcm <;> first
          | simp at hcm
          | simp at h
          | exact absurd rfl n1
          | exact absurd rfl n2
          | (refine key _ _ h (fun _ _ => SRep.int) fun cx w a ht => ?_
             obtain ⟨h1, h2⟩ := hxy cx w a ht
             simp [h1, h2, binOp, Op.intArith, Op.intBits, band, bor, bxor, bandn]; done)
          | (rcases br_some h with ⟨_, h⟩ | ⟨hz, h⟩
             · simp at h
             · refine key _ _ h (fun _ _ => SRep.int) fun cx w a ht => ?_
               obtain ⟨h1, h2⟩ := hxy cx w a ht
               have : ¬ y1 = 0 := by simpa using hz
               simp [h1, h2, binOp, Op.intDiv, this])
  · rename_i x1 y1 e1 e2
    split at h
    · rcases br_some h with ⟨hft, h⟩ | ⟨_, h⟩
      · refine key _ _ h (fun _ _ => SRep.str) fun cx w a ht => ?_
        have h1 := str_of (e1 ▸ eval_coA hx ht)
        have h2 := str_of (e2 ▸ eval_coA hy ht)
        simp only [fits, Nat.mul_one, decide_eq_true_eq] at hft
        simp [h1, h2, binOp, Op.stringOp]
        omega
      · simp at h
    · simp at h
  · simp at h

theorem snd_un {op : UnOp} {t : TypeId} {x : Operand} {x' : CA} (ho : o.op = .unOp op t x) (hx : coA x = some x') {env : Env Ω} (h : sop env A (.un op x') s k = some out) : PlainV P o s k out := by
  simp only [sop, unop] at h
  split at h
  · rename_i b e
    exact ⟨_, h, fun cx w a hg ht => ⟨.bool (!b), by simp [execOp, ho, bool_of (e ▸ eval_coA hx ht), Op.unary], SRep.bool⟩⟩
  · rename_i ka x1 e
    exact ⟨_, h, fun cx w a hg ht => ⟨.int ka (ka.wrap (0 - x1)), by simp [execOp, ho, int_of (e ▸ eval_coA hx ht), Op.unary, Op.intArith], SRep.int⟩⟩
  · simp at h

theorem snd_conv {t u : TypeId} {kd ks : IntKind} {x : Operand} {x' : CA} (ho : o.op = .convert t u x) (ht : uT P t = .int ks) (hu : uT P u = .int kd) (hx : coA x = some x')
    {env : Env Ω} (h : sop env A (.conv kd x') s k = some out) : PlainV P o s k out := by
  simp only [sop] at h
  split at h
  · rename_i k1 n e
    refine ⟨_, h, fun cx w a hg htt => ⟨.int kd (kd.wrap n), ?_, SRep.int⟩⟩
    have h1 := int_of (e ▸ eval_coA hx htt)
    simp [execOp, ho, h1, convert, run_uT w (t := t) (by rw [ht]; simp), run_uT w (t := u) (by rw [hu]; simp), ht, hu, Conv.intToInt]
  · simp at h

theorem snd_convs {t u : TypeId} {x : Operand} {x' : CA} (ho : o.op = .convert t u x) (ht : uT P t = .string) (hu : uT P u = .string) (hx : coA x = some x')
    {env : Env Ω} (h : sop env A (.convs x') s k = some out) : PlainV P o s k out := by
  simp only [sop] at h
  split at h
  · rename_i y e
    refine ⟨_, h, fun cx w a hg htt => ⟨.string y, ?_, SRep.str⟩⟩
    have h1 := str_of (e ▸ eval_coA hx htt)
    simp [execOp, ho, h1, convert, run_uT w (t := t) (by rw [ht]; simp), run_uT w (t := u) (by rw [hu]; simp), ht, hu]
  · simp at h

theorem snd_mkf {g : Fn} {f c : Array Operand} {f' c' : List CA} (ho : o.op = .makeFunc g f c) (hf : coL f.toList = some f') (hc : coL c.toList = some c')
    {env : Env Ω} (h : sop env A (.mkf g f' c') s k = some out) : PlainV P o s k out := by
  simp only [sop] at h
  refine ⟨_, h, fun cx w a hg ht => ⟨.func g (f.map a.eval) (c.map a.eval), by simp [execOp, ho, Instr.makeFunc], ?_⟩⟩
  simp only [SRep]
  refine ⟨f.toList.map a.eval, c.toList.map a.eval, ?_, eval_coL ht hf, eval_coL ht hc⟩
  have e1 : f.map a.eval = ⟨f.toList.map a.eval⟩ := Array.ext' (by simp)
  have e2 : c.map a.eval = ⟨c.toList.map a.eval⟩ := Array.ext' (by simp)
  rw [e1, e2]

/-! ### parts and places -/
theorem partS_sound {cx : Cx} {w : World} {c : List SV} {c' : List Value} (hr : SRepL cx w c c') {ft : TypeId} {off : Nat} (hu : uT P ft ≠ .invalid) (hlt : aggT P ft = false → off < c'.length) :
    ∃ v, (part ft ⟨c'⟩ off).run P w = .ok v w ∧ SRep cx w (partS (aggT P ft) (szT P ft) off c) v := by
  cases ha : aggT P ft with
  | true =>
    refine ⟨.agg ⟨(c'.drop off).take (szT P ft)⟩, ?_, ?_⟩
    · simp [part, run_aggT w hu, ha, run_szT w (info_of_uT hu).2]
    · simp only [partS, cond_true, SRep]; exact ⟨_, rfl, (hr.drop _).take _⟩
  | false =>
    have hl := hlt ha
    refine ⟨c'[off], by simp [part, run_aggT w hu, ha, hl], ?_⟩
    have hcl := hr.length
    have hlc : off < c.length := by omega
    obtain ⟨v, h1, h2⟩ := hr.get (List.getElem?_eq_getElem hlc)
    simp only [partS, cond_false, List.getD_eq_getElem?_getD, List.getElem?_eq_getElem hlc, Option.getD_some]
    rw [List.getElem?_eq_getElem hl] at h1
    simp only [Option.some.injEq] at h1
    rw [h1]; exact h2

theorem addO_sound {cx : Cx} {w : World} {x y : SV} {n : Nat} {u : Value} (h : addO x n = some y) (hr : SRep cx w x u) : ∃ a, u = .pointer (some a) ∧ SRep cx w y (.pointer (some (a.add n))) := by
  cases x <;> simp only [addO, Option.some.injEq] at h <;> try (simp at h; done)
  all_goals subst h; simp only [SRep] at hr ⊢
  · exact ⟨_, hr.2, hr.1, by rw [addr_add]⟩
  · exact ⟨_, hr.2.1, hr.1, by rw [addr_add, Nat.add_assoc], hr.2.2⟩
  · obtain ⟨b, o', h1, h2⟩ := hr
    exact ⟨_, h1, b, o', by rw [addr_add, Nat.add_assoc], h2⟩

theorem snd_fa {t : TypeId} {x : Operand} {x' : CA} {f : Nat} {fd : Field} (ho : o.op = .fieldAddr t x f) (hx : coA x = some x') (hf : fldT P t f = some fd) (hz : szT P fd.type ≠ 0)
    {env : Env Ω} (h : sop env A (.fa fd.offset x') s k = some out) : PlainV P o s k out := by
  simp only [sop] at h
  split at h
  · rename_i r hr
    refine ⟨_, h, fun cx w a hg ht => ?_⟩
    obtain ⟨ad', h1, h2⟩ := addO_sound hr (eval_coA hx ht)
    refine ⟨_, ?_, h2⟩
    unfold fldT at hf
    split at hf
    · rename_i fs hu
      have : fs[f]? = some fd := by simpa using hf
      simp [execOp, ho, h1, Instr.fieldAt, run_uT w (t := t) (by rw [hu]; simp), hu, this, Instr.sureAddr, fieldPlace, run_szT w (t := fd.type) (by obtain ⟨i, hi, _⟩ := info_of_sz hz; exact ⟨i, hi⟩), hz]
    · simp at hf
  · simp at h
end
end Go.Sx

/- Operations, fifth part: fields, indexes, lengths, comparisons. -/
namespace Go.Sx

section
variable {P : Program} {A : Ann} {o : Oper} {s : SS} {Ω : Type} {k : SV → List Nat → SS → Option Ω} {out : Ω}

theorem okT_ne {t : TypeId} (h : okT P t = true) : uT P t ≠ .invalid := by
  intro e; simp [okT, e] at h

theorem snd_fld {t : TypeId} {x : Operand} {x' : CA} {f : Nat} {fd : Field} (ho : o.op = .field t x f) (hx : coA x = some x') (hf : fldT P t f = some fd) (hk : okT P fd.type = true)
    {env : Env Ω} (h : sop env A (.fld fd.offset (szT P fd.type) (aggT P fd.type) x') s k = some out) : PlainV P o s k out := by
  simp only [sop] at h
  split at h
  · rename_i c e
    obtain ⟨hl, h⟩ := cond_some h
    refine ⟨_, h, fun cx w a hg ht => ?_⟩
    have h1 := eval_coA hx ht
    rw [e] at h1
    simp only [SRep] at h1
    obtain ⟨c', e1, hr⟩ := h1
    have hcl := hr.length
    obtain ⟨v, hv, hsv⟩ := partS_sound (P := P) hr (ft := fd.type) (off := fd.offset) (okT_ne hk) (fun ha => by
      rw [ha, Bool.false_or] at hl; have := Nat.le_of_ble_eq_true hl; omega)
    refine ⟨v, ?_, hsv⟩
    unfold fldT at hf
    split at hf
    · rename_i fs hu
      have : fs[f]? = some fd := by simpa using hf
      simp [execOp, ho, e1, Instr.field, run_uT w (t := t) (by rw [hu]; simp), hu, this, asAgg, hv]
    · simp at hf
  · simp at h

theorem caseIx_some {i : Int} {f : Nat → Option Ω} : ∀ {n j : Nat}, caseIx i f n j = some out → ∃ m, j ≤ m ∧ m < j + n ∧ i = (m : Int) ∧ f m = some out
  | 0, j, h => by simp [caseIx] at h
  | n + 1, j, h => by
    simp only [caseIx] at h
    rcases br_some h with ⟨e, h⟩ | ⟨_, h⟩
    · exact ⟨j, Nat.le_refl _, by omega, by simpa using e, h⟩
    · obtain ⟨m, h1, h2, h3, h4⟩ := caseIx_some h
      exact ⟨m, by omega, by omega, h3, h4⟩

theorem snd_ixa {t e : TypeId} {n : Nat} {x i : Operand} {x' i' : CA} (ho : o.op = .indexAddr t x i) (hx : coA x = some x') (hi : coA i = some i') (hu : uT P t = .array n e) (hz : szT P e ≠ 0)
    {env : Env Ω} (h : sop env A (.ixa n (szT P e) x' i') s k = some out) : PlainV P o s k out := by
  simp only [sop] at h
  split at h
  · rename_i kd j ei
    have hh := caseIx_some h
    clear h
    obtain ⟨m, _, hm, rfl, h⟩ := hh
    simp only [Nat.zero_add] at hm
    split at h
    · rename_i p hp
      refine ⟨_, h, fun cx w a hg ht => ?_⟩
      obtain ⟨ad', h1, h2⟩ := addO_sound hp (eval_coA hx ht)
      have h3 := int_of (ei ▸ eval_coA hi ht)
      refine ⟨_, ?_, h2⟩
      simp [execOp, ho, h1, h3, Instr.indexAt, asIntOf, run_uT w (t := t) (by rw [hu]; simp), hu, Instr.sureAddr, run_szT w (t := e) (by obtain ⟨i, hi, _⟩ := info_of_sz hz; exact ⟨i, hi⟩), hm]
    · simp at h
  · simp at h

theorem inB_spec {i : Int} {n : Nat} (h : inB i n = true) : 0 ≤ i ∧ i.toNat < n ∧ i < (n : Int) ∧ ((i.toNat : Nat) : Int) = i := by
  simp only [inB, Bool.and_eq_true, decide_eq_true_eq] at h
  omega

theorem run_indexAt_slice {t e : TypeId} (hu : uT P t = .slice e) (hz : szT P e ≠ 0) (w : World) (a : Addr) (len cap : Nat) (kd : IntKind) (j : Int) (h0 : 0 ≤ j) (h1 : j < (len : Int)) :
    (Instr.indexAt t (.slice (some a) len cap) (.int kd j)).run P w = .ok (.pointer (some (a.add (j.toNat * szT P e)))) w := by
  simp [Instr.indexAt, asIntOf, run_uT w (t := t) (by rw [hu]; simp), hu, run_szT w (t := e) (by obtain ⟨i, hi, _⟩ := info_of_sz hz; exact ⟨i, hi⟩), h0, h1]

theorem run_ixs {t e : TypeId} {x i : Operand} (ho : o.op = .indexAddr t x i) (hu : uT P t = .slice e) (hz : szT P e ≠ 0) {w : World} {a : Act} {ad : Addr} {len cap : Nat} {kd : IntKind} {j : Int}
    (hx : a.eval x = .slice (some ad) len cap) (hi : a.eval i = .int kd j) (h0 : 0 ≤ j) (h1 : j < (len : Int)) : (execOp a.eval o).run P w = .ok (.value (.pointer (some (ad.add (j.toNat * szT P e))))) w := by
  simp [execOp, ho, hx, hi, run_indexAt_slice hu hz w _ _ _ _ _ h0 h1]

theorem snd_ixs {t e : TypeId} {x i : Operand} {x' i' : CA} (ho : o.op = .indexAddr t x i) (hx : coA x = some x') (hi : coA i = some i') (hu : uT P t = .slice e) (hz : szT P e ≠ 0)
    {env : Env Ω} (h : sop env A (.ixs (szT P e) x' i') s k = some out) : PlainV P o s k out := by
  simp only [sop] at h
  split at h
  · rename_i kd j ei
    simp only [ixSl] at h
    split at h
    · rename_i k1 l ex
      obtain ⟨h1, h⟩ := cond_some h
      have h1 := Nat.eq_of_beq_eq_true h1
      rcases br_some h with ⟨hb, h⟩ | ⟨_, h⟩
      · obtain ⟨b0, b1, b2, b3⟩ := inB_spec hb
        refine ⟨_, h, fun cx w a hg ht => ?_⟩
        have h3 := int_of (ei ▸ eval_coA hi ht)
        have hv := eval_coA hx ht
        rw [ex] at hv
        simp only [SRep, DRep] at hv
        obtain ⟨ad', c, ea, hc, hl⟩ := hv
        obtain ⟨b, o', rfl, hf, hcell⟩ := hl (by intro e; simp [e] at b1)
        refine ⟨_, run_ixs ho hu hz ea h3 b0 b2, ?_⟩
        simp only [SRep, h1, Nat.mul_one, addr_add]
        refine ⟨b, o' + j.toNat, by simp, hf, fun i hi => ⟨_, ?_, by simp only [DRep]; exact ⟨rfl, trivial⟩⟩⟩
        have : i = 0 := by omega
        subst this; exact hcell _ b1
      · simp at h
    · rename_i sz' n f ex
      obtain ⟨h1, h⟩ := cond_some h
      have h1 := Nat.eq_of_beq_eq_true h1
      rcases br_some h with ⟨hb, h⟩ | ⟨_, h⟩
      · obtain ⟨b0, b1, b2, b3⟩ := inB_spec hb
        refine ⟨_, h, fun cx w a hg ht => ?_⟩
        have h3 := int_of (ei ▸ eval_coA hi ht)
        have hv := eval_coA hx ht
        rw [ex] at hv
        simp only [SRep, DRep] at hv
        obtain ⟨ad', c, ea, hc, hl⟩ := hv
        obtain ⟨b, o', rfl, hf, hcell⟩ := hl (by omega)
        refine ⟨_, run_ixs ho hu hz ea h3 b0 b2, ?_⟩
        simp only [SRep, h1, addr_add]
        refine ⟨b, o' + j.toNat * sz', by simp, hf, fun i hi => ?_⟩
        obtain ⟨x, h5, h6⟩ := hcell _ b1 i hi
        exact ⟨x, by rw [Nat.add_assoc]; exact h5, h6⟩
      · simp at h
    · rename_i l ex
      have own : ∀ (cx : Cx) (w : World) (a : Act), Seen cx s.h w → TRep cx w s.t a.tmps → cx.rs l = szT P e → 0 ≤ j → j < (cx.ln l : Int) → cx.nl l = false →
          ∃ v', (execOp a.eval o).run P w = .ok (.value v') w ∧ SRep cx w (.pe l j.toNat 0) v' := by
        intro cx w a hg ht hrs b0 b2 hnl
        have h3 := int_of (ei ▸ eval_coA hi ht)
        have hv := eval_coA hx ht
        rw [ex] at hv
        simp only [SRep] at hv
        obtain ⟨hn, ea⟩ := hv
        rw [hnl] at ea
        refine ⟨_, run_ixs ho hu hz ea h3 b0 b2, ?_⟩
        simp only [SRep, addr_add, hrs]
        exact ⟨hn, by simp, by omega, hnl⟩
      split at h
      · rename_i t' k1 xs hget'
        obtain ⟨h1, h⟩ := cond_some h
        have h1 := Nat.eq_of_beq_eq_true h1
        rcases br_some h with ⟨hb, h⟩ | ⟨_, h⟩
        · obtain ⟨b0, b1, b2, b3⟩ := inB_spec hb
          refine ⟨_, h, fun cx w a hg ht => ?_⟩
          have hO := hg.obj l
          rw [hget'] at hO
          obtain ⟨hln, hrs, hcp, hnl, _⟩ := hO
          refine own cx w a hg ht (by rw [hrs, h1]) b0 (by rw [hln]; exact b2) ?_
          cases hq : cx.nl l with
          | false => rfl
          | true => have := hnl hq; omega
        · simp at h
      · rename_i t' sz' n f hget'
        obtain ⟨h1, h⟩ := cond_some h
        have h1 := Nat.eq_of_beq_eq_true h1
        rcases br_some h with ⟨hb, h⟩ | ⟨_, h⟩
        · obtain ⟨b0, b1, b2, b3⟩ := inB_spec hb
          refine ⟨_, h, fun cx w a hg ht => ?_⟩
          have hO := hg.obj l
          rw [hget'] at hO
          obtain ⟨hln, hrs, hcp, hnl, _⟩ := hO
          refine own cx w a hg ht (by rw [hrs, h1]) b0 (by rw [hln]; exact b2) ?_
          cases hq : cx.nl l with
          | false => rfl
          | true => have := hnl hq; omega
        · simp at h
      · simp at h
    · rename_i l o' sz' n c ex
      have h0 := cond_some h
      clear h
      have h1 := Nat.eq_of_beq_eq_true h0.1
      have hh := caseIx_some h0.2
      obtain ⟨m, _, hm, rfl, h⟩ := hh
      refine ⟨_, h, fun cx w a hg ht => ?_⟩
      have h3 := int_of (ei ▸ eval_coA hi ht)
      have hv := eval_coA hx ht
      rw [ex] at hv
      simp only [SRep] at hv
      obtain ⟨hn, ea⟩ := hv
      refine ⟨_, run_ixs ho hu hz ea h3 (by omega) (by omega), ?_⟩
      simp only [SRep, addr_add, h1]
      exact ⟨hn, by simp⟩
    · simp at h
  · simp at h

theorem snd_ixg {t e : TypeId} {n : Nat} {x i : Operand} {x' i' : CA} (ho : o.op = .index t x i) (hx : coA x = some x') (hi : coA i = some i') (hu : uT P t = .array n e) (hz : szT P e ≠ 0) (hk : okT P e = true)
    {env : Env Ω} (h : sop env A (.ixg n (szT P e) (aggT P e) x' i') s k = some out) : PlainV P o s k out := by
  simp only [sop] at h
  split at h
  · rename_i kd j ei
    simp only [ixAgg] at h
    split at h
    · rename_i c ec
      have hh := caseIx_some h
      clear h
      obtain ⟨m, _, hm, rfl, h⟩ := hh
      obtain ⟨hl, h⟩ := cond_some h
      refine ⟨_, h, fun cx w a hg ht => ?_⟩
      have h3 := int_of (ei ▸ eval_coA hi ht)
      have h1 := eval_coA hx ht
      rw [ec] at h1
      simp only [SRep] at h1
      obtain ⟨c', e1, hr⟩ := h1
      have hcl := hr.length
      obtain ⟨v, hv, hsv⟩ := partS_sound (P := P) hr (ft := e) (off := m * szT P e) (okT_ne hk) (fun ha => by
        rw [ha, Bool.false_or] at hl; have := Nat.le_of_ble_eq_true hl; omega)
      have hm' : m < n := by omega
      exact ⟨v, by simp [execOp, ho, e1, h3, Instr.index, asIntOf, run_uT w (t := t) (by rw [hu]; simp), hu, run_szT w (t := e) (by obtain ⟨i, hi, _⟩ := info_of_sz hz; exact ⟨i, hi⟩), hm', hv], hsv⟩
    · simp at h
  · simp at h

theorem snd_ixc {t : TypeId} {x i : Operand} {x' i' : CA} (ho : o.op = .index t x i) (hx : coA x = some x') (hi : coA i = some i') (hu : uT P t = .string)
    {env : Env Ω} (h : sop env A (.ixc x' i') s k = some out) : PlainV P o s k out := by
  simp only [sop] at h
  split at h
  · rename_i kd j ei
    simp only [ixStr] at h
    split at h
    · rename_i str es
      rcases br_some h with ⟨hb, h⟩ | ⟨_, h⟩
      · obtain ⟨b0, b1, b2, b3⟩ := inB_spec hb
        refine ⟨_, h, fun cx w a hg ht => ⟨_, ?_, SRep.int⟩⟩
        have h3 := int_of (ei ▸ eval_coA hi ht)
        have h1 := str_of (es ▸ eval_coA hx ht)
        have hg : str[j.toNat]? = some (str.data.toList.getD j.toNat 0) := by
          have : j.toNat < str.data.size := b1
          rw [List.getD_eq_getElem?_getD]
          simp only [Array.getElem?_toList, Array.getElem?_eq_getElem this, Option.getD_some]
          rw [getElem?_pos str j.toNat b1]; rfl
        simp [execOp, ho, h1, h3, Instr.index, asIntOf, run_uT w (t := t) (by rw [hu]; simp), hu, b0, hg]
      · simp at h
    · simp at h
  · simp at h

theorem snd_ext {x : Operand} {x' : CA} {i : Nat} (ho : o.op = .extract x i) (hx : coA x = some x') {env : Env Ω} (h : sop env A (.ext i x') s k = some out) : PlainV P o s k out := by
  simp only [sop] at h
  split at h
  · rename_i c ec
    obtain ⟨hi, h⟩ := cond_some h
    have hi : i < c.length := Nat.le_of_ble_eq_true hi
    · refine ⟨_, h, fun cx w a hg ht => ?_⟩
      have h1 := eval_coA hx ht
      rw [ec] at h1
      simp only [SRep] at h1
      obtain ⟨c', e1, hr⟩ := h1
      obtain ⟨v, hv, hsv⟩ := hr.get (List.getElem?_eq_getElem hi)
      refine ⟨v, by simp [execOp, ho, e1, Instr.extract, hv], ?_⟩
      rw [List.getD_eq_getElem?_getD, List.getElem?_eq_getElem hi]; exact hsv
  · simp at h
end
end Go.Sx

/- Operations, sixth part: equality, lengths, min and max. -/
namespace Go.Sx

section
variable {P : Program} {A : Ann} {o : Oper} {s : SS} {Ω : Type} {k : SV → List Nat → SS → Option Ω} {out : Ω}

theorem eqS_top (e : EqT) (x : SV) : eqS e .top x = none := by cases e <;> simp [eqS]
theorem eqS_top' (e : EqT) (x : SV) : eqS e x .top = none := by
  cases e <;> cases x <;> simp [eqS]

theorem partS_some {e : EqT} {cx : Cx} {w : World} {c d : List SV} {c' : List Value} (hr : SRepL cx w c c') {ft : TypeId} {off : Nat} {r : Bool}
    (h : eqS e (partS (aggT P ft) (szT P ft) off c) (partS (aggT P ft) (szT P ft) off d) = some r ∨ eqS e (partS (aggT P ft) (szT P ft) off d) (partS (aggT P ft) (szT P ft) off c) = some r) : aggT P ft = false → off < c'.length := by
  intro ha
  rcases Nat.lt_or_ge off c'.length with hl | hl
  · exact hl
  · have hcl := hr.length
    have : c.getD off .top = .top := by rw [List.getD_eq_getElem?_getD, List.getElem?_eq_none (by omega)]; rfl
    simp only [partS, ha, cond_false, this] at h
    rw [eqS_top, eqS_top'] at h
    simp at h

theorem eqT_valid : ∀ {d : Nat} {t : TypeId} {e : EqT}, eqT P d t = some e → uT P t ≠ .invalid
  | 0, _, _, h => by simp [eqT] at h
  | d + 1, t, e, h => by intro e'; simp [eqT, e'] at h

theorem eqFs_shape {f : TypeId → Option EqT} : ∀ {fs : List Field} {e : EqT}, eqFs P f fs = some e → ∀ {x y : SV} {c : Bool}, eqS e x y = some c → ∃ xs ys, x = .agg xs ∧ y = .agg ys
  | [], e, h, x, y, c, h' => by
    simp only [eqFs, Option.some.injEq] at h; subst h
    cases x <;> cases y <;> simp [eqS] at h' <;> exact ⟨_, _, rfl, rfl⟩
  | q :: fs, e, h, x, y, c, h' => by
    simp only [eqFs] at h
    cases hn : (q.name == "_") with
    | true => simp only [hn, cond_true] at h; exact eqFs_shape h h'
    | false =>
      simp only [hn, cond_false] at h
      split at h
      · simp only [Option.some.injEq] at h; subst h
        cases x <;> cases y <;> simp [eqS] at h' <;> exact ⟨_, _, rfl, rfl⟩
      · simp at h

theorem eqFields_run {D d : Nat} (ih : ∀ (t : TypeId) (e : EqT) (x y : SV) (u v : Value) (c : Bool) (cx : Cx) (w : World), eqT P d t = some e → eqS e x y = some c → SRep cx w x u → SRep cx w y v → (Op.equalIn D t u v).run P w = .ok c w)
    {cx : Cx} {w : World} {xs ys : List SV} {us vs : List Value} (hx : SRepL cx w xs us) (hy : SRepL cx w ys vs) :
    ∀ (fs : List Field) (e : EqT) (c : Bool), eqFs P (eqT P d) fs = some e → eqS e (.agg xs) (.agg ys) = some c → (Op.eqFields D ⟨us⟩ ⟨vs⟩ fs).run P w = .ok c w
  | [], e, c, h, h' => by
    simp only [eqFs, Option.some.injEq] at h; subst h
    simp only [eqS, Option.some.injEq] at h'; subst h'
    simp [Op.eqFields]
  | f :: fs, e, c, h, h' => by
    simp only [eqFs] at h
    cases hn : (f.name == "_") with
    | true =>
      simp only [hn, cond_true] at h
      have : f.name = "_" := by simpa using hn
      simp only [Op.eqFields, this, ne_eq, not_true_eq_false, if_false]
      exact eqFields_run ih hx hy fs e c h h'
    | false =>
      simp only [hn, cond_false] at h
      have hne : f.name ≠ "_" := by simpa using hn
      split at h
      · rename_i e1 l1 he1 hl1
        simp only [Option.some.injEq] at h; subst h
        simp only [eqS] at h'
        split at h'
        · rename_i p q hp hq
          simp only [Option.some.injEq] at h'; subst h'
          obtain ⟨v1, hv1, hs1⟩ := partS_sound (P := P) hx (eqT_valid he1) (partS_some hx (.inl hp))
          obtain ⟨v2, hv2, hs2⟩ := partS_sound (P := P) hy (eqT_valid he1) (partS_some hy (.inr hp))
          have h3 := ih f.type e1 _ _ v1 v2 p cx w he1 hp hs1 hs2
          have h4 := eqFields_run ih hx hy fs l1 q hl1 hq
          simp only [Op.eqFields, hne, ne_eq, not_false_eq_true, if_true, Sem.run_bind, hv1, hv2, h3, Result.andThen_ok]
          cases p <;> simp [h4]
        · simp at h'
      · simp at h

theorem base_ptr {D : Nat} {t el : TypeId} {x y : SV} {u v : Value} {c : Bool} {cx : Cx} {w : World} (hu : (underlying t).run P w = .ok (.pointer el) w) (h : eqS .ptr x y = some c) (hx : SRep cx w x u) (hy : SRep cx w y v) :
    (Op.equalIn (D + 1) t u v).run P w = .ok c w := by
  unfold eqS at h
  split at h <;> (try contradiction)
  all_goals (simp only [Option.some.injEq] at h; subst h; simp only [SRep, DRep] at hx hy)
  · simp [Op.equalIn, hu, hx.1, hy.1]
  · simp [Op.equalIn, hu, hx.2, hy.1]
  · simp [Op.equalIn, hu, hx.1, hy.2]
  · simp [Op.equalIn, hu, hx.2.1, hy.1]
  · simp [Op.equalIn, hu, hx.1, hy.2.1]
  · obtain ⟨b, o', hx, _⟩ := hx; simp [Op.equalIn, hu, hx, hy.1]
  · obtain ⟨b, o', hy, _⟩ := hy; simp [Op.equalIn, hu, hx.1, hy]

theorem base_slc {D : Nat} {t el : TypeId} {x y : SV} {u v : Value} {c : Bool} {cx : Cx} {w : World} (hu : (underlying t).run P w = .ok (.slice el) w) (h : eqS .slc x y = some c) (hx : SRep cx w x u) (hy : SRep cx w y v) :
    (Op.equalIn (D + 1) t u v).run P w = .ok c w := by
  unfold eqS at h
  split at h <;> (try contradiction)
  all_goals (simp only [Option.some.injEq] at h; subst h; simp only [SRep, DRep] at hx hy)
  · simp [Op.equalIn, hu, hx.1, hy.1]
  · simp [Op.equalIn, hu, hx.1, hy.1]
  · obtain ⟨a, c', e, _, h⟩ := hx
    obtain ⟨b, o, e1, _⟩ := h (by simp)
    simp [Op.equalIn, hu, e, e1, hy.1]
  · obtain ⟨a, c', e, _, h⟩ := hx
    obtain ⟨b, o, e1, _⟩ := h (by simp)
    simp [Op.equalIn, hu, e, e1, hy.1]
  · simp [Op.equalIn, hu, hx.2, hy.1]

theorem base_fnc {D : Nat} {t : TypeId} {a b : Array TypeId} {va : Bool} {x y : SV} {u v : Value} {c : Bool} {cx : Cx} {w : World} (hu : (underlying t).run P w = .ok (.func a b va) w) (h : eqS .fnc x y = some c) (hx : SRep cx w x u) (hy : SRep cx w y v) :
    (Op.equalIn (D + 1) t u v).run P w = .ok c w := by
  unfold eqS at h
  split at h <;> (try contradiction)
  all_goals (simp only [Option.some.injEq] at h; subst h; simp only [SRep, DRep] at hx hy)
  simp [Op.equalIn, hu, hx.1, hy.1]

theorem base_mp {D : Nat} {t a b : TypeId} {x y : SV} {u v : Value} {c : Bool} {cx : Cx} {w : World} (hu : (underlying t).run P w = .ok (.map a b) w) (h : eqS .mp x y = some c) (hx : SRep cx w x u) (hy : SRep cx w y v) :
    (Op.equalIn (D + 1) t u v).run P w = .ok c w := by
  unfold eqS at h
  split at h <;> (try contradiction)
  all_goals (simp only [Option.some.injEq] at h; subst h; simp only [SRep, DRep] at hx hy)
  · simp [Op.equalIn, hu, hx.1, hy.1]
  · simp [Op.equalIn, hu, hx.2, hy.1]

theorem base_bool {D : Nat} {t : TypeId} {x y : SV} {u v : Value} {c : Bool} {cx : Cx} {w : World} (hu : (underlying t).run P w = .ok .bool w) (h : eqS .bool x y = some c) (hx : SRep cx w x u) (hy : SRep cx w y v) :
    (Op.equalIn (D + 1) t u v).run P w = .ok c w := by
  unfold eqS at h
  split at h <;> (try contradiction)
  all_goals (simp only [Option.some.injEq] at h; subst h; simp only [SRep, DRep] at hx hy)
  simp [Op.equalIn, hu, hx.1, hy.1]

theorem base_str {D : Nat} {t : TypeId} {x y : SV} {u v : Value} {c : Bool} {cx : Cx} {w : World} (hu : (underlying t).run P w = .ok .string w) (h : eqS .str x y = some c) (hx : SRep cx w x u) (hy : SRep cx w y v) :
    (Op.equalIn (D + 1) t u v).run P w = .ok c w := by
  unfold eqS at h
  split at h <;> (try contradiction)
  all_goals (simp only [Option.some.injEq] at h; subst h; simp only [SRep, DRep] at hx hy)
  simp [Op.equalIn, hu, hx.1, hy.1]

theorem base_int {D : Nat} {t : TypeId} {kt : IntKind} {x y : SV} {u v : Value} {c : Bool} {cx : Cx} {w : World} (hu : (underlying t).run P w = .ok (.int kt) w) (h : eqS .int x y = some c) (hx : SRep cx w x u) (hy : SRep cx w y v) :
    (Op.equalIn (D + 1) t u v).run P w = .ok c w := by
  unfold eqS at h
  split at h <;> (try contradiction)
  have hk := cond_some h
  have := kEq_eq hk.1
  have hk := hk.2
  simp only [Option.some.injEq] at hk
  have h1 := int_of hx; have h2 := int_of hy
  subst h1; subst h2; subst hk; subst this
  simp [Op.equalIn, hu]

theorem eqS_run : ∀ (d D : Nat), d ≤ D → ∀ (t : TypeId) (e : EqT) (x y : SV) (u v : Value) (c : Bool) (cx : Cx) (w : World), eqT P d t = some e → eqS e x y = some c → SRep cx w x u → SRep cx w y v → (Op.equalIn D t u v).run P w = .ok c w
  | 0, _, _, t, e, x, y, u, v, c, cx, w, h, _, _, _ => by simp [eqT] at h
  | d + 1, 0, hD, _, _, _, _, _, _, _, _, _, _, _, _, _ => by omega
  | d + 1, D + 1, hD, t, e, x, y, u, v, c, cx, w, h, h', hx, hy => by
    have hv := eqT_valid h
    have hu := run_uT w hv
    simp only [eqT] at h
    split at h <;> (try (simp at h; done))
    case h_8 fs he =>
      obtain ⟨hs, hfs⟩ : P.stoodInHeld t = false ∧ eqFs P (eqT P d) fs.toList = some e := by
        cases hq : P.stoodInHeld t with
        | true => simp [hq] at h
        | false => simp only [hq, cond_false] at h; exact ⟨rfl, h⟩
      obtain ⟨xs, ys, rfl, rfl⟩ := eqFs_shape hfs h'
      simp only [SRep] at hx hy
      obtain ⟨us, rfl, hx⟩ := hx
      obtain ⟨vs, rfl, hy⟩ := hy
      have hund : P.underlying t = some (.struct fs) := by rw [← he]; exact (info_of_uT hv).1
      have hfo : P.fieldsOf t = fs := by simp [Program.fieldsOf, hund]
      rw [run_equalIn_struct w D t ⟨us⟩ ⟨vs⟩ (by rw [hfo]; exact hund) hs, hfo]
      exact eqFields_run (fun t e x y u v c cx w => eqS_run d D (by omega) t e x y u v c cx w) hx hy _ e c hfs h'
    all_goals
      rename_i he
      simp only [Option.some.injEq] at h; subst h
      rw [he] at hu
    · exact base_bool hu h' hx hy
    · exact base_int hu h' hx hy
    · exact base_str hu h' hx hy
    · exact base_ptr hu h' hx hy
    · exact base_slc hu h' hx hy
    · exact base_fnc hu h' hx hy
    · exact base_mp hu h' hx hy

/-- binOp at '==' and '!=' over what eqS compares. -/
theorem binOp_eq {t : TypeId} {e : EqT} {x y : SV} {u v : Value} {c : Bool} {cx : Cx} {w : World} (ht : eqT P 20 t = some e) (h : eqS e x y = some c) (hx : SRep cx w x u) (hy : SRep cx w y v) :
    (binOp .eql t u v).run P w = .ok (.bool c) w ∧ (binOp .neq t u v).run P w = .ok (.bool (!c)) w := by
  have hr := eqS_run 20 10000 (by omega) t e x y u v c cx w ht h hx hy
  have key : (Op.equal t u v).run P w = .ok c w := hr
  unfold eqS at h
  split at h <;> (try (simp at h; done))
  case h_2 =>
    have h1 := int_of hx; have h2 := int_of hy
    have hk := cond_some h
    have := kEq_eq hk.1
    have hk := hk.2
    simp only [Option.some.injEq] at hk
    subst h1; subst h2; subst this; subst c
    constructor
    · simp [binOp, Op.intCmp]
    · simp [binOp, Op.intCmp, bne]
  case h_3 =>
    have h1 := str_of hx; have h2 := str_of hy
    simp only [Option.some.injEq] at h
    subst h1; subst h2; subst h
    constructor
    · simp [binOp, Op.stringOp, beq_toListBytes]
    · simp [binOp, Op.stringOp, beq_toListBytes]
  all_goals (simp only [SRep, DRep] at hx hy)
  all_goals first
    | (obtain ⟨a, c', hx, _, h9⟩ := hx; obtain ⟨b9, o9, h10, _⟩ := h9 (by simp); rw [hx, h10, hy.1] at key ⊢; (try generalize List.length _ = mm at key ⊢); constructor <;> (simp only [binOp]; simp [key]); done)
    | (rw [hx.1, hy.1] at key ⊢; constructor <;> (simp only [binOp]; simp [key]); done)
    | (rw [hx.2, hy.1] at key ⊢; constructor <;> (simp only [binOp]; simp [key]); done)
    | (rw [hx.1, hy.2] at key ⊢; constructor <;> (simp only [binOp]; simp [key]); done)
    | (rw [hx.2.1, hy.1] at key ⊢; constructor <;> (simp only [binOp]; simp [key]); done)
    | (rw [hx.1, hy.2.1] at key ⊢; constructor <;> (simp only [binOp]; simp [key]); done)
    | (obtain ⟨b, o', hx, _⟩ := hx; rw [hx, hy.1] at key ⊢; constructor <;> (simp only [binOp]; simp [key]); done)
    | (obtain ⟨b, o', hy, _⟩ := hy; rw [hx.1, hy] at key ⊢; constructor <;> (simp only [binOp]; simp [key]); done)
    | (obtain ⟨b, hx, _⟩ := hx; obtain ⟨d, hy, _⟩ := hy; rw [hx, hy] at key ⊢; constructor <;> (simp only [binOp]; simp [key]); done)

theorem run_guard {op : BinOp} {t : TypeId} {x y : Operand} {p q : Value} {w : World} (hg : P.eqGuardType P.depth t = false) (hne : ¬ p = .nilIface) : (eqGuard op t x y p q).run P w = .ok () w := by
  by_cases ha : ∃ c, p = .agg c
  · obtain ⟨c, rfl⟩ := ha
    by_cases hb : ∃ d, q = .agg d
    · obtain ⟨d, rfl⟩ := hb; exact run_eqGuard_agg w op t x y c d hg
    · cases q <;> first | exact absurd ⟨_, rfl⟩ hb | (simp only [eqGuard]; split <;> rfl)
  · cases p <;> first | exact absurd rfl hne | exact absurd ⟨_, rfl⟩ ha | (simp only [eqGuard]; split <;> rfl)

theorem snd_eq {t u : TypeId} {neg : Bool} {x y : Operand} {x' y' : CA} {e : EqT} (ho : o.op = .binOp (bif neg then .neq else .eql) t x y u) (hx : coA x = some x') (hy : coA y = some y')
    (he : eqT P 20 t = some e) (hg : P.eqGuardType P.depth t = false) {env : Env Ω} (h : sop env A (.eq e neg x' y') s k = some out) : PlainV P o s k out := by
  simp only [sop] at h
  split at h
  · rename_i c hc
    refine ⟨_, h, fun cx w a hG ht => ⟨_, ?_, SRep.bool⟩⟩
    obtain ⟨h1, h2⟩ := binOp_eq (P := P) he hc (eval_coA hx ht) (eval_coA hy ht)
    have hne : ¬ (a.eval x = .nilIface) := by
      intro e'
      have hv := eval_coA hx ht
      rw [e'] at hv
      generalize ev s.t x' = q at hv hc
      cases q with
      | d q =>
        cases q <;> simp only [SRep, DRep] at hv
        · obtain ⟨rfl, _⟩ := hv
          cases e <;> simp [eqS] at hc
        · obtain ⟨_, _, hv, _⟩ := hv; simp at hv
        · obtain ⟨_, _, hv, _⟩ := hv; simp at hv
      | rp sz f o => simp only [SRep] at hv; obtain ⟨_, _, hv, _⟩ := hv; simp at hv
      | top => rw [eqS_top] at hc; simp at hc
      | fn g a b => simp only [SRep] at hv; obtain ⟨_, _, hv, _⟩ := hv; simp at hv
      | agg c => simp only [SRep] at hv; obtain ⟨_, hv, _⟩ := hv; simp at hv
      | tup c => simp only [SRep] at hv; obtain ⟨_, hv, _⟩ := hv; simp at hv
      | _ => simp [SRep] at hv
    have hgu : ∀ op, (eqGuard op t x y (a.eval x) (a.eval y)).run P w = .ok () w := fun op => run_guard hg hne
    cases neg with
    | true => simp [execOp, ho, hgu, h2]
    | false => simp [execOp, ho, hgu, h1]
  · simp at h
end
end Go.Sx
