/- Operations, third part: stores. -/
import Derived.Test.YtpnnnklahanecaaSxOps2
namespace Go.Sx

theorem frzL_sound {w : World} : ∀ {xs ys : List SV} {h h1 : SH} {cx : Cx} {us : List Value}, Gam cx h w → SRepL cx w xs us → frzL h xs = some (ys, h1) →
    ∃ cx1, Gam cx1 h1 w ∧ Grow0 cx w cx1 w ∧ SRepL cx1 w ys us ∧ cx1.th = cx.th ∧ cx1.nl = cx.nl
  | [], ys, h, h1, cx, us, g, hr, hf => by
    simp only [frzL, Option.some.injEq, Prod.mk.injEq] at hf; obtain ⟨rfl, rfl⟩ := hf
    exact ⟨cx, g, Grow.refl _ _ _, hr, rfl, rfl⟩
  | x :: r, ys, h, h1, cx, u :: us, g, hr, hf => by
    simp only [frzL] at hf
    simp only [SRepL] at hr
    split at hf
    · rename_i y h2 h3
      split at hf
      · rename_i zs h4 h5
        simp only [Option.some.injEq, Prod.mk.injEq] at hf; obtain ⟨rfl, rfl⟩ := hf
        obtain ⟨cx1, g1, gr1, hy, e1, e2⟩ := frz_sound g hr.1 h3
        obtain ⟨cx2, g2, gr2, hz, e3, e4⟩ := frzL_sound (h := h2) g1 (hr.2.grow gr1) h5
        refine ⟨cx2, g2, gr1.trans gr2, ?_, by rw [e3, e1], by rw [e4, e2]⟩
        simp only [SRepL]; exact ⟨hy.grow gr2, hz⟩
      · simp at hf
    · simp at hf
  | _ :: _, _, _, _, _, [], _, hr, _ => by simp [SRepL] at hr

theorem setRow_get (w : World) (g : Nat) (cs cur : Array Value) (t : TypeId) (h : w.heap[g]? = some (.cells cur t (0, 0))) : (w.setRow g cs).heap[g]? = some (.cells cs t (0, 0)) := setRow_heap w g cur cs t (0, 0) h
theorem setRow_ne (w : World) (g b : Nat) (cs : Array Value) (h : b ≠ g) : (w.setRow g cs).heap[b]? = w.heap[b]? := by
  simp [World.setRow, Array.getElem?_modify, Ne.symm h]
theorem setRow_size (w : World) (g : Nat) (cs : Array Value) : (w.setRow g cs).heap.size = w.heap.size := by simp [World.setRow]

theorem frozen_setRow (w : World) (g : Nat) (cs : Array Value) (a : Addr) : (w.setRow g cs).frozen? a = w.frozen? a := by
  simp only [World.frozen?, World.setRow, Array.getElem?_modify]
  by_cases h : g = a.block
  · subst h
    simp only [if_true]
    cases w.heap[a.block]? with
    | none => rfl
    | some o => cases o <;> rfl
  · simp [h]

theorem Io.setRow (w : World) (g : Nat) (cs : Array Value) : Io w (w.setRow g cs) := ⟨rfl, rfl, frozen_setRow w g cs⟩

/-- What sto writes, storeCells does. -/
theorem sto_sound {P : Program} {cx : Cx} {h h' : SH} {w : World} (g : Gam cx h w) {p : SV} {u : Value} (hp : SRep cx w p u) {xs : List SV} {vs : List Value}
    (hx : SRepL cx w xs vs) (h1 : ∀ v ∈ vs, v.oneCell' = true) (hne : xs ≠ []) (hs : sto h p xs = some h') :
    ∃ a w' cx', u = .pointer (some a) ∧ (storeCells a vs).run P w = .ok () w' ∧ Gam cx' h' w' ∧ Grow0 cx w cx' w' := by
  cases p with
  | ptr l o =>
    simp only [sto] at hs
    simp only [SRep] at hp
    obtain ⟨hn, rfl⟩ := hp
    have ho := g.obj l
    split at hs
    · rename_i t cs hg
      rw [hg] at ho
      obtain ⟨t', c', hh, hr⟩ := ho
      cases hb : Nat.ble (o + xs.length) cs.length with
      | false => simp [hb] at hs
      | true =>
        simp only [hb, cond_true, Option.some.injEq] at hs; subst hs
        have hle := Nat.le_of_ble_eq_true hb
        have hxl := hx.length
        have hcl := hr.length
        have hst := run_storeCells_at P (cx.th l) o t' vs 0 ⟨c'⟩ w hh (by simp; omega) h1
        have hv : liv cx h l := by simp [liv, hg]
        refine ⟨_, _, cx, rfl, hst, ?_⟩
        refine Gam.write g hv _ (.inl ?_) (setRow_size _ _ _) (fun b hbn => setRow_ne _ _ _ _ hbn) ⟨t', _, setRow_get w _ _ _ t' hh, ?_⟩ (Io.setRow _ _ _)
        · simp [liv, hget_set_eq (lt_of_liv hv)]
        · simp only [Nat.add_zero, ← hxl, List.append_assoc]
          exact (SRepL.append (hr.take o) (hx.append (hr.drop _))).mono (p := fun _ => false) ⟨fun _ h => h, fun b hbf => setRow_ne _ _ _ _ (fun (e : b = cx.th l) => g.own l hv (e ▸ hbf)), by rw [setRow_size]; exact Nat.le_refl _, fun _ h _ => ⟨h, rfl, rfl, rfl, rfl, rfl⟩, rfl, Io.setRow _ _ _⟩ _ _ (mentL_none _)
    · simp at hs
  | pe l i o =>
    simp only [sto] at hs
    split at hs
    · simp at hs
    · rename_i ys h2 hfz
      obtain ⟨cx1, g1, gr1, hy, eth, enl⟩ := frzL_sound (h := h) g hx hfz
      simp only [SRep] at hp
      obtain ⟨hn, rfl, hi, hnl⟩ := hp
      obtain ⟨hn1, e1, e2, e3, e4, e5⟩ := gr1.loc l hn rfl
      have ho := g1.obj l
      have hyl := hy.length
      have hxl := hx.length
      split at hs
      · rename_i t sz n f hg
        rw [hg] at ho
        obtain ⟨hln, hrs, hcp, _, hh⟩ := ho
        rw [← e4] at hnl
        obtain ⟨t', c', hh, hsz, hr⟩ := hh hnl
        cases hb : Nat.ble (o + ys.length) sz with
        | false => simp [hb] at hs
        | true =>
          simp only [hb, cond_true] at hs
          have hle := Nat.le_of_ble_eq_true hb
          split at hs
          · rename_i ds hds
            simp only [Option.some.injEq] at hs; subst hs
            obtain ⟨hdl, hd⟩ := hy.toD hds
            have hv : liv cx1 h2 l := by simp [liv, hg, hnl]
            rw [← e1, ← e5, hrs]
            rw [← e2, hln] at hi
            have hsp : i * sz + sz ≤ c'.size := by
              have : (i + 1) * sz ≤ cx1.cp l * sz := Nat.mul_le_mul_right _ (by omega)
              rw [Nat.add_mul, Nat.one_mul] at this; omega
            have hst := run_storeCells_at P (cx1.th l) (i * sz + o) t' vs 0 c' w hh (by omega) h1
            refine ⟨_, _, cx1, rfl, hst, ?_⟩
            have hW := Gam.write (w' := w.setRow (cx1.th l) (c'.toList.take (i * sz + o + 0) ++ vs ++ c'.toList.drop (i * sz + o + 0 + vs.length)).toArray) g1 hv (.row t sz n (updRow f i o ds)) (.inl ?_) (setRow_size _ _ _) (fun b hbn => setRow_ne _ _ _ _ hbn) ?_ (Io.setRow _ _ _)
            · exact ⟨hW.1, gr1.trans hW.2⟩
            · simp [liv, hget_set_eq (lt_of_liv hv), hnl]
            · refine ⟨hln, hrs, hcp, fun e => by simp [hnl] at e, fun _ => ⟨t', _, setRow_get w _ _ _ t' hh, ?_, fun i' hi' j hj => ?_⟩⟩
              · simp; omega
              · have grw : ∀ b, cx1.fz b → (w.setRow (cx1.th l) (c'.toList.take (i * sz + o + 0) ++ vs ++ c'.toList.drop (i * sz + o + 0 + vs.length)).toArray).heap[b]? = w.heap[b]? := fun b hbf => setRow_ne _ _ _ _ (fun e => g1.own l hv (e ▸ .inl hbf))
                by_cases hij : i' = i ∧ o ≤ j ∧ j < o + ds.length
                · obtain ⟨rfl, h3, h4⟩ := hij
                  obtain ⟨v, hv1, hv2⟩ := hd (j - o) (by omega)
                  refine ⟨v, ?_, ?_⟩
                  · simp only [Nat.add_zero, List.getElem?_toArray]
                    rw [List.append_assoc, List.getElem?_append_right (by simp; omega), List.getElem?_append_left (by simp; omega)]
                    rw [List.length_take, Array.length_toList, Nat.min_eq_left (by omega)]
                    rw [show i' * sz + j - (i' * sz + o) = j - o by omega]; exact hv1
                  · have : updRow f i' o ds i' j = ds.getD (j - o) (.v undef) := by
                      simp [updRow, Nat.ble_eq_true_of_le h3, Nat.blt, Nat.ble_eq_true_of_le (show j + 1 ≤ o + ds.length by omega)]
                    rw [this]
                    exact DRep.mono (fun _ h => h) grw _ _ hv2
                · obtain ⟨x, hx1, hx2⟩ := hr i' hi' j hj
                  have hout : i' * sz + j < i * sz + o ∨ i * sz + o + vs.length ≤ i' * sz + j := by
                    rcases Nat.lt_trichotomy i' i with h5 | h5 | h5
                    · left
                      have : (i' + 1) * sz ≤ i * sz := Nat.mul_le_mul_right _ (by omega)
                      rw [Nat.add_mul, Nat.one_mul] at this; omega
                    · subst h5
                      rcases Nat.lt_or_ge j o with h6 | h6
                      · left; omega
                      · right
                        have : o + ds.length ≤ j := by
                          rcases Nat.lt_or_ge j (o + ds.length) with h7 | h7
                          · exact absurd ⟨rfl, h6, h7⟩ hij
                          · exact h7
                        omega
                    · right
                      have : (i + 1) * sz ≤ i' * sz := Nat.mul_le_mul_right _ (by omega)
                      rw [Nat.add_mul, Nat.one_mul] at this; omega
                  refine ⟨x, ?_, ?_⟩
                  · simp only [Nat.add_zero, List.getElem?_toArray]
                    have hx1' : c'.toList[i' * sz + j]? = some x := by simpa using hx1
                    rcases hout with h5 | h5
                    · rw [List.append_assoc, List.getElem?_append_left (by have := (Array.getElem?_eq_some_iff.1 hx1).1; simp; omega), List.getElem?_take, if_pos h5]; exact hx1'
                    · rw [List.getElem?_append_right (by simp; omega), List.getElem?_drop]
                      have : i * sz + o + vs.length + (i' * sz + j - (List.take (i * sz + o) c'.toList ++ vs).length) = i' * sz + j := by simp; omega
                      rw [this]; exact hx1'
                  · have : updRow f i o ds i' j = f i' j := by
                      unfold updRow
                      have : (Nat.beq i' i && (Nat.ble o j && Nat.blt j (o + ds.length))) = false := by
                        rw [Bool.eq_false_iff]; intro hc
                        simp only [Bool.and_eq_true] at hc
                        exact hij ⟨Nat.eq_of_beq_eq_true hc.1, Nat.le_of_ble_eq_true hc.2.1, Nat.le_of_ble_eq_true hc.2.2⟩
                      rw [this]; rfl
                    rw [this]
                    exact DRep.mono (fun _ h => h) grw _ _ hx2
          · simp at hs
      · rename_i t k xs' hg
        rw [hg] at ho
        obtain ⟨hln, hrs, hcp, _, hh⟩ := ho
        rw [← e4] at hnl
        obtain ⟨t', c', hh, hsz, hr⟩ := hh hnl
        split at hs
        · rename_i k' x
          cases hb : (Nat.beq o 0 && kEq k k') with
          | false => simp [hb] at hs
          | true =>
            simp only [hb, cond_true, Option.some.injEq] at hs; subst hs
            simp only [Bool.and_eq_true] at hb
            have h0 : o = 0 := Nat.eq_of_beq_eq_true hb.1
            have hk := kEq_eq hb.2
            subst h0; subst hk
            match vs, hy, h1, hyl, hxl with
            | [v], hy, h1, _, _ =>
            simp only [SRepL, SRep, DRep] at hy
            obtain ⟨⟨rfl, _⟩, _⟩ := hy
            have hv : liv cx1 h2 l := by simp [liv, hg, hnl]
            rw [← e1, ← e5, hrs]
            rw [← e2, hln] at hi
            have hst := run_storeCells_at P (cx1.th l) (i * 1 + 0) t' [.int k x] 0 c' w hh (by simp; omega) h1
            refine ⟨_, _, cx1, rfl, hst, ?_⟩
            have hW := Gam.write (w' := w.setRow (cx1.th l) (c'.toList.take (i * 1 + 0 + 0) ++ [Value.int k x] ++ c'.toList.drop (i * 1 + 0 + 0 + [Value.int k x].length)).toArray) g1 hv (.rowi t k (xs'.set i x)) (.inl ?_) (setRow_size _ _ _) (fun b hbn => setRow_ne _ _ _ _ hbn) ?_ (Io.setRow _ _ _)
            · exact ⟨hW.1, gr1.trans hW.2⟩
            · simp [liv, hget_set_eq (lt_of_liv hv), hnl]
            · refine ⟨by simpa using hln, hrs, by simpa using hcp, fun e => by simp [hnl] at e, fun _ => ⟨t', _, setRow_get w _ _ _ t' hh, ?_, fun j hj => ?_⟩⟩
              · simp; omega
              · simp only [Nat.mul_one, Nat.add_zero, List.getElem?_toArray, List.length_singleton]
                simp only [List.length_set] at hj
                have hrj := hr j hj
                have hrj' : c'.toList[j]? = some (.int k (xs'.getD j 0)) := by simpa using hrj
                rcases Nat.lt_trichotomy j i with h5 | h5 | h5
                · rw [List.append_assoc, List.getElem?_append_left (by simp; omega), List.getElem?_take, if_pos h5, hrj']
                  simp [List.getD_eq_getElem?_getD, List.getElem?_set_ne (show i ≠ j by omega)]
                · subst h5
                  have hjc : j ≤ c'.size := by omega
                  rw [List.append_assoc, List.getElem?_append_right (by simp; omega)]
                  simp [List.getD_eq_getElem?_getD, hj, Nat.min_eq_left hjc]
                · rw [List.getElem?_append_right (by simp; omega), List.getElem?_drop]
                  have : i + 1 + (j - (List.take i c'.toList ++ [Value.int k x]).length) = j := by simp; omega
                  rw [this, hrj']
                  simp [List.getD_eq_getElem?_getD, List.getElem?_set_ne (show i ≠ j by omega)]
        · simp at hs
      · simp at hs
  | _ => simp [sto] at hs

theorem snd_st {P : Program} {o : Oper} {p x : Operand} {q y : CA} {t : TypeId} {s : SS} {c : List SV} {h' : SH} (ho : o.op = .store t p x) (hp : coA p = some q) (hx : coA x = some y)
    (hz : szT P t ≠ 0) (hc : cellsOf (ev s.t y) = some c) (hl : c.length = szT P t) (hs : sto s.h (ev s.t q) c = some h') : OpOK0 P o s .top ⟨s.t, h'⟩ := by
  intro cx w a hg ht next Q hk
  obtain ⟨c', e, hr, h1⟩ := cellsOf_sound hc (eval_coA hx ht)
  obtain ⟨ad', w', cx', hpe, hrun, hg', gr⟩ := sto_sound (P := P) hg (eval_coA hp ht) hr h1 (by intro e; simp [e] at hl; exact hz hl.symm) hs
  have hlen : c'.length = szT P t := by rw [← hr.length, hl]
  have : (execOp a.eval o).run P w = .ok .skip w' := by
    simp [execOp, ho, Instr.storeAt, hpe, Instr.sureAddr, storeVar, run_szT w (t := t) (by obtain ⟨i, hi, _⟩ := info_of_sz hz; exact ⟨i, hi⟩), e, hlen, hrun]
  unfold Oper.wp
  rw [this, Oper.upon_skip]
  exact hk cx' w' undef gr (by simp [SRep]) (ht.grow gr) hg'
end Go.Sx
