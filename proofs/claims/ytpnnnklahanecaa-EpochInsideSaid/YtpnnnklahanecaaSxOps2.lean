/- Operations, second part: what is written and made. -/
import Derived.Test.YtpnnnklahanecaaSxOps
namespace Go.Sx

theorem kEq_eq {a b : IntKind} (h : kEq a b = true) : a = b := by cases a <;> cases b <;> first | rfl | simp [kEq] at h

/-! ### cells of a value -/
theorem one_of_isCell {cx : Cx} {w : World} {x : SV} {u : Value} (h : isCell x = true) (hr : SRep cx w x u) : u.oneCell' = true := by
  cases x with
  | d x =>
    simp only [SRep] at hr
    cases x with
    | v y => obtain ⟨rfl, hc⟩ := hr; cases u <;> simp_all [cellV, Value.oneCell']
    | ints k l => obtain ⟨a, c, rfl, _⟩ := hr; rfl
    | sl sz n f => obtain ⟨a, c, rfl, _⟩ := hr; rfl
  | ptr l o => simp only [SRep] at hr; rw [hr.2]; rfl
  | pe l i o => simp only [SRep] at hr; rw [hr.2.1]; rfl
  | rp sz f o => simp only [SRep] at hr; obtain ⟨b, o', rfl, _⟩ := hr; rfl
  | own l => simp only [SRep] at hr; rw [hr.2]; rfl
  | cs l o sz n c => simp only [SRep] at hr; rw [hr.2]; rfl
  | mp l => simp only [SRep] at hr; rw [hr.2]; rfl
  | fn g a b => simp only [SRep] at hr; obtain ⟨a', b', rfl, _⟩ := hr; rfl
  | agg c => simp [isCell] at h
  | tup c => simp [isCell] at h
  | top => simp [isCell] at h

theorem one_of_all {cx : Cx} {w : World} : ∀ {c : List SV} {c' : List Value}, allCells c = true → SRepL cx w c c' → ∀ v ∈ c', v.oneCell' = true
  | [], [], _, _, v, hv => by simp at hv
  | x :: r, y :: vs, h, hr, v, hv => by
    simp only [allCells, Bool.and_eq_true, SRepL] at h hr
    rcases List.mem_cons.1 hv with rfl | hv
    · exact one_of_isCell h.1 hr.1
    · exact one_of_all h.2 hr.2 v hv
  | [], _ :: _, _, h, _, _ => by simp [SRepL] at h
  | _ :: _, [], _, h, _, _ => by simp [SRepL] at h

theorem cells_of_one {u : Value} (h : u.oneCell' = true) : u.cells = #[u] := by cases u <;> simp_all [Value.oneCell', Value.cells]

theorem cellsOf_sound {cx : Cx} {w : World} {x : SV} {u : Value} {c : List SV} (h : cellsOf x = some c) (hr : SRep cx w x u) :
    ∃ c', u.cells = ⟨c'⟩ ∧ SRepL cx w c c' ∧ ∀ v ∈ c', v.oneCell' = true := by
  by_cases hag : ∃ cs, x = .agg cs
  · obtain ⟨cs, rfl⟩ := hag
    simp only [cellsOf] at h
    cases ha : allCells cs with
    | false => simp [ha] at h
    | true =>
      simp only [ha, cond_true, Option.some.injEq] at h; subst h
      simp only [SRep] at hr
      obtain ⟨c', rfl, hr⟩ := hr
      exact ⟨c', rfl, hr, one_of_all ha hr⟩
  · have e : cellsOf x = (bif isCell x then some [x] else none) := by
      cases x <;> first | rfl | exact absurd ⟨_, rfl⟩ hag
    rw [e] at h
    cases hi : isCell x with
    | false => simp [hi] at h
    | true =>
      simp only [hi, cond_true, Option.some.injEq] at h; subst h
      have h1 := one_of_isCell hi hr
      exact ⟨[u], cells_of_one h1, by simp only [SRepL]; exact ⟨hr, trivial⟩, fun v hv => by simp at hv; subst hv; exact h1⟩

/-! ### making -/
theorem OpOK0.new {P : Program} {o : Oper} {s : SS} {v : SV} {so : SO}
    (h : ∀ (cx : Cx) (w : World) (a : Act), Gam cx s.h w → TRep cx w s.t a.tmps → ∃ (v' : Value) (w0 : World) (ob : Obj) (ln cp : Nat) (nl : Bool) (rs : Nat), (w0.heap = w.heap ∧ w0.os = w.os ∧ w0.output = w.output ∧ ∃ c t, ob = .cells c t (0, 0)) ∧
      (execOp a.eval o).run P w = .ok (.value v') { w0 with heap := w0.heap.push ob } ∧
      (∀ cx' w', cx' = cx.ext w.heap.size ln cp nl rs → w' = { w0 with heap := w0.heap.push ob } → Grow0 cx w cx' w' → ORep cx' w' cx.n so ∧ SRep cx' w' v v')) :
    OpOK0 P o s v ⟨s.t, s.h ++ [so]⟩ := by
  intro cx w a hg ht next Q hk
  obtain ⟨v', w0, ob, ln, cp, nl, rs, ⟨hh, hh1, hh2, hob⟩, hr, hb⟩ := h cx w a hg ht
  obtain ⟨hg0, g0⟩ := Gam.world hg (w' := w0) hh hh1 hh2
  have e : w0.heap.size = w.heap.size := by rw [hh]
  have gr : Grow0 cx w (cx.ext w.heap.size ln cp nl rs) { w0 with heap := w0.heap.push ob } := g0.trans (Grow.ext cx w0 ob w.heap.size ln cp nl rs hg0.fzlt hob)
  obtain ⟨h1, h2⟩ := hb _ _ rfl rfl gr
  have hp := Gam.push hg0 so ob ln cp nl rs hob (by rw [e]; exact h1)
  rw [e] at hp
  unfold Oper.wp
  rw [hr, Oper.upon_value]
  exact hk _ _ v' gr h2 (ht.grow gr) hp.1

theorem zcT_sound {P : Program} {t : TypeId} {z : List SV} (h : zcT P t = some z) : ∃ i zv c', P.info? t = some i ∧ i.zero = some zv ∧ zv.cells = ⟨c'⟩ ∧ z.length = szT P t ∧ i.size = szT P t ∧
    ∀ cx w, SRepL cx w z c' ∧ ∀ v ∈ c', v.oneCell' = true := by
  unfold zcT zT at h
  cases hi : P.info? t with
  | none => simp [hi] at h
  | some i =>
    cases hz : i.zero with
    | none => simp [hi, hz] at h
    | some zv =>
      simp only [hi, hz] at h
      cases hc : cellsOf (cst zv) with
      | none => simp [hc] at h
      | some c =>
        simp only [hc] at h
        cases hb : Nat.beq c.length (szT P t) with
        | false => simp [hb] at h
        | true =>
          simp only [hb, cond_true, Option.some.injEq] at h; subst h
          have hs : ∀ cx w, ∃ c', zv.cells = ⟨c'⟩ ∧ SRepL cx w c c' ∧ ∀ v ∈ c', v.oneCell' = true := fun cx w => cellsOf_sound hc (SRep.cst zv)
          refine ⟨i, zv, zv.cells.toList, rfl, hz, by simp, Nat.eq_of_beq_eq_true hb, by simp [szT, hi], fun cx w => ?_⟩
          obtain ⟨c', e, h1, h2⟩ := hs cx w
          rw [e]; exact ⟨h1, h2⟩

theorem snd_newc {P : Program} {o : Oper} {t : TypeId} {s : SS} {z : List SV} (ho : o.op = .alloc t) (hz : zcT P t = some z) :
    OpOK0 P o s (.ptr s.h.length 0) ⟨s.t, s.h ++ [.cells t z]⟩ := by
  refine OpOK0.new fun cx w a hg ht => ?_
  obtain ⟨i, zv, c', hi, hzv, hc, _, _, hr⟩ := zcT_sound hz
  refine ⟨.pointer (some (ad w.heap.size 0)), w, .cells zv.cells t, 0, 0, false, 0, ⟨rfl, rfl, rfl, _, _, rfl⟩, ?_, fun cx' w' e1 e2 _ => ?_⟩
  · simp [execOp, ho, Instr.alloc, zeroValue, typeInfo, hi, hzv, newVar, newRow, ad]
  · subst e1; subst e2
    refine ⟨⟨t, c', by simp [Cx.ext, hc], (hr _ _).1⟩, ?_⟩
    simp only [SRep, Cx.ext, hg.n]; simp [← hg.n]

theorem snd_box {P : Program} {o : Oper} {t : TypeId} {x : Operand} {y : CA} {s : SS} {c : List SV} (ho : o.op = .box t x) (hc : coA x = some y) (hz : cellsOf (ev s.t y) = some c) :
    OpOK0 P o s (.ptr s.h.length 0) ⟨s.t, s.h ++ [.cells t c]⟩ := by
  refine OpOK0.new fun cx w a hg ht => ?_
  obtain ⟨c', e, hr, _⟩ := cellsOf_sound hz (eval_coA hc ht)
  refine ⟨.pointer (some (ad w.heap.size 0)), w, .cells (a.eval x).cells t, 0, 0, false, 0, ⟨rfl, rfl, rfl, _, _, rfl⟩, ?_, fun cx' w' e1 e2 gr => ?_⟩
  · simp [execOp, ho, Instr.box, newVar, newRow, ad]
  · refine ⟨⟨t, c', by subst e1; subst e2; simp [Cx.ext, e], hr.grow gr⟩, ?_⟩
    subst e1; subst e2
    simp only [SRep, Cx.ext, hg.n]; simp [← hg.n]

/-! ### writing -/
theorem SRepL.toD {cx : Cx} {w : World} : ∀ {ys : List SV} {ds : List DV} {vs : List Value}, asDs ys = some ds → SRepL cx w ys vs → ds.length = vs.length ∧ ∀ j, j < ds.length → ∃ v, vs[j]? = some v ∧ DRep cx.fz w (ds.getD j (.v undef)) v
  | [], ds, [], h, _ => by simp [asDs] at h; subst h; simp
  | x :: r, ds, v :: vs, h, hr => by
    cases x with
    | d x =>
      simp only [asDs] at h
      split at h
      · rename_i l hl
        simp only [Option.some.injEq] at h; subst h
        simp only [SRepL, SRep] at hr
        obtain ⟨h1, h2⟩ := SRepL.toD hl hr.2
        refine ⟨by simp [h1], fun j hj => ?_⟩
        cases j with
        | zero => exact ⟨v, rfl, by simpa using hr.1⟩
        | succ j => simpa using h2 j (by simpa using hj)
      · simp at h
    | _ => simp [asDs] at h
  | [], _, _ :: _, _, h => by simp [SRepL] at h
  | _ :: _, _, [], _, h => by simp [SRepL] at h

theorem frz_sound {cx : Cx} {h h1 : SH} {w : World} (g : Gam cx h w) {x y : SV} {u : Value} (hx : SRep cx w x u) (hf : frz h x = some (y, h1)) :
    ∃ cx1, Gam cx1 h1 w ∧ Grow0 cx w cx1 w ∧ SRep cx1 w y u ∧ cx1.th = cx.th ∧ cx1.nl = cx.nl := by
  cases x with
  | own l =>
    simp only [frz] at hf
    simp only [SRep] at hx
    obtain ⟨hn, rfl⟩ := hx
    have ho := g.obj l
    split at hf
    · rename_i t k xs hg
      simp only [Option.some.injEq, Prod.mk.injEq] at hf; obtain ⟨rfl, rfl⟩ := hf
      rw [hg] at ho
      obtain ⟨hln, hrs, hcp, hz, hh⟩ := ho
      cases hnl : cx.nl l with
      | true =>
        refine ⟨cx, g.killNil (by simp [liv, hg, hnl]), Grow.refl _ _ _, ?_, rfl, rfl⟩
        have := hz hnl
        have h0 : xs.length = 0 := by omega
        simp only [SRep, DRep, cond_true, hln]
        exact ⟨_, _, rfl, hcp, fun hne => absurd (List.length_eq_zero_iff.1 h0) hne⟩
      | false =>
        have hv : liv cx h l := by simp [liv, hg, hnl]
        obtain ⟨hG, gr⟩ := g.kill hv
        obtain ⟨t', c', hb, hs, hr⟩ := hh hnl
        refine ⟨_, hG, gr, ?_, rfl, rfl⟩
        simp only [SRep, DRep, cond_false, hln]
        refine ⟨_, _, rfl, hcp, fun _ => ⟨cx.th l, 0, rfl, .inr rfl, fun i hi => ?_⟩⟩
        simp [World.cell?, ad, hb, hr i hi]
    · rename_i t sz n f hg
      simp only [Option.some.injEq, Prod.mk.injEq] at hf; obtain ⟨rfl, rfl⟩ := hf
      rw [hg] at ho
      obtain ⟨hln, hrs, hcp, hz, hh⟩ := ho
      cases hnl : cx.nl l with
      | true =>
        refine ⟨cx, g.killNil (by simp [liv, hg, hnl]), Grow.refl _ _ _, ?_, rfl, rfl⟩
        have := hz hnl
        simp only [SRep, DRep, cond_true, hln]
        exact ⟨_, _, rfl, hcp, fun hne => absurd (by omega) hne⟩
      | false =>
        have hv : liv cx h l := by simp [liv, hg, hnl]
        obtain ⟨hG, gr⟩ := g.kill hv
        obtain ⟨t', c', hb, hs, hr⟩ := hh hnl
        refine ⟨_, hG, gr, ?_, rfl, rfl⟩
        simp only [SRep, DRep, cond_false, hln]
        refine ⟨_, _, rfl, hcp, fun _ => ⟨cx.th l, 0, rfl, .inr rfl, fun i hi j hj => ?_⟩⟩
        obtain ⟨x, hx, hd⟩ := hr i hi j hj
        exact ⟨x, by simp [World.cell?, ad, hb, hx], DRep.mono gr.fz gr.samef _ _ hd⟩
    · simp at hf
  | _ =>
    simp only [frz, Option.some.injEq, Prod.mk.injEq] at hf; obtain ⟨rfl, rfl⟩ := hf
    exact ⟨cx, g, Grow.refl _ _ _, hx, rfl, rfl⟩
end Go.Sx
