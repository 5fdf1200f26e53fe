/- Operations, sixteenth part: looking up, updating and deleting in maps. -/
import Derived.Test.YtppkbofmgjkboaaSxOps15
set_option linter.all false
set_option linter.unusedVariables false
set_option linter.unusedSimpArgs false
set_option linter.unnecessarySimpa false
namespace Go.Sx
open Go.MapKept

section
variable {P : Program} {A : Ann} {o : Oper} {s : SS} {Ω : Type} {k : SV → List Nat → SS → Option Ω} {out : Ω}

theorem nmem_iff {t : Nat} : ∀ {l : List Nat}, nmem t l = false ↔ t ∉ l
  | [] => by simp [nmem]
  | x :: r => by
    simp only [nmem]
    cases hb : Nat.beq x t with
    | true => have := Nat.eq_of_beq_eq_true hb; simp [this]
    | false =>
      have : x ≠ t := fun e => by subst e; simp at hb
      simp [nmem_iff (l := r)]; intro _ e; exact this e.symm

theorem Keeps.set {h : SH} {l : Nat} {o : SO} {m : List Nat} (hl : l ∈ m) : Keeps m h (h.set l o) :=
  ⟨by simp, fun i hi hm => by
    have : l ≠ i := fun e => nmem_iff.1 hm (e ▸ hl)
    simp [hget, List.getD_eq_getElem?_getD, List.getElem?_set_ne this]⟩

abbrev kv (e : MapEntry) : Value × Value := (e.key, e.val)

theorem hit_shift {q : Value} : ∀ (l : List MapEntry) (i : Nat), hit q l i = (hit q l 0).map fun p => (p.1 + i, p.2)
  | [], i => rfl
  | e :: r, i => by
    simp only [hit]
    cases (keyEq q e.key).getD false with
    | true => simp
    | false =>
      simp only [cond_false]
      rw [hit_shift r (i + 1), hit_shift r (0 + 1)]
      cases hit q r 0 with
      | none => rfl
      | some p => simp; omega

theorem hit_none {q : Value} : ∀ {l : List MapEntry}, hit q l 0 = none → getM q (l.map kv) = none ∧ (∀ y, setM q y (l.map kv) = l.map kv ++ [(q, y)]) ∧ delM q (l.map kv) = l.map kv
  | [], _ => ⟨rfl, fun _ => rfl, rfl⟩
  | e :: r, h => by
    simp only [hit] at h
    cases hk : (keyEq q e.key).getD false with
    | true => rw [hk] at h; cases h
    | false =>
      rw [hk, cond_false, hit_shift] at h
      have h' : hit q r 0 = none := by
        cases hh : hit q r 0 with
        | none => rfl
        | some p => rw [hh] at h; cases h
      obtain ⟨h1, h2, h3⟩ := hit_none h'
      simp only [List.map_cons, kv, getM, setM, delM, hk, cond_false]
      exact ⟨h1, fun y => by rw [h2]; rfl, by rw [h3]⟩

theorem hit_some {q : Value} : ∀ {l : List MapEntry} {j : Nat} {v : Value}, hit q l 0 = some (j, v) → ∃ e, l[j]? = some e ∧ v = e.val ∧ (keyEq q e.key).getD false = true ∧
    getM q (l.map kv) = some e.val ∧ (∀ y, setM q y (l.map kv) = (l.map kv).set j (q, y)) ∧ delM q (l.map kv) = (l.map kv).eraseIdx j
  | [], _, _, h => by cases h
  | e :: r, j, v, h => by
    simp only [hit] at h
    cases hk : (keyEq q e.key).getD false with
    | true =>
      rw [hk] at h
      simp only [cond_true, Option.some.injEq, Prod.mk.injEq] at h
      obtain ⟨rfl, rfl⟩ := h
      exact ⟨e, rfl, rfl, hk, by simp [getM, kv, hk], fun y => by simp [setM, kv, hk], by simp [delM, kv, hk]⟩
    | false =>
      rw [hk, cond_false, hit_shift] at h
      cases hh : hit q r 0 with
      | none => rw [hh] at h; cases h
      | some p =>
        rw [hh] at h
        simp only [Option.map_some, Option.some.injEq, Prod.mk.injEq] at h
        obtain ⟨rfl, rfl⟩ := h
        obtain ⟨e', h1, h2, h3, h4, h5, h6⟩ := hit_some (l := r) (j := p.1) (v := p.2) hh
        exact ⟨e', by simpa using h1, h2, h3, by simpa [getM, kv, hk] using h4, fun y => by simp only [List.map_cons, kv, setM, hk, cond_false]; rw [h5]; rfl, by simp only [List.map_cons, kv, delM, hk, cond_false]; rw [h6]; rfl⟩

theorem seenOk_of {α : Type} {q : Value} {f : α → Value} : ∀ {l : List MapEntry} {es : List (Value × α)}, l.map kv = es.map (fun p => (p.1, f p.2)) → keysOk q es = true → seenOk q l = true
  | [], _, _, _ => rfl
  | e :: r, [], h, _ => by simp at h
  | e :: r, (p, x) :: es, h, hk => by
    simp only [List.map_cons, kv, List.cons.injEq, Prod.mk.injEq] at h
    simp only [keysOk, Bool.and_eq_true] at hk
    simp only [seenOk, h.1.1]
    obtain ⟨b, hb⟩ := Option.isSome_iff_exists.1 hk.1
    rw [hb]
    cases b with
    | true => rfl
    | false => exact seenOk_of (f := f) h.2 hk.2

theorem getM_map {α : Type} {q : Value} {f : α → Value} : ∀ (es : List (Value × α)), getM q (es.map fun p => (p.1, f p.2)) = (getM q es).map f
  | [] => rfl
  | (p, x) :: r => by
    simp only [List.map_cons, getM]
    cases (keyEq q p).getD false with
    | true => rfl
    | false => exact getM_map r
theorem setM_map {α : Type} {q : Value} {f : α → Value} {y : α} : ∀ (es : List (Value × α)), setM q (f y) (es.map fun p => (p.1, f p.2)) = (setM q y es).map fun p => (p.1, f p.2)
  | [] => rfl
  | (p, x) :: r => by
    simp only [List.map_cons, setM]
    cases (keyEq q p).getD false with
    | true => rfl
    | false => simp only [cond_false, List.map_cons]; rw [setM_map r]
theorem delM_map {α : Type} {q : Value} {f : α → Value} : ∀ (es : List (Value × α)), delM q (es.map fun p => (p.1, f p.2)) = (delM q es).map fun p => (p.1, f p.2)
  | [] => rfl
  | (p, x) :: r => by
    simp only [List.map_cons, delM]
    cases (keyEq q p).getD false with
    | true => rfl
    | false => simp only [cond_false, List.map_cons]; rw [delM_map r]

theorem SRepE.set {cx : Cx} {w : World} {q : Value} {x : SV} {u : Value} (hx : SRep cx w x u) : ∀ {es : List (Value × SV)} {l : List (Value × Value)}, SRepE cx w es l → SRepE cx w (setM q x es) (setM q u l)
  | [], [], _ => by simp only [setM, SRepE]; exact ⟨trivial, hx, trivial⟩
  | (p, y) :: r, (p', v) :: vs, h => by
    simp only [SRepE] at h
    obtain ⟨rfl, h1, h2⟩ := h
    simp only [setM]
    cases (keyEq q p).getD false with
    | true => simp only [cond_true, SRepE]; exact ⟨trivial, hx, h2⟩
    | false => simp only [cond_false, SRepE]; exact ⟨trivial, h1, SRepE.set hx h2⟩
  | [], _ :: _, h => by simp [SRepE] at h
  | _ :: _, [], h => by simp [SRepE] at h

theorem seenOk_maps {cx : Cx} {w : World} {q : Value} : ∀ {l : List MapEntry} {es : List (Value × SV)}, SRepE cx w es (l.map kv) → keysOk q es = true → seenOk q l = true
  | [], _, _, _ => rfl
  | e :: r, [], h, _ => by simp [SRepE] at h
  | e :: r, (p, x) :: es, h, hk => by
    simp only [List.map_cons, kv, SRepE] at h
    simp only [keysOk, Bool.and_eq_true] at hk
    simp only [seenOk, ← h.1]
    obtain ⟨b, hb⟩ := Option.isSome_iff_exists.1 hk.1
    rw [hb]
    cases b with
    | true => rfl
    | false => exact seenOk_maps h.2.2 hk.2

/-- findS: what is found, or nothing. -/
theorem findS_some {q : Value} {kn : Option Ω} {kf : SV → Option Ω} : ∀ {es : List (Value × SV)}, findS q kn kf es = some out →
    (kn = some out ∧ ∀ (cx : Cx) (w : World) (l : List MapEntry), SRepE cx w es (l.map kv) → seenOk q l = true ∧ hit q l 0 = none) ∨
    ∃ x, kf x = some out ∧ ∀ (cx : Cx) (w : World) (l : List MapEntry), SRepE cx w es (l.map kv) → seenOk q l = true ∧ ∃ j v, hit q l 0 = some (j, v) ∧ SRep cx w x v
  | [], h => .inl ⟨h, fun cx w l hl => by
      cases l with
      | nil => exact ⟨rfl, rfl⟩
      | cons => simp [SRepE] at hl⟩
  | (p, x) :: r, h => by
    simp only [findS] at h
    cases hb : keyEq q p with
    | none => rw [hb] at h; cases h
    | some b =>
      rw [hb] at h
      simp only at h
      rcases br_some h with ⟨rfl, h⟩ | ⟨rfl, h⟩
      · refine .inr ⟨x, h, fun cx w l hl => ?_⟩
        match l, hl with
        | [], hl => simp [SRepE] at hl
        | e :: l, hl =>
          simp only [List.map_cons, kv, SRepE] at hl
          simp only [seenOk, hit, ← hl.1, hb, Option.getD_some, cond_true]
          exact ⟨trivial, _, _, rfl, hl.2.1⟩
      · rcases findS_some h with ⟨h1, h2⟩ | ⟨y, h1, h2⟩
        · refine .inl ⟨h1, fun cx w l hl => ?_⟩
          match l, hl with
          | [], hl => simp [SRepE] at hl
          | e :: l, hl =>
            simp only [List.map_cons, kv, SRepE] at hl
            obtain ⟨g1, g2⟩ := h2 cx w l hl.2.2
            simp only [seenOk, hit, ← hl.1, hb, Option.getD_some, cond_false]
            exact ⟨g1, by rw [hit_shift, g2]; rfl⟩
        · refine .inr ⟨y, h1, fun cx w l hl => ?_⟩
          match l, hl with
          | [], hl => simp [SRepE] at hl
          | e :: l, hl =>
            simp only [List.map_cons, kv, SRepE] at hl
            obtain ⟨g1, j, v, g2, g3⟩ := h2 cx w l hl.2.2
            simp only [seenOk, hit, ← hl.1, hb, Option.getD_some, cond_false]
            exact ⟨g1, j + 1, v, by rw [hit_shift, g2]; rfl, g3⟩

/-! ### looking up -/
theorem mapT_sound {t e : TypeId} {kk : Nat} (h : mapT P t = some (kk, e)) : ∃ kt, P.underlying t = some (.map kt e) ∧ keyT P kt = some kk := by
  unfold mapT at h
  split at h
  · rename_i kt e' hu
    split at h
    · rename_i kk' hk
      simp only [Option.some.injEq, Prod.mk.injEq] at h
      obtain ⟨rfl, rfl⟩ := h
      exact ⟨kt, by rw [← hu]; exact (info_of_uT (by rw [hu]; simp)).1, hk⟩
    · cases h
  · cases h

theorem zT_sound {t : TypeId} {z : SV} (h : zT P t = some z) : ∃ zv, (∀ w, (zeroValue t).run P w = .ok zv w) ∧ ∀ cx w, SRep cx w z zv := by
  unfold zT at h
  split at h
  · rename_i i hi
    split at h
    · rename_i zv hz
      simp only [Option.some.injEq] at h; subst h
      exact ⟨zv, fun w => by simp [zeroValue, typeInfo, hi, hz], fun cx w => SRep.cst zv⟩
    · cases h
  · cases h

theorem two_rep {cx : Cx} {w : World} {ok b : Bool} {x : SV} {v : Value} (h : SRep cx w x v) : SRep cx w (two ok x b) (if ok then .tuple #[v, .bool b] else v) := by
  cases ok with
  | false => exact h
  | true =>
    simp only [two, cond_true, SRep, SRepL, DRep]
    exact ⟨[v, .bool b], rfl, h, ⟨rfl, trivial⟩, trivial⟩

theorem look_hit {t e kt : TypeId} {kk : Nat} {m q : Operand} {ok : Bool} (ho : o.op = .lookup t m q ok) (ht : P.underlying t = some (.map kt e)) (hk : keyT P kt = some kk) {zv : Value} (hz : ∀ w, (zeroValue e).run P w = .ok zv w)
    {a : Act} {w : World} {r c : Nat} {es : Array MapEntry} (hm : a.eval m = .map (some r)) (hb : w.heap[r]? = some (.map es c)) (hq : KeyV kk (a.eval q)) (hs : seenOk (a.eval q) es.toList = true) :
    (execOp a.eval o).run P w = .ok (.value (match hit (a.eval q) es.toList 0 with | some (_, v) => if ok then .tuple #[v, .bool true] else v | none => if ok then .tuple #[zv, .bool false] else zv)) w := by
  have h1 := run_check hk hq (w := w) (P := P)
  have h2 := run_find hk hq hs (w := w) (P := P)
  cases hh : hit (a.eval q) es.toList 0 with
  | none => simp [execOp, ho, Instr.lookup, run_underlying ht, hm, run_getObj_map hb, h1, h2, hh, hz, Result.andThen]
  | some p => simp [execOp, ho, Instr.lookup, run_underlying ht, hm, run_getObj_map hb, h1, h2, hh, Result.andThen]

theorem look_nil {t e kt : TypeId} {kk : Nat} {m q : Operand} {ok : Bool} (ho : o.op = .lookup t m q ok) (ht : P.underlying t = some (.map kt e)) (hk : keyT P kt = some kk) {zv : Value} (hz : ∀ w, (zeroValue e).run P w = .ok zv w)
    {a : Act} {w : World} (hm : a.eval m = .map none) (hq : KeyV kk (a.eval q)) :
    (execOp a.eval o).run P w = .ok (.value (if ok then .tuple #[zv, .bool false] else zv)) w := by
  have h1 := run_check hk hq (w := w) (P := P)
  have h2 := run_find hk hq (es := []) rfl (w := w) (P := P)
  simp [execOp, ho, Instr.lookup, run_underlying ht, hm, h1, h2, hit, hz, Result.andThen]

theorem SRepE_zip {cx : Cx} {w : World} : ∀ {ks : List Value} {vs : List Value} {xs : List SV}, vs.length = ks.length → SRepL cx w xs vs → SRepE cx w (ks.zip xs) (ks.zip vs)
  | [], [], xs, _, h => by simp [SRepE]
  | k :: ks, v :: vs, x :: xs, hk, h => by
    simp only [SRepL] at h
    simp only [List.zip_cons_cons, SRepE]
    exact ⟨trivial, h.1, SRepE_zip (by simpa using hk) h.2⟩
  | k :: ks, v :: vs, [], hk, h => by simp [SRepL] at h
  | [], _ :: _, _, hk, _ => by simp at hk
  | _ :: _, [], _, hk, _ => by simp at hk

theorem snd_lku {t e : TypeId} {kk : Nat} {m q : Operand} {m' q' : CA} {ok : Bool} {z : SV} (ho : o.op = .lookup t m q ok) (ht : mapT P t = some (kk, e)) (hm : coA m = some m') (hq : coA q = some q') (hz : zT P e = some z)
    {env : Env Ω} (h : sop env A (.lku kk z ok m' q') s k = some out) : PlainV P o s k out := by
  obtain ⟨kt, hu, hk⟩ := mapT_sound ht
  obtain ⟨zv, hzr, hzs⟩ := zT_sound hz
  simp only [sop] at h
  split at h
  · -- nil
    rename_i q1 em eq
    refine ⟨_, h, fun cx w a hG hT => ⟨_, ?_, two_rep (hzs cx w)⟩⟩
    have e1 := eval_coA hm hT
    rw [em] at e1
    simp only [SRep, DRep] at e1
    obtain ⟨e2, e3⟩ := keyOf_sound eq (eval_coA hq hT)
    exact look_nil ho hu hk hzr e1.1 (by rw [e2]; exact e3)
  · rename_i l q1 em eq
    have hmq : ∀ (cx : Cx) (w : World) (a : Act), TRep cx w s.t a.tmps → a.eval m = .map (some (cx.th l)) ∧ a.eval q = q1 ∧ KeyV kk q1 := fun cx w a hT => by
      have e1 := eval_coA hm hT
      rw [em] at e1
      simp only [SRep] at e1
      obtain ⟨e2, e3⟩ := keyOf_sound eq (eval_coA hq hT)
      exact ⟨e1.2, e2, e3⟩
    split at h
    · -- mapi
      rename_i kd es hg
      split at h
      · rename_i kd'
        obtain ⟨hkd, h'⟩ := cond_some h
        have := kEq_eq hkd; subst this
        rcases br_some h' with ⟨hok, h⟩ | ⟨_, h⟩
        · refine ⟨_, h, fun cx w a hG hT => ?_⟩
          obtain ⟨e1, e2, e3⟩ := hmq cx w a hT
          have hO := hG.obj l
          rw [hg] at hO
          obtain ⟨el, c, hb, hent⟩ := hO
          have hs : seenOk q1 el.toList = true := seenOk_of (f := Value.int kd) hent hok
          refine ⟨_, look_hit ho hu hk hzr e1 hb (by rw [e2]; exact e3) (by rw [e2]; exact hs), ?_⟩
          have hgm : getM q1 (el.toList.map kv) = (getM q1 es).map (Value.int kd) := by rw [show el.toList.map kv = _ from hent]; exact getM_map es
          rw [e2]
          cases hh : hit q1 el.toList 0 with
          | none =>
            rw [(hit_none hh).1] at hgm
            cases hge : getM q1 es with
            | some x => rw [hge] at hgm; cases hgm
            | none => exact two_rep (hzs cx w)
          | some p =>
            obtain ⟨e', _, hv, _, hget, _⟩ := hit_some (j := p.1) (v := p.2) hh
            rw [hget] at hgm
            cases hge : getM q1 es with
            | none => rw [hge] at hgm; cases hgm
            | some x =>
              rw [hge] at hgm
              simp only [Option.map_some, Option.some.injEq] at hgm
              refine two_rep ?_
              simp only [SRep, DRep, Option.getD_some]
              exact ⟨by rw [hv, hgm], trivial⟩
        · cases h
      · cases h
    · -- mapb
      rename_i es hg
      split at h
      · rcases br_some h with ⟨hok, h⟩ | ⟨_, h⟩
        · refine ⟨_, h, fun cx w a hG hT => ?_⟩
          obtain ⟨e1, e2, e3⟩ := hmq cx w a hT
          have hO := hG.obj l
          rw [hg] at hO
          obtain ⟨el, c, hb, hent⟩ := hO
          have hs : seenOk q1 el.toList = true := seenOk_of (f := Value.bool) hent hok
          refine ⟨_, look_hit ho hu hk hzr e1 hb (by rw [e2]; exact e3) (by rw [e2]; exact hs), ?_⟩
          have hgm : getM q1 (el.toList.map kv) = (getM q1 es).map Value.bool := by rw [show el.toList.map kv = _ from hent]; exact getM_map es
          rw [e2]
          cases hh : hit q1 el.toList 0 with
          | none =>
            rw [(hit_none hh).1] at hgm
            cases hge : getM q1 es with
            | some x => rw [hge] at hgm; cases hgm
            | none => exact two_rep (hzs cx w)
          | some p =>
            obtain ⟨e', _, hv, _, hget, _⟩ := hit_some (j := p.1) (v := p.2) hh
            rw [hget] at hgm
            cases hge : getM q1 es with
            | none => rw [hge] at hgm; cases hgm
            | some x =>
              rw [hge] at hgm
              simp only [Option.map_some, Option.some.injEq] at hgm
              refine two_rep ?_
              simp only [SRep, DRep, Option.getD_some]
              exact ⟨by rw [hv, hgm], trivial⟩
        · cases h
      · cases h
    · -- maps
      rename_i es hg
      rcases findS_some h with ⟨h1, h2⟩ | ⟨x, h1, h2⟩
      · refine ⟨_, h1, fun cx w a hG hT => ?_⟩
        obtain ⟨e1, e2, e3⟩ := hmq cx w a hT
        have hO := hG.obj l
        rw [hg] at hO
        obtain ⟨el, c, hb, hent⟩ := hO
        obtain ⟨g1, g2⟩ := h2 cx w el.toList hent
        refine ⟨_, look_hit ho hu hk hzr e1 hb (by rw [e2]; exact e3) (by rw [e2]; exact g1), ?_⟩
        rw [e2, g2]
        exact two_rep (hzs cx w)
      · refine ⟨_, h1, fun cx w a hG hT => ?_⟩
        obtain ⟨e1, e2, e3⟩ := hmq cx w a hT
        have hO := hG.obj l
        rw [hg] at hO
        obtain ⟨el, c, hb, hent⟩ := hO
        obtain ⟨g1, j, v, g2, g3⟩ := h2 cx w el.toList hent
        refine ⟨_, look_hit ho hu hk hzr e1 hb (by rw [e2]; exact e3) (by rw [e2]; exact g1), ?_⟩
        rw [e2, g2]
        exact two_rep g3
    · cases h
  · -- a map of data
    rename_i ks xs q1 em eq
    have hmq : ∀ (cx : Cx) (w : World) (a : Act), TRep cx w s.t a.tmps → a.eval q = q1 ∧ KeyV kk q1 ∧ ∃ b el c, a.eval m = .map (some b) ∧ w.heap[b]? = some (.map el c) ∧ SRepE cx w (ks.zip xs) (ents el) := fun cx w a hT => by
      have e1 := eval_coA hm hT
      rw [em] at e1
      simp only [SRep] at e1
      obtain ⟨b, el, c, vs, eu, hb, hw, hl, hk, hc⟩ := e1
      obtain ⟨e2, e3⟩ := keyOf_sound eq (eval_coA hq hT)
      exact ⟨e2, e3, b, el, c, eu, hw, by rw [hl]; exact SRepE_zip hk hc⟩
    rcases findS_some h with ⟨h1, h2⟩ | ⟨x, h1, h2⟩
    · refine ⟨_, h1, fun cx w a hG hT => ?_⟩
      obtain ⟨e2, e3, b, el, c, e1, hb, hent⟩ := hmq cx w a hT
      obtain ⟨g1, g2⟩ := h2 cx w el.toList hent
      refine ⟨_, look_hit ho hu hk hzr e1 hb (by rw [e2]; exact e3) (by rw [e2]; exact g1), ?_⟩
      rw [e2, g2]
      exact two_rep (hzs cx w)
    · refine ⟨_, h1, fun cx w a hG hT => ?_⟩
      obtain ⟨e2, e3, b, el, c, e1, hb, hent⟩ := hmq cx w a hT
      obtain ⟨g1, j, v, g2, g3⟩ := h2 cx w el.toList hent
      refine ⟨_, look_hit ho hu hk hzr e1 hb (by rw [e2]; exact e3) (by rw [e2]; exact g1), ?_⟩
      rw [e2, g2]
      exact two_rep g3
  · cases h

/-! ### writing -/
theorem ents_modify {es : Array MapEntry} {j : Nat} {q v : Value} {e : MapEntry} (he : es.toList[j]? = some e) : ents (es.modify j fun e => { e with key := q, val := v }) = (ents es).set j (q, v) := by
  simp only [ents, Array.toList_modify]
  apply List.ext_getElem?
  intro i
  simp only [List.getElem?_map, List.getElem?_modify, List.getElem?_set, List.length_map]
  have hlt : j < es.toList.length := by
    rcases Nat.lt_or_ge j es.toList.length with h | h
    · exact h
    · rw [List.getElem?_eq_none h] at he; cases he
  by_cases hij : j = i
  · subst hij
    have hlt' : j < es.size := by simpa using hlt
    simp [he, hlt']
  · simp only [hij, ↓reduceIte]
    cases es.toList[i]? <;> rfl

theorem run_upd {t e kt : TypeId} {kk : Nat} {m q x : Operand} (ho : o.op = .mapUpdate t m q x ∨ o.op = .insert t m q x) (ht : P.underlying t = some (.map kt e)) (hk : keyT P kt = some kk)
    {a : Act} {w : World} {r c : Nat} {es : Array MapEntry} (hm : a.eval m = .map (some r)) (hb : w.heap[r]? = some (.map es c)) (hq : KeyV kk (a.eval q)) (hs : seenOk (a.eval q) es.toList = true) :
    ∃ es' c', (execOp a.eval o).run P w = .ok .skip { w with heap := w.heap.setIfInBounds r (.map es' c') } ∧ ents es' = setM (a.eval q) (a.eval x) (ents es) := by
  have h1 := run_check hk hq (w := w) (P := P)
  have h2 := run_find hk hq hs (w := w) (P := P)
  have hent : ents es = es.toList.map kv := rfl
  cases hh : hit (a.eval q) es.toList 0 with
  | none =>
    refine ⟨es.push { key := a.eval q, val := a.eval x, born := c }, c + 1, ?_, ?_⟩
    · rcases ho with ho | ho <;> simp [execOp, ho, Instr.mapUpdate, run_underlying ht, hm, run_getObj_map hb, h1, h2, hh, run_setObj_map _ hb, Result.andThen]
    · rw [hent, (hit_none hh).2.1]
      simp [ents, kv]
  | some p =>
    obtain ⟨e', h3, h4, h5, h6, h7, h8⟩ := hit_some (j := p.1) (v := p.2) hh
    have hke : a.eval q = e'.key := by
      refine keyEq_true hq ?_
      cases hx : keyEq (a.eval q) e'.key with
      | none => rw [hx] at h5; cases h5
      | some b => rw [hx] at h5; simp only [Option.getD_some] at h5; rw [h5]
    have hget : ((es[p.1]?).map (·.key)).getD (a.eval q) = a.eval q := by
      rw [← Array.getElem?_toList, h3]; simp [hke]
    refine ⟨es.modify p.1 fun e => { e with key := a.eval q, val := a.eval x }, c, ?_, ?_⟩
    · rcases ho with ho | ho <;> simp [execOp, ho, Instr.mapUpdate, run_underlying ht, hm, run_getObj_map hb, h1, h2, hh, hget, run_stays hq, run_setObj_map _ hb, Result.andThen]
    · rw [ents_modify h3, hent, h7]

theorem map_write {cx : Cx} {w : World} {l : Nat} {so so' : SO} (hg : Gam cx s.h w) (ho : hget s.h l = so) (hl : ∀ h : SH, hget h l = so → liv cx h l) (hl' : ∀ h : SH, hget h l = so' → liv cx h l)
    {es es' : Array MapEntry} {c c' : Nat} (hb : w.heap[cx.th l]? = some (.map es c)) (hr : ORep cx { w with heap := w.heap.setIfInBounds (cx.th l) (.map es' c') } l so') :
    Gam cx (s.h.set l so') { w with heap := w.heap.setIfInBounds (cx.th l) (.map es' c') } ∧ Grow0 cx w cx { w with heap := w.heap.setIfInBounds (cx.th l) (.map es' c') } := by
  have hlt : l < s.h.length := lt_of_liv (hl s.h ho)
  refine Gam.write hg (hl _ ho) so' (.inl (hl' _ (hget_set_eq hlt))) (by simp) (fun b hb' => by simp [Ne.symm hb']) hr ⟨rfl, rfl, fun a => ?_⟩
  simp only [World.frozen?]
  by_cases e : a.block = cx.th l
  · rw [e, hb]
    have := (Array.getElem?_eq_some_iff.1 hb).1
    simp [this]
  · simp [Ne.symm e]

theorem snd_upd {t e : TypeId} {kk : Nat} {m q x : Operand} {m' q' x' : CA} (ho : o.op = .mapUpdate t m q x ∨ o.op = .insert t m q x) (ht : mapT P t = some (kk, e)) (hm : coA m = some m') (hq : coA q = some q') (hx : coA x = some x')
    {env : Env Ω} (h : sop env A (.upd kk m' q' x') s k = some out) : PlainE P o s k out := by
  obtain ⟨kt, hu, hk⟩ := mapT_sound ht
  simp only [sop] at h
  split at h
  · rename_i l q1 em eq
    have hmq : ∀ (cx : Cx) (w : World) (a : Act), TRep cx w s.t a.tmps → a.eval m = .map (some (cx.th l)) ∧ a.eval q = q1 ∧ KeyV kk q1 := fun cx w a hT => by
      have e1 := eval_coA hm hT
      rw [em] at e1
      simp only [SRep] at e1
      obtain ⟨e2, e3⟩ := keyOf_sound eq (eval_coA hq hT)
      exact ⟨e1.2, e2, e3⟩
    split at h
    · -- mapi
      rename_i kd es kd' y hg hx1
      obtain ⟨hkd, h'⟩ := cond_some h
      have := kEq_eq hkd; subst this
      rcases br_some h' with ⟨hok, h⟩ | ⟨_, h⟩
      · refine ⟨_, _, _, h, fun cx w a hG hT next Q hK => ?_, .set (by simp)⟩
        obtain ⟨e1, e2, e3⟩ := hmq cx w a hT
        have hO := hG.obj l
        rw [hg] at hO
        obtain ⟨el, c, hb, hent⟩ := hO
        have hs : seenOk q1 el.toList = true := seenOk_of (f := Value.int kd) hent hok
        obtain ⟨es', c', hrun, hes⟩ := run_upd ho hu hk e1 hb (by rw [e2]; exact e3) (by rw [e2]; exact hs)
        have hxv : a.eval x = .int kd y := int_of (hx1 ▸ eval_coA hx hT)
        obtain ⟨g1, g2⟩ := map_write (so' := .mapi kd (setM q1 y es)) hG hg (fun h e => by simp [liv, e]) (fun h e => by simp [liv, e]) (es' := es') (c' := c') hb (by
          refine ⟨es', c', ?_, ?_⟩
          · have := (Array.getElem?_eq_some_iff.1 hb).1
            simp [this]
          · rw [hes, e2, hxv, hent]; exact setM_map es)
        unfold Oper.wp
        rw [hrun, Oper.upon_skip]
        exact hK _ _ _ g2 (by simp only [SRep]) (hT.grow g2) g1
      · cases h
    · -- mapb
      rename_i es y hg hx1
      rcases br_some h with ⟨hok, h⟩ | ⟨_, h⟩
      · refine ⟨_, _, _, h, fun cx w a hG hT next Q hK => ?_, .set (by simp)⟩
        obtain ⟨e1, e2, e3⟩ := hmq cx w a hT
        have hO := hG.obj l
        rw [hg] at hO
        obtain ⟨el, c, hb, hent⟩ := hO
        have hs : seenOk q1 el.toList = true := seenOk_of (f := Value.bool) hent hok
        obtain ⟨es', c', hrun, hes⟩ := run_upd ho hu hk e1 hb (by rw [e2]; exact e3) (by rw [e2]; exact hs)
        have hxv : a.eval x = .bool y := by
          have := eval_coA hx hT
          rw [hx1] at this
          simp only [SRep, DRep] at this
          exact this.1
        obtain ⟨g1, g2⟩ := map_write (so' := .mapb (setM q1 y es)) hG hg (fun h e => by simp [liv, e]) (fun h e => by simp [liv, e]) (es' := es') (c' := c') hb (by
          refine ⟨es', c', ?_, ?_⟩
          · have := (Array.getElem?_eq_some_iff.1 hb).1
            simp [this]
          · rw [hes, e2, hxv, hent]; exact setM_map es)
        unfold Oper.wp
        rw [hrun, Oper.upon_skip]
        exact hK _ _ _ g2 (by simp only [SRep]) (hT.grow g2) g1
      · cases h
    · -- maps
      rename_i es hg
      obtain ⟨hok, h⟩ := cond_some h
      refine ⟨_, _, _, h, fun cx w a hG hT next Q hK => ?_, .set (by simp)⟩
      obtain ⟨e1, e2, e3⟩ := hmq cx w a hT
      have hO := hG.obj l
      rw [hg] at hO
      obtain ⟨el, c, hb, hent⟩ := hO
      have hs : seenOk q1 el.toList = true := seenOk_maps hent hok
      obtain ⟨es', c', hrun, hes⟩ := run_upd ho hu hk e1 hb (by rw [e2]; exact e3) (by rw [e2]; exact hs)
      have gr : Grow0 cx w cx { w with heap := w.heap.setIfInBounds (cx.th l) (.map es' c') } := by
        have hv : liv cx s.h l := by simp [liv, hg]
        refine ⟨fun _ h => h, fun b hb' => ?_, by simp, fun _ h _ => ⟨h, rfl, rfl, rfl, rfl, rfl⟩, rfl, ⟨rfl, rfl, fun a => ?_⟩⟩
        · have : b ≠ cx.th l := fun e => hG.own l hv (e ▸ hb')
          simp [Ne.symm this]
        · simp only [World.frozen?]
          by_cases e : a.block = cx.th l
          · rw [e, hb]
            have := (Array.getElem?_eq_some_iff.1 hb).1
            simp [this]
          · simp [Ne.symm e]
      obtain ⟨g1, g2⟩ := map_write (so' := .maps (setM q1 (ev s.t x') es)) hG hg (fun h e => by simp [liv, e]) (fun h e => by simp [liv, e]) (es' := es') (c' := c') hb (by
        refine ⟨es', c', ?_, ?_⟩
        · have := (Array.getElem?_eq_some_iff.1 hb).1
          simp [this]
        · rw [hes, e2]
          exact SRepE.mono gr _ _ (mentE_none _) (SRepE.set (eval_coA hx hT) hent))
      unfold Oper.wp
      rw [hrun, Oper.upon_skip]
      exact hK _ _ _ g2 (by simp only [SRep]) (hT.grow g2) g1
    · cases h
  · cases h

theorem run_del {t e kt u : TypeId} {kk : Nat} {m q : Operand} (ho : o.op = .call { callee := .builtin .delete, args := #[m, q], argTypes := #[t, u] }) (ht : P.underlying t = some (.map kt e)) (hk : keyT P kt = some kk)
    {a : Act} {w : World} {r c : Nat} {es : Array MapEntry} (hm : a.eval m = .map (some r)) (hb : w.heap[r]? = some (.map es c)) (hq : KeyV kk (a.eval q)) (hs : seenOk (a.eval q) es.toList = true) :
    ∃ es' v, (execOp a.eval o).run P w = .ok (.value v) { w with heap := w.heap.setIfInBounds r (.map es' c) } ∧ ents es' = delM (a.eval q) (ents es) := by
  have h1 := run_check hk hq (w := w) (P := P)
  have h2 := run_find hk hq hs (w := w) (P := P)
  have hent : ents es = es.toList.map kv := rfl
  cases hh : hit (a.eval q) es.toList 0 with
  | none =>
    refine ⟨es, .tuple #[], ?_, ?_⟩
    · rw [run_b2 ho]
      simp [builtin, Builtin.delete_, run_underlying ht, hm, run_getObj_map hb, h1, h2, hh, run_setObj_map _ hb, Result.andThen]
    · rw [hent, (hit_none hh).2.2]
  | some p =>
    obtain ⟨e', h3, h4, h5, h6, h7, h8⟩ := hit_some (j := p.1) (v := p.2) hh
    refine ⟨es.eraseIdxIfInBounds p.1, .tuple #[], ?_, ?_⟩
    · rw [run_b2 ho]
      simp [builtin, Builtin.delete_, run_underlying ht, hm, run_getObj_map hb, h1, h2, hh, run_setObj_map _ hb, Result.andThen]
    · rw [hent, h8]
      simp only [ents, Array.toList_eraseIdxIfInBounds]
      apply List.ext_getElem?
      intro i
      simp only [List.getElem?_map, List.getElem?_eraseIdx]
      split <;> rfl

theorem snd_del {t e u : TypeId} {kk : Nat} {m q : Operand} {m' q' : CA} (ho : o.op = .call { callee := .builtin .delete, args := #[m, q], argTypes := #[t, u] }) (ht : mapT P t = some (kk, e)) (hm : coA m = some m') (hq : coA q = some q')
    {env : Env Ω} (h : sop env A (.del kk m' q') s k = some out) : PlainE P o s k out := by
  obtain ⟨kt, hu, hk⟩ := mapT_sound ht
  simp only [sop] at h
  split at h
  · rename_i l q1 em eq
    have hmq : ∀ (cx : Cx) (w : World) (a : Act), TRep cx w s.t a.tmps → a.eval m = .map (some (cx.th l)) ∧ a.eval q = q1 ∧ KeyV kk q1 := fun cx w a hT => by
      have e1 := eval_coA hm hT
      rw [em] at e1
      simp only [SRep] at e1
      obtain ⟨e2, e3⟩ := keyOf_sound eq (eval_coA hq hT)
      exact ⟨e1.2, e2, e3⟩
    split at h
    · rename_i kd es hg
      rcases br_some h with ⟨hok, h⟩ | ⟨_, h⟩
      · refine ⟨_, _, _, h, fun cx w a hG hT next Q hK => ?_, .set (by simp)⟩
        obtain ⟨e1, e2, e3⟩ := hmq cx w a hT
        have hO := hG.obj l
        rw [hg] at hO
        obtain ⟨el, c, hb, hent⟩ := hO
        have hs : seenOk q1 el.toList = true := seenOk_of (f := Value.int kd) hent hok
        obtain ⟨es', v, hrun, hes⟩ := run_del ho hu hk e1 hb (by rw [e2]; exact e3) (by rw [e2]; exact hs)
        obtain ⟨g1, g2⟩ := map_write (so' := .mapi kd (delM q1 es)) hG hg (fun h e => by simp [liv, e]) (fun h e => by simp [liv, e]) (es' := es') (c' := c) hb (by
          refine ⟨es', c, ?_, ?_⟩
          · have := (Array.getElem?_eq_some_iff.1 hb).1
            simp [this]
          · rw [hes, e2, hent]; exact delM_map es)
        unfold Oper.wp
        rw [hrun, Oper.upon_value]
        exact hK _ _ _ g2 (by simp only [SRep]) (hT.grow g2) g1
      · cases h
    · rename_i es hg
      rcases br_some h with ⟨hok, h⟩ | ⟨_, h⟩
      · refine ⟨_, _, _, h, fun cx w a hG hT next Q hK => ?_, .set (by simp)⟩
        obtain ⟨e1, e2, e3⟩ := hmq cx w a hT
        have hO := hG.obj l
        rw [hg] at hO
        obtain ⟨el, c, hb, hent⟩ := hO
        have hs : seenOk q1 el.toList = true := seenOk_of (f := Value.bool) hent hok
        obtain ⟨es', v, hrun, hes⟩ := run_del ho hu hk e1 hb (by rw [e2]; exact e3) (by rw [e2]; exact hs)
        obtain ⟨g1, g2⟩ := map_write (so' := .mapb (delM q1 es)) hG hg (fun h e => by simp [liv, e]) (fun h e => by simp [liv, e]) (es' := es') (c' := c) hb (by
          refine ⟨es', c, ?_, ?_⟩
          · have := (Array.getElem?_eq_some_iff.1 hb).1
            simp [this]
          · rw [hes, e2, hent]; exact delM_map es)
        unfold Oper.wp
        rw [hrun, Oper.upon_value]
        exact hK _ _ _ g2 (by simp only [SRep]) (hT.grow g2) g1
      · cases h
    · cases h
  · cases h
end
end Go.Sx

/- All operations together. -/
namespace Go.Sx

section
variable {P : Program} {A : Ann} {o : Oper} {s : SS} {Ω : Type} {k : SV → List Nat → SS → Option Ω} {out : Ω}

def Sound (P : Program) (A : Ann) (o : Oper) (c : CO) (s : SS) (k : SV → List Nat → SS → Option Ω) (out : Ω) : Prop :=
  (cls c ≤ 1 ∧ PlainV P o s k out) ∨ (cls c = 2 ∧ PlainE P o s k out) ∨ (cls c = 3 ∧ Plain P A o s k out)

theorem and_some {α : Type} {b : Bool} {x : Option α} {r : α} (h : (bif b then none else x) = some r) : b = false ∧ x = some r := by
  cases b <;> simp_all

theorem ne_of_beq {a b : Nat} (h : (!(Nat.beq a b)) = true) : a ≠ b := by
  intro e; subst e; simp at h

theorem infoAll_mem : ∀ {fs : List Field}, infoAll P fs = true → ∀ f ∈ fs, ∃ i, P.info? f.type = some i
  | [], _, f, hf => by simp at hf
  | g :: r, h, f, hf => by
    simp only [infoAll, Bool.and_eq_true] at h
    rcases List.mem_cons.1 hf with rfl | hf
    · exact Option.isSome_iff_exists.1 h.1
    · exact infoAll_mem h.2 f hf

theorem Keeps.refl (m : List Nat) (h : SH) : Keeps m h h := ⟨Nat.le_refl _, fun _ _ _ => rfl⟩
theorem Keeps.trans {m : List Nat} {h1 h2 h3 : SH} (a : Keeps m h1 h2) (b : Keeps m h2 h3) : Keeps m h1 h3 :=
  ⟨Nat.le_trans a.1 b.1, fun l hl hm => by rw [b.2 l (by have := a.1; omega) hm, a.2 l hl hm]⟩

theorem frz_keeps {h h' : SH} {x y : SV} {m : List Nat} (hf : frz h x = some (y, h')) (hm : ∀ l ∈ locsOf x, l ∈ m) : Keeps m h h' := by
  unfold frz at hf
  split at hf
  · split at hf <;> simp only [Option.some.injEq, Prod.mk.injEq, reduceCtorEq] at hf
    · rw [← hf.2]; exact .set (hm _ (by simp [locsOf]))
    · rw [← hf.2]; exact .set (hm _ (by simp [locsOf]))
  · simp only [Option.some.injEq, Prod.mk.injEq] at hf
    rw [← hf.2]; exact .refl _ _

theorem frzL_keeps : ∀ {c ys : List SV} {h h' : SH} {m : List Nat}, frzL h c = some (ys, h') → (∀ l ∈ c.flatMap locsOf, l ∈ m) → Keeps m h h'
  | [], ys, h, h', m, hf, _ => by simp only [frzL, Option.some.injEq, Prod.mk.injEq] at hf; rw [← hf.2]; exact .refl _ _
  | x :: r, ys, h, h', m, hf, hm => by
    simp only [frzL] at hf
    split at hf
    · rename_i y h1 h2
      split at hf
      · rename_i ys' h3 h4
        simp only [Option.some.injEq, Prod.mk.injEq] at hf
        rw [← hf.2]
        exact (frz_keeps h2 fun l hl => hm l (by simp [hl])).trans (frzL_keeps h4 fun l hl => hm l (by
          simp only [List.flatMap_cons, List.mem_append]; exact .inr hl))
      · simp at hf
    · simp at hf

theorem sto_keeps {h h' : SH} {p : SV} {c : List SV} (hs : sto h p c = some h') : Keeps (locsOf p ++ c.flatMap locsOf) h h' := by
  unfold sto at hs
  split at hs
  · split at hs
    · have := (cond_some hs).2
      simp only [Option.some.injEq] at this
      rw [← this]; exact .set (by simp [locsOf])
    · simp at hs
  · rename_i l i o
    split at hs
    · simp at hs
    · rename_i ys h1 hf
      refine (frzL_keeps hf fun l hl => by simp [hl]).trans ?_
      split at hs
      · have hA := (cond_some hs).2
        split at hA
        · simp only [Option.some.injEq] at hA; rw [← hA]; exact .set (by simp [locsOf])
        · simp at hA
      · split at hs
        · have hA := (cond_some hs).2
          simp only [Option.some.injEq] at hA; rw [← hA]; exact .set (by simp [locsOf])
        · simp at hs
      · simp at hs
  · simp at hs

theorem allOk_no : ∀ {sc : List Nat} {l : Nat}, allOk A sc = true → A.p l = false → nmem l sc = false
  | [], _, _, _ => rfl
  | m :: r, l, h, hl => by
    simp only [allOk, Bool.and_eq_true] at h
    simp only [nmem]
    cases hb : Nat.beq m l with
    | true => rw [Nat.eq_of_beq_eq_true hb] at h; simp [Ann.p, h.1] at hl
    | false => exact allOk_no h.2 hl

theorem coL_one {xs : List Operand} {a : CA} (h : coL xs = some [a]) : ∃ x, xs = [x] ∧ coA x = some a := by
  match xs with
  | [] => simp [coL] at h
  | x :: r =>
    simp only [coL] at h
    split at h
    · rename_i y l hy hl
      simp only [Option.some.injEq, List.cons.injEq] at h
      obtain ⟨rfl, rfl⟩ := h
      match r with
      | [] => exact ⟨x, rfl, hy⟩
      | z :: r' => simp only [coL] at hl; split at hl <;> simp at hl
    · simp at h

theorem coL_two {xs : List Operand} {a b : CA} (h : coL xs = some [a, b]) : ∃ x y, xs = [x, y] ∧ coA x = some a ∧ coA y = some b := by
  match xs with
  | [] => simp [coL] at h
  | x :: r =>
    simp only [coL] at h
    split at h
    · rename_i y l hy hl
      simp only [Option.some.injEq, List.cons.injEq] at h
      obtain ⟨rfl, rfl⟩ := h
      obtain ⟨z, rfl, hz⟩ := coL_one hl
      exact ⟨x, z, rfl, hy, hz⟩
    · simp at h

theorem sound_b {b : Builtin} {args : Array Operand} {ats : Array TypeId} {args' : List CA} {c : CO} (ho : o.op = .call { callee := .builtin b, args := args, argTypes := ats }) (ha : coL args.toList = some args')
    (hc : coB P b ats.toList args' = some c) {env : Env Ω} (h : sop env A c s k = some out) : Sound P A o c s k out := by
  unfold coB at hc
  split at hc
  · -- len
    rename_i x' t e2
    obtain ⟨x, hx, hy⟩ := coL_one ha
    obtain rfl : args = #[x] := Array.ext' (by simpa using hx)
    obtain rfl : ats = #[t] := Array.ext' (by simpa using e2)
    split at hc
    · rename_i e hu
      simp only [Option.some.injEq] at hc; subst hc
      exact .inl ⟨by simp [cls], snd_len ho hy hu h⟩
    · rename_i hu
      simp only [Option.some.injEq] at hc; subst hc
      exact .inl ⟨by simp [cls], snd_lens ho hy hu h⟩
    · rename_i q e hu
      simp only [Option.some.injEq] at hc; subst hc
      exact .inl ⟨by simp [cls], snd_lenm ho hy hu h⟩
    · rename_i n e hu
      simp only [Option.some.injEq] at hc; subst hc
      exact .inl ⟨by simp [cls], snd_lenc ho hu h⟩
    · simp at hc
  · rename_i x' y' t u e2
    obtain ⟨x, y, hxy, hx, hy⟩ := coL_two ha
    obtain rfl : args = #[x, y] := Array.ext' (by simpa using hxy)
    obtain rfl : ats = #[t, u] := Array.ext' (by simpa using e2)
    split at hc
    · rename_i e e' ht hu
      obtain ⟨hb, hc⟩ := cond_some hc
      simp only [Bool.and_eq_true] at hb
      simp only [Option.some.injEq] at hc; subst hc
      exact .inr (.inr ⟨by simp [cls], snd_app ho hx hy ht hu (ne_of_beq hb.2.1) (ne_of_beq hb.2.2.2.1) hb.2.2.2.2 hb.2.2.1 h⟩)
    · simp at hc
  · -- delete
    rename_i x' y' t u e2
    obtain ⟨x, y, hxy, hx, hy⟩ := coL_two ha
    obtain rfl : args = #[x, y] := Array.ext' (by simpa using hxy)
    obtain rfl : ats = #[t, u] := Array.ext' (by simpa using e2)
    split at hc
    · rename_i kk e hm
      simp only [Option.some.injEq] at hc; subst hc
      exact .inr (.inl ⟨by simp [cls], snd_del ho hm hx hy h⟩)
    · simp at hc
  · rename_i x' y' e1
    obtain ⟨x, y, hxy, hx, hy⟩ := coL_two ha
    obtain rfl : args = #[x, y] := Array.ext' (by simpa using hxy)
    simp only [Option.some.injEq] at hc; subst hc
    exact .inl ⟨by simp [cls], snd_mn ho hx hy h⟩
  · rename_i x' y' e1
    obtain ⟨x, y, hxy, hx, hy⟩ := coL_two ha
    obtain rfl : args = #[x, y] := Array.ext' (by simpa using hxy)
    simp only [Option.some.injEq] at hc; subst hc
    exact .inl ⟨by simp [cls], snd_mx ho hx hy h⟩
  · simp at hc

theorem sop_sound1 {env : Env Ω} (he : EnvOK P env) {c : CO} (hc : coOp1 P o.op = some c) (h : sop env A c s k = some out) : Sound P A o c s k out := by
  unfold coOp1 at hc
  split at hc
  · -- move
    rename_i x ho
    obtain ⟨y, hy, rfl⟩ := Option.map_eq_some_iff.1 hc
    exact .inl ⟨by simp [cls], _, h, snd_mv (.inl ho) hy⟩
  · rename_i x ho
    obtain ⟨y, hy, rfl⟩ := Option.map_eq_some_iff.1 hc
    exact .inl ⟨by simp [cls], _, h, snd_mv (.inr ho) hy⟩
  · rename_i ho
    split at hc
    · rename_i h1 h2 h3
      simp only [Option.some.injEq] at hc; subst hc
      exact .inl ⟨by simp [cls], snd_pick ho h1 h2 h3 h⟩
    · simp at hc
  · rename_i t ho
    obtain ⟨z, hz, rfl⟩ := Option.map_eq_some_iff.1 hc
    exact .inr (.inl ⟨by simp [cls], _, _, _, h, snd_newc ho hz, .new _ _⟩)
  · rename_i t x ho
    obtain ⟨_, hc⟩ := and_some hc
    obtain ⟨y, hy, rfl⟩ := Option.map_eq_some_iff.1 hc
    simp only [sop] at h
    split at h
    · rename_i z hz
      exact .inr (.inl ⟨by simp [cls], _, _, _, (cond_some h).2, snd_box ho hy hz, .new _ _⟩)
    · simp at h
  · -- build
    rename_i t ps ho
    split at hc
    · rename_i fs z hu hz
      obtain ⟨hi, hc⟩ := cond_some hc
      obtain ⟨qs, hq, rfl⟩ := Option.map_eq_some_iff.1 hc
      exact .inl ⟨by simp [cls], snd_bld_struct ho hu hz hq (infoAll_mem hi) h⟩
    · rename_i n e z hu hz
      obtain ⟨hi, hc⟩ := cond_some hc
      obtain ⟨qs, hq, rfl⟩ := Option.map_eq_some_iff.1 hc
      exact .inl ⟨by simp [cls], snd_bld_array ho hu hz hq (Option.isSome_iff_exists.1 hi) h⟩
    · simp at hc
  · -- buildSlice
    rename_i t n ps ho
    split at hc
    · rename_i e hu
      split at hc
      · rename_i z hz
        obtain ⟨hb, hc⟩ := cond_some hc
        simp only [Bool.and_eq_true] at hb
        obtain ⟨qs, hq, rfl⟩ := Option.map_eq_some_iff.1 hc
        exact .inr (.inl ⟨by simp [cls], snd_bsl ho hu hz hq (Nat.le_of_ble_eq_true hb.1) (ne_of_beq hb.2) h⟩)
      · simp at hc
    · simp at hc
  · -- load
    rename_i t x ho
    obtain ⟨hok, hc⟩ := cond_some hc
    obtain ⟨y, hy, rfl⟩ := Option.map_eq_some_iff.1 hc
    simp only [sop] at h
    split at h
    · rename_i c hl
      cases ha : aggT P t with
      | true =>
        rw [ha] at h
        exact .inl ⟨by simp [cls], _, h, snd_ld ho hy (okT_ne hok) hl _ (.inl ⟨ha, rfl⟩)⟩
      | false =>
        rw [ha] at h
        simp only [cond_false] at h
        split at h
        · exact .inl ⟨by simp [cls], _, h, snd_ld ho hy (okT_ne hok) hl _ (.inr ⟨ha, rfl⟩)⟩
        · simp at h
    · simp at h
  · -- store
    rename_i t a x ho
    split at hc
    · rename_i a' x' ha hx
      obtain ⟨hb, hc⟩ := and_some hc
      simp only [Option.some.injEq] at hc; subst hc
      simp only [sop] at h
      split at h
      · rename_i c hcc
        obtain ⟨hl, h⟩ := cond_some h
        split at h
        · rename_i h' hs
          exact .inr (.inl ⟨by simp [cls], _, _, _, h, snd_st ho ha hx (by intro e; simp [e] at hb) hcc (Nat.eq_of_beq_eq_true hl) hs, sto_keeps hs⟩)
        · simp at h
      · simp at h
    · simp at hc
  · -- nilCheck
    rename_i x ho
    obtain ⟨y, hy, rfl⟩ := Option.map_eq_some_iff.1 hc
    exact .inl ⟨by simp [cls], snd_nilc ho hy h⟩
  · -- binOp
    rename_i op t x y u ho
    split at hc
    · rename_i x' y' hx hy
      split at hc
      · obtain ⟨hg, hc⟩ := and_some hc
        obtain ⟨e, hq, rfl⟩ := Option.map_eq_some_iff.1 hc
        exact .inl ⟨by simp [cls], snd_eq (neg := false) (by simpa using ho) hx hy hq hg h⟩
      · obtain ⟨hg, hc⟩ := and_some hc
        obtain ⟨e, hq, rfl⟩ := Option.map_eq_some_iff.1 hc
        exact .inl ⟨by simp [cls], snd_eq (neg := true) (by simpa using ho) hx hy hq hg h⟩
      · rename_i h1 h2
        simp only [Option.some.injEq] at hc; subst hc
        exact .inl ⟨by simp [cls], snd_bin ho hx hy ⟨fun e => h1 e, fun e => h2 e⟩ h⟩
    · simp at hc
  · rename_i op t x ho
    obtain ⟨y, hy, rfl⟩ := Option.map_eq_some_iff.1 hc
    exact .inl ⟨by simp [cls], snd_un ho hy h⟩
  · rename_i t u x ho
    split at hc
    · rename_i h1 h2
      obtain ⟨y, hy, rfl⟩ := Option.map_eq_some_iff.1 hc
      exact .inl ⟨by simp [cls], snd_conv ho h1 h2 hy h⟩
    · rename_i h1 h2
      obtain ⟨y, hy, rfl⟩ := Option.map_eq_some_iff.1 hc
      exact .inl ⟨by simp [cls], snd_convs ho h1 h2 hy h⟩
    · simp at hc
  · rename_i g f c' ho
    split at hc
    · rename_i h1 h2
      simp only [Option.some.injEq] at hc; subst hc
      exact .inl ⟨by simp [cls], snd_mkf ho h1 h2 h⟩
    · simp at hc
  · -- makeSlice
    rename_i t l c' ho
    split at hc
    · rename_i e hu
      split at hc
      · rename_i z hz
        have hA := cond_some hc
        clear hc
        obtain ⟨hb, hc⟩ := hA
        simp only [Bool.and_eq_true] at hb
        simp only [Option.some.injEq] at hc; subst hc
        have hl := Nat.eq_of_beq_eq_true hb.1
        subst hl
        exact .inr (.inl ⟨by simp [cls], snd_mks ho hu hz (ne_of_beq hb.2.1) (ne_of_beq hb.2.2.1) hb.2.2.2 h⟩)
      · simp at hc
    · simp at hc
  · -- slice
    rename_i t x lo hi mx ho
    split at hc
    · rename_i z x' lo' hi' mx' hz hx hlo hhi hmx
      obtain ⟨hb, hc⟩ := cond_some hc
      simp only [Option.some.injEq] at hc; subst hc
      exact .inl ⟨by simp [cls], snd_slc ho hz hx hlo hhi hmx (by
        intro h1 h2
        subst h2
        simp only [coO, Option.some.injEq] at hhi
        subst hhi
        cases mx with
        | none => exact h1 rfl
        | some m =>
          simp only [coO, Option.map_eq_some_iff] at hmx
          obtain ⟨m', _, rfl⟩ := hmx
          simp at hb) h⟩
    · simp at hc
  · -- fieldAddr
    rename_i t x f ho
    split at hc
    · rename_i fd hf
      obtain ⟨hb, hc⟩ := and_some hc
      obtain ⟨y, hy, rfl⟩ := Option.map_eq_some_iff.1 hc
      exact .inl ⟨by simp [cls], snd_fa ho hy hf (by intro e; simp [e] at hb) h⟩
    · simp at hc
  · rename_i t x f ho
    split at hc
    · rename_i fd hf
      obtain ⟨hb, hc⟩ := cond_some hc
      obtain ⟨y, hy, rfl⟩ := Option.map_eq_some_iff.1 hc
      exact .inl ⟨by simp [cls], snd_fld ho hy hf hb h⟩
    · simp at hc
  · -- indexAddr
    rename_i t x i ho
    split at hc
    · rename_i x' i' hx hi
      split at hc
      · rename_i n e hu
        obtain ⟨hb, hc⟩ := and_some hc
        simp only [Option.some.injEq] at hc; subst hc
        simp only [Bool.or_eq_false_iff] at hb
        exact .inl ⟨by simp [cls], snd_ixa ho hx hi hu (by intro e; simp [e] at hb) h⟩
      · rename_i e hu
        obtain ⟨hb, hc⟩ := and_some hc
        simp only [Option.some.injEq] at hc; subst hc
        exact .inl ⟨by simp [cls], snd_ixs ho hx hi hu (by intro e; simp [e] at hb) h⟩
      · simp at hc
    · simp at hc
  · rename_i t x i ho
    split at hc
    · rename_i x' i' hx hi
      split at hc
      · rename_i n e hu
        obtain ⟨hb, hc⟩ := and_some hc
        simp only [Option.some.injEq] at hc; subst hc
        simp only [Bool.or_eq_false_iff, Bool.not_eq_false'] at hb
        exact .inl ⟨by simp [cls], snd_ixg ho hx hi hu (by intro e; simp [e] at hb) hb.2 h⟩
      · rename_i hu
        simp only [Option.some.injEq] at hc; subst hc
        exact .inl ⟨by simp [cls], snd_ixc ho hx hi hu h⟩
      · simp at hc
    · simp at hc
  · rename_i x i ho
    obtain ⟨y, hy, rfl⟩ := Option.map_eq_some_iff.1 hc
    exact .inl ⟨by simp [cls], snd_ext ho hy h⟩
  · -- makeMap
    rename_i t ho
    split at hc
    · rename_i kk e hm
      simp only [Option.some.injEq] at hc; subst hc
      exact .inr (.inl ⟨by unfold mkO; split <;> simp [cls], snd_mkO ho h⟩)
    · simp at hc
  · -- mapUpdate
    rename_i t m q x ho
    split at hc
    · rename_i kk e m' q' x' hmt hm hq hx
      simp only [Option.some.injEq] at hc; subst hc
      exact .inr (.inl ⟨by simp [cls], snd_upd (.inl ho) hmt hm hq hx h⟩)
    · simp at hc
  · -- insert
    rename_i t m q x ho
    split at hc
    · rename_i kk e m' q' x' hmt hm hq hx
      simp only [Option.some.injEq] at hc; subst hc
      exact .inr (.inl ⟨by simp [cls], snd_upd (.inr ho) hmt hm hq hx h⟩)
    · simp at hc
  · -- lookup
    rename_i t m q ok ho
    split at hc
    · rename_i kk e m' q' hmt hm hq
      split at hc
      · rename_i z hz
        simp only [Option.some.injEq] at hc; subst hc
        exact .inl ⟨by simp [cls], snd_lku ho hmt hm hq hz h⟩
      · simp at hc
    · simp at hc
  · -- call
    rename_i c' ho
    obtain ⟨callee, args, ats⟩ := c'
    split at hc
    · rename_i f args' hf ha
      try simp only at hf
      try simp only at ha
      subst hf
      obtain ⟨f', hf', rfl⟩ := Option.map_eq_some_iff.1 hc
      simp only [sop] at h
      split at h
      · rename_i g a b hv
        split at h
        · rename_i sp hg
          obtain ⟨r, m, sc, h', h1, h2, _⟩ := snd_call ho hf' ha he hv hg h
          obtain ⟨hall, h1⟩ := cond_some h1
          exact .inr (.inr ⟨by simp [cls], _, _, _, h1, scrubTs_sub, h2.weak fun l hl => allOk_no hall hl⟩)
        · simp at h
      · simp at h
    · rename_i b args' hb ha
      try simp only at hb
      try simp only at ha
      try simp only at hc
      subst hb
      exact sound_b ho ha hc h
    · simp at hc
  · simp at hc
theorem sop_sound {env : Env Ω} (he : EnvOK P env) {c : CO} (hc : coOp P o.op = some c) (h : sop env A c s k = some out) : Sound P A o c s k out := by
  unfold coOp at hc
  simp only [Option.some.injEq] at hc
  cases e : coOp1 P o.op with
  | some c' => rw [e] at hc; simp only at hc; subst hc; exact sop_sound1 he e h
  | none => rw [e] at hc; simp only at hc; subst hc; simp [sop] at h
end
end Go.Sx
