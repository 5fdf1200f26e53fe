/- Operations, fifteenth part: maps. -/
import Derived.Test.YtaejdljgfmclpaaGreatSxOps14
import Derived.MapKept
set_option linter.all false
set_option linter.unusedVariables false
set_option linter.unusedSimpArgs false
set_option linter.unnecessarySimpa false
namespace Go.Sx
open Go.MapKept

section
variable {P : Program} {A : Ann} {o : Oper} {s : SS} {Ω : Type} {k : SV → List Nat → SS → Option Ω} {out : Ω}

/-! ### making -/
theorem OpOK0.newM {P : Program} {o : Oper} {s : SS} {so : SO}
    (h : ∀ (a : Act) (w : World), (execOp a.eval o).run P w = .ok (.value (.map (some w.heap.size))) { w with heap := w.heap.push (.map #[] 0) })
    (hs : ∀ cx' w' l, w'.heap[cx'.th l]? = some (.map #[] 0) → ORep cx' w' l so) :
    OpOK0 P o s (.mp s.h.length) ⟨s.t, s.h ++ [so]⟩ := by
  intro cx w a hg ht next Q hk
  have hob : NoFrz (.map #[] 0) := .inr ⟨_, _, rfl⟩
  have gr := Grow.ext cx w (.map #[] 0) w.heap.size 0 0 false 0 hg.fzlt hob
  have hp := Gam.push hg so (.map #[] 0) 0 0 false 0 hob (hs _ _ _ (by simp [Cx.ext]))
  unfold Oper.wp
  rw [h a w, Oper.upon_value]
  exact hk _ _ _ gr (by simp only [SRep, Cx.ext, hg.n]; simp [← hg.n]) (ht.grow gr) hp.1

theorem run_makeMap {t : TypeId} (ho : o.op = .makeMap t none) (a : Act) (w : World) : (execOp a.eval o).run P w = .ok (.value (.map (some w.heap.size))) { w with heap := w.heap.push (.map #[] 0) } := by
  simp [execOp, ho, Instr.makeMap]

theorem snd_mkO {t e : TypeId} (ho : o.op = .makeMap t none) {env : Env Ω} (h : sop env A (mkO P e) s k = some out) : PlainE P o s k out := by
  unfold mkO at h
  split at h <;> simp only [sop] at h
  · exact ⟨_, _, _, h, OpOK0.newM (run_makeMap ho) fun cx' w' l hm => ⟨_, _, hm, by simp [ents]⟩, .new _ _⟩
  · exact ⟨_, _, _, h, OpOK0.newM (run_makeMap ho) fun cx' w' l hm => ⟨_, _, hm, by simp [ents]⟩, .new _ _⟩
  · exact ⟨_, _, _, h, OpOK0.newM (run_makeMap ho) fun cx' w' l hm => ⟨_, _, hm, by simp [ents, SRepE]⟩, .new _ _⟩

/-! ### keys -/
/-- Keys of a kind. -/
def KeyV (kk : Nat) : Value → Prop
  | .int _ _ => kk = 0
  | .string _ => kk = 1
  | .bool _ => kk = 2
  | .agg ⟨[.int _ _, .int _ _]⟩ => kk = 3
  | _ => False

theorem keyOf_sound {kk : Nat} {x : SV} {q u : Value} {cx : Cx} {w : World} (h : keyOf kk x = some q) (hr : SRep cx w x u) : u = q ∧ KeyV kk q := by
  unfold keyOf at h
  split at h
  · obtain ⟨hb, h⟩ := cond_some h
    simp only [Option.some.injEq] at h; subst h
    exact ⟨int_of hr, Nat.eq_of_beq_eq_true hb⟩
  · obtain ⟨hb, h⟩ := cond_some h
    simp only [Option.some.injEq] at h; subst h
    simp only [SRep, DRep] at hr
    exact ⟨hr.1, Nat.eq_of_beq_eq_true hb⟩
  · obtain ⟨hb, h⟩ := cond_some h
    simp only [Option.some.injEq] at h; subst h
    simp only [SRep, DRep] at hr
    exact ⟨hr.1, Nat.eq_of_beq_eq_true hb⟩
  · obtain ⟨hb, h⟩ := cond_some h
    simp only [Option.some.injEq] at h; subst h
    simp only [SRep] at hr
    obtain ⟨c', rfl, hr⟩ := hr
    match c', hr with
    | [v1, v2], hr =>
      simp only [SRepL, SRep, DRep] at hr
      obtain ⟨⟨rfl, _⟩, ⟨rfl, _⟩, _⟩ := hr
      exact ⟨rfl, Nat.eq_of_beq_eq_true hb⟩
    | [], hr => simp [SRepL] at hr
    | [_], hr => simp [SRepL] at hr
    | _ :: _ :: _ :: _, hr => simp [SRepL] at hr
  · cases h

/-- What findKey answers: the first entry that compares equal. -/
def hit (q : Value) : List MapEntry → Nat → Option (Nat × Value)
  | [], _ => none
  | e :: r, i => bif (keyEq q e.key).getD false then some (i, e.val) else hit q r (i + 1)

/-- Each key ahead of the hit, and it, can be compared. -/
def seenOk (q : Value) : List MapEntry → Bool
  | [] => true
  | e :: r => match keyEq q e.key with
    | some true => true
    | some false => seenOk q r
    | none => false

theorem keyEq_int {k : IntKind} {a : Int} {p : Value} {b : Bool} (h : keyEq (.int k a) p = some b) : ∃ c, p = .int k c ∧ b = (a == c) := by
  unfold keyEq at h
  split at h
  · rename_i k1 a1 k2 c e
    injection e with e1 e2; subst e1; subst e2
    obtain ⟨hk, h'⟩ := cond_some h
    have := kEq_eq hk; subst this
    injection h' with h'
    exact ⟨c, rfl, h'.symm⟩
  · rename_i e; cases e
  · rename_i e; cases e
  · rename_i e; cases e
  · cases h
theorem keyEq_str {a : ByteArray} {p : Value} {b : Bool} (h : keyEq (.string a) p = some b) : ∃ c, p = .string c ∧ b = (a == c) := by
  unfold keyEq at h
  split at h
  · rename_i e; cases e
  · rename_i a1 c e
    injection e with e1; subst e1
    simp only [Option.some.injEq] at h
    exact ⟨c, rfl, h.symm⟩
  · rename_i e; cases e
  · rename_i e; cases e
  · cases h
theorem keyEq_bool {a : Bool} {p : Value} {b : Bool} (h : keyEq (.bool a) p = some b) : ∃ c, p = .bool c ∧ b = (a == c) := by
  unfold keyEq at h
  split at h
  · rename_i e; cases e
  · rename_i e; cases e
  · rename_i a1 c e
    injection e with e1; subst e1
    simp only [Option.some.injEq] at h
    exact ⟨c, rfl, h.symm⟩
  · rename_i e; cases e
  · cases h
theorem keyEq_agg {k l : IntKind} {x y : Int} {p : Value} {b : Bool} (h : keyEq (.agg ⟨[.int k x, .int l y]⟩) p = some b) : ∃ x' y', p = .agg ⟨[.int k x', .int l y']⟩ ∧ b = ((x == x') && (y == y')) := by
  unfold keyEq at h
  split at h
  · rename_i e; cases e
  · rename_i e; cases e
  · rename_i e; cases e
  · rename_i k1 x1 l1 y1 k2 x' l2 y' e
    injection e with e; injection e with e; injection e with e1 e2; injection e2 with e2 e3
    injection e1 with e1 e1'; injection e2 with e2 e2'
    subst e1; subst e1'; subst e2; subst e2'
    obtain ⟨hk, h'⟩ := cond_some h
    simp only [Bool.and_eq_true] at hk
    have h1 := kEq_eq hk.1; have h2 := kEq_eq hk.2
    subst h1; subst h2
    injection h' with h'
    exact ⟨x', y', rfl, h'.symm⟩
  · cases h

theorem keyEq_true {kk : Nat} {q p : Value} (hq : KeyV kk q) (h : keyEq q p = some true) : q = p := by
  unfold KeyV at hq
  split at hq
  · obtain ⟨c, rfl, hc⟩ := keyEq_int h; rw [eq_of_beq hc.symm]
  · obtain ⟨c, rfl, hc⟩ := keyEq_str h; rw [(bytes_beq _ _).1 hc.symm]
  · obtain ⟨c, rfl, hc⟩ := keyEq_bool h; rw [eq_of_beq hc.symm]
  · obtain ⟨x', y', rfl, hc⟩ := keyEq_agg h
    have hc := hc.symm
    simp only [Bool.and_eq_true, beq_iff_eq] at hc
    rw [hc.1, hc.2]
  · exact hq.elim

theorem keyT_und {t : TypeId} {kk : Nat} (h : keyT P t = some kk) : P.underlying t = some (uT P t) := by
  refine (info_of_uT (fun e => ?_)).1
  unfold keyT at h; rw [e] at h; cases h

/-- Kinds other than pairs. -/
theorem find_flat {t : TypeId} {kk : Nat} {q : Value} (ht : keyT P t = some kk) (hq : KeyV kk q) (h3 : kk ≠ 3) : ∀ (es : List MapEntry) (i : Nat), seenOk q es = true → Instr.findNow (uT P t) q es i = some (hit q es i)
  | [], i, _ => rfl
  | e :: r, i, hs => by
    simp only [seenOk] at hs
    have hn : ∀ b, keyEq q e.key = some b → Instr.sameNow (uT P t) q e.key = some b := fun b hb => by
      unfold keyT at ht
      unfold KeyV at hq
      split at hq
      · obtain ⟨c, he, hc⟩ := keyEq_int hb
        rw [he]
        split at ht
        · rename_i hu; rw [hu]; simp [Instr.sameNow, hc]
        · cases ht; cases hq
        · cases ht; cases hq
        · split at ht
          · split at ht
            · obtain ⟨_, ht⟩ := cond_some ht; cases ht; cases hq
            · cases ht
          · cases ht
        · cases ht
      · obtain ⟨c, he, hc⟩ := keyEq_str hb
        rw [he]
        split at ht
        · cases ht; cases hq
        · rename_i hu; rw [hu]; simp [Instr.sameNow, hc]
        · cases ht; cases hq
        · split at ht
          · split at ht
            · obtain ⟨_, ht⟩ := cond_some ht; cases ht; cases hq
            · cases ht
          · cases ht
        · cases ht
      · obtain ⟨c, he, hc⟩ := keyEq_bool hb
        rw [he]
        split at ht
        · cases ht; cases hq
        · cases ht; cases hq
        · rename_i hu; rw [hu]; simp [Instr.sameNow, hc]
        · split at ht
          · split at ht
            · obtain ⟨_, ht⟩ := cond_some ht; cases ht; cases hq
            · cases ht
          · cases ht
        · cases ht
      · exact absurd hq h3
      · exact hq.elim
    cases hb : keyEq q e.key with
    | none => rw [hb] at hs; cases hs
    | some b =>
      rw [hb] at hs
      simp only [Instr.findNow, hn b hb, hit, hb, Option.getD_some]
      cases b with
      | true => rfl
      | false => exact find_flat ht hq h3 r (i + 1) hs

theorem keyT3 {t : TypeId} (h : keyT P t = some 3) : ∃ fs a b ka kb, uT P t = .struct fs ∧ fs.toList = [a, b] ∧ uT P a.type = .int ka ∧ uT P b.type = .int kb ∧ a.offset = 0 ∧ b.offset = 1 ∧ (a.name == "_") = false ∧ (b.name == "_") = false ∧ szT P a.type = 1 ∧ szT P b.type = 1 ∧ P.stoodInHeld t = false := by
  unfold keyT at h
  split at h
  · cases h
  · cases h
  · cases h
  · rename_i fs hu
    split at h
    · rename_i a b hf
      split at h
      · rename_i ka kb h1 h2
        obtain ⟨hc, _⟩ := cond_some h
        simp only [Bool.and_eq_true, Bool.not_eq_true'] at hc
        exact ⟨fs, a, b, ka, kb, hu, hf, h1, h2, Nat.eq_of_beq_eq_true hc.1, Nat.eq_of_beq_eq_true hc.2.1, hc.2.2.1, hc.2.2.2.1, Nat.eq_of_beq_eq_true hc.2.2.2.2.1, Nat.eq_of_beq_eq_true hc.2.2.2.2.2.1, hc.2.2.2.2.2.2⟩
      · cases h
    · cases h
  · cases h

theorem eqT3 {t : TypeId} (h : keyT P t = some 3) : ∃ n1 n2, eqT P 20 t = some (.cons .int 0 n1 false (.cons .int 1 n2 false .nil)) := by
  obtain ⟨fs, a, b, ka, kb, hu, hf, h1, h2, ho1, ho2, hn1, hn2, _, _, hs⟩ := keyT3 h
  refine ⟨szT P a.type, szT P b.type, ?_⟩
  have ha : aggT P a.type = false := by simp [aggT, h1]
  have hb : aggT P b.type = false := by simp [aggT, h2]
  unfold eqT
  rw [hu]
  simp only [hs, cond_false, hf]
  simp only [eqFs, hn1, hn2, cond_false]
  have e1 : eqT P 19 a.type = some .int := by unfold eqT; rw [h1]
  have e2 : eqT P 19 b.type = some .int := by unfold eqT; rw [h2]
  rw [e1, e2]
  simp only [ho1, ho2, ha, hb]

theorem find_pair {t : TypeId} {q : Value} (ht : keyT P t = some 3) (hq : KeyV 3 q) {w : World} : ∀ (es : List MapEntry) (i : Nat), seenOk q es = true → (Instr.findAsking t q es i).run P w = .ok (hit q es i) w
  | [], i, _ => rfl
  | e :: r, i, hs => by
    simp only [seenOk] at hs
    have hn : ∀ b, keyEq q e.key = some b → (Op.equal t q e.key).run P w = .ok b w := fun b hb => by
      obtain ⟨n1, n2, he⟩ := eqT3 ht
      unfold KeyV at hq
      split at hq
      · cases hq
      · cases hq
      · cases hq
      · rename_i k1 x1 k2 y1
        obtain ⟨x', y', hp, hc⟩ := keyEq_agg hb
        rw [hp]
        let cx : Cx := ⟨0, fun _ => 0, fun _ => 0, fun _ => 0, fun _ => false, fun _ => 0, fun _ => False, fun _ => False⟩
        have hx : ∀ x y, SRep cx w (.agg [.d (.v (.int k1 x)), .d (.v (.int k2 y))]) (.agg ⟨[.int k1 x, .int k2 y]⟩) := fun x y => by
          simp only [SRep, SRepL, DRep, cellV]
          exact ⟨_, rfl, ⟨rfl, trivial⟩, ⟨rfl, trivial⟩, trivial⟩
        have hk : ∀ k : IntKind, kEq k k = true := fun k => by cases k <;> rfl
        have := eqS_run (P := P) 20 10000 (by omega) t _ (.agg [.d (.v (.int k1 x1)), .d (.v (.int k2 y1))]) (.agg [.d (.v (.int k1 x')), .d (.v (.int k2 y'))]) _ _ b cx w he (by
          simp only [eqS, partS, cond_false, List.getD_cons_zero, List.getD_cons_succ, hk, cond_true, Bool.and_true, hc]) (hx _ _) (hx _ _)
        exact this
      · exact hq.elim
    cases hb : keyEq q e.key with
    | none => rw [hb] at hs; cases hs
    | some b =>
      rw [hb] at hs
      simp only [Instr.findAsking, hit, Sem.run_bind, hn b hb, Result.andThen_ok, hb, Option.getD_some]
      cases b with
      | true => rfl
      | false => exact find_pair ht hq r (i + 1) hs

theorem run_find {t : TypeId} {kk : Nat} {q : Value} (ht : keyT P t = some kk) (hq : KeyV kk q) {w : World} {es : List MapEntry} (hs : seenOk q es = true) : (Instr.findKey t q es).run P w = .ok (hit q es 0) w := by
  by_cases h3 : kk = 3
  · subst h3
    obtain ⟨fs, a, b, ka, kb, hu, _⟩ := keyT3 ht
    have hu' := keyT_und ht
    cases es with
    | nil => simp [Instr.findKey, run_underlying hu', Instr.findNow, hit, Result.andThen]
    | cons e r =>
      have : Instr.findNow (uT P t) q (e :: r) 0 = none := by simp [Instr.findNow, hu, Instr.sameNow]
      simp only [Instr.findKey, Sem.run_bind, run_underlying hu', Result.andThen_ok, this]
      exact find_pair ht hq (e :: r) 0 hs
  · exact run_findKey (keyT_und ht) (find_flat ht hq h3 es 0 hs)

theorem run_check1 {t : TypeId} {q : Value} (hu : P.underlying t = some (uT P t)) (hd : (∃ k, uT P t = .int k) ∨ uT P t = .string ∨ uT P t = .bool) {w : World} (em : Bool) (n : Nat) : (Instr.checkKey em (n + 1) t q).run P w = .ok () w := by
  unfold Instr.checkKey
  simp only [Sem.run_bind, run_underlying hu, Result.andThen_ok]
  rcases hd with ⟨k, hk⟩ | hk | hk <;> rw [hk] <;> rfl

theorem run_check {t : TypeId} {kk : Nat} {q : Value} (ht : keyT P t = some kk) (hq : KeyV kk q) {w : World} (em : Bool) : (Instr.checkKey em 10000 t q).run P w = .ok () w := by
  have hu' := keyT_und ht
  by_cases h3 : kk = 3
  · subst h3
    unfold KeyV at hq
    split at hq
    · cases hq
    · cases hq
    · cases hq
    · rename_i k1 x1 k2 y1
      obtain ⟨fs, a, b, ka, kb, hu, hf, h1, h2, ho1, ho2, hn1, hn2, hz1, hz2, _⟩ := keyT3 ht
      obtain rfl : fs = #[a, b] := Array.ext' (by simpa using hf)
      have c1 := fun q => run_check1 (P := P) (t := a.type) (q := q) (info_of_uT (by rw [h1]; simp)).1 (.inl ⟨_, h1⟩) (w := w) em 9998
      have c2 := fun q => run_check1 (P := P) (t := b.type) (q := q) (info_of_uT (by rw [h2]; simp)).1 (.inl ⟨_, h2⟩) (w := w) em 9998
      have i1 := run_aggT w (P := P) (t := a.type) (by rw [h1]; simp)
      have i2 := run_aggT w (P := P) (t := b.type) (by rw [h2]; simp)
      have g1 : aggT P a.type = false := by simp [aggT, h1]
      have g2 : aggT P b.type = false := by simp [aggT, h2]
      rw [g1] at i1; rw [g2] at i2
      have n1 : a.name ≠ "_" := by simpa using hn1
      have n2 : b.name ≠ "_" := by simpa using hn2
      have s1 := run_szT w (P := P) (info_of_uT (t := a.type) (by rw [h1]; simp)).2
      have s2 := run_szT w (P := P) (info_of_uT (t := b.type) (by rw [h2]; simp)).2
      rw [hz1] at s1; rw [hz2] at s2
      show (Instr.checkKey em (9999 + 1) t _).run P w = _
      unfold Instr.checkKey
      simp only [Sem.run_bind, run_underlying hu', Result.andThen_ok, hu]
      generalize hcheck : Instr.checkKey em 9999 = F at *
      simp [n1, n2, ho1, ho2, part, i1, i2, s1, s2, c1, c2, Result.andThen]
    · exact hq.elim
  · refine run_check1 hu' ?_ em 9999
    unfold keyT at ht
    split at ht
    · rename_i k hk; exact .inl ⟨k, hk⟩
    · rename_i hk; exact .inr (.inl hk)
    · rename_i hk; exact .inr (.inr hk)
    · split at ht
      · split at ht
        · obtain ⟨_, ht⟩ := cond_some ht; cases ht; exact absurd rfl h3
        · cases ht
      · cases ht
    · cases ht

theorem run_stays {kk : Nat} {q : Value} (hq : KeyV kk q) {w : World} : (Instr.keyThatStays q q).run P w = .ok q w := by
  have : Instr.sameBits 10000 q q = true := by
    unfold KeyV at hq
    split at hq <;> first | exact hq.elim | simp [Instr.sameBits, bytes_beq]
  simp [Instr.keyThatStays, this]
end
end Go.Sx

/- Operations, sixteenth part: looking up, updating and deleting in maps. -/
namespace Go.Sx
open Go.MapKept

section
variable {P : Program} {A : Ann} {o : Oper} {s : SS} {Ω : Type} {k : SV → List Nat → SS → Option Ω} {out : Ω}

theorem nmem_iff {t : Nat} : ∀ {l : List Nat}, nmem t l = false ↔ t ∉ l
  | [] => by simp [nmem]
  | x :: r => by
    simp only [nmem]
    cases hb : Nat.beq x t with
    | true => have := Nat.eq_of_beq_eq_true hb; simp [this]
    | false =>
      have : x ≠ t := fun e => by subst e; simp at hb
      simp [nmem_iff (l := r)]; intro _ e; exact this e.symm

theorem Keeps.set {h : SH} {l : Nat} {o : SO} {m : List Nat} (hl : l ∈ m) : Keeps m h (h.set l o) :=
  ⟨by simp, fun i hi hm => by
    have : l ≠ i := fun e => nmem_iff.1 hm (e ▸ hl)
    simp [hget, List.getD_eq_getElem?_getD, List.getElem?_set_ne this]⟩

abbrev kv (e : MapEntry) : Value × Value := (e.key, e.val)

theorem hit_shift {q : Value} : ∀ (l : List MapEntry) (i : Nat), hit q l i = (hit q l 0).map fun p => (p.1 + i, p.2)
  | [], i => rfl
  | e :: r, i => by
    simp only [hit]
    cases (keyEq q e.key).getD false with
    | true => simp
    | false =>
      simp only [cond_false]
      rw [hit_shift r (i + 1), hit_shift r (0 + 1)]
      cases hit q r 0 with
      | none => rfl
      | some p => simp; omega

theorem hit_none {q : Value} : ∀ {l : List MapEntry}, hit q l 0 = none → getM q (l.map kv) = none ∧ (∀ y, setM q y (l.map kv) = l.map kv ++ [(q, y)]) ∧ delM q (l.map kv) = l.map kv
  | [], _ => ⟨rfl, fun _ => rfl, rfl⟩
  | e :: r, h => by
    simp only [hit] at h
    cases hk : (keyEq q e.key).getD false with
    | true => rw [hk] at h; cases h
    | false =>
      rw [hk, cond_false, hit_shift] at h
      have h' : hit q r 0 = none := by
        cases hh : hit q r 0 with
        | none => rfl
        | some p => rw [hh] at h; cases h
      obtain ⟨h1, h2, h3⟩ := hit_none h'
      simp only [List.map_cons, kv, getM, setM, delM, hk, cond_false]
      exact ⟨h1, fun y => by rw [h2]; rfl, by rw [h3]⟩

theorem hit_some {q : Value} : ∀ {l : List MapEntry} {j : Nat} {v : Value}, hit q l 0 = some (j, v) → ∃ e, l[j]? = some e ∧ v = e.val ∧ (keyEq q e.key).getD false = true ∧
    getM q (l.map kv) = some e.val ∧ (∀ y, setM q y (l.map kv) = (l.map kv).set j (q, y)) ∧ delM q (l.map kv) = (l.map kv).eraseIdx j
  | [], _, _, h => by cases h
  | e :: r, j, v, h => by
    simp only [hit] at h
    cases hk : (keyEq q e.key).getD false with
    | true =>
      rw [hk] at h
      simp only [cond_true, Option.some.injEq, Prod.mk.injEq] at h
      obtain ⟨rfl, rfl⟩ := h
      exact ⟨e, rfl, rfl, hk, by simp [getM, kv, hk], fun y => by simp [setM, kv, hk], by simp [delM, kv, hk]⟩
    | false =>
      rw [hk, cond_false, hit_shift] at h
      cases hh : hit q r 0 with
      | none => rw [hh] at h; cases h
      | some p =>
        rw [hh] at h
        simp only [Option.map_some, Option.some.injEq, Prod.mk.injEq] at h
        obtain ⟨rfl, rfl⟩ := h
        obtain ⟨e', h1, h2, h3, h4, h5, h6⟩ := hit_some (l := r) (j := p.1) (v := p.2) hh
        exact ⟨e', by simpa using h1, h2, h3, by simpa [getM, kv, hk] using h4, fun y => by simp only [List.map_cons, kv, setM, hk, cond_false]; rw [h5]; rfl, by simp only [List.map_cons, kv, delM, hk, cond_false]; rw [h6]; rfl⟩

theorem seenOk_of {α : Type} {q : Value} {f : α → Value} : ∀ {l : List MapEntry} {es : List (Value × α)}, l.map kv = es.map (fun p => (p.1, f p.2)) → keysOk q es = true → seenOk q l = true
  | [], _, _, _ => rfl
  | e :: r, [], h, _ => by simp at h
  | e :: r, (p, x) :: es, h, hk => by
    simp only [List.map_cons, kv, List.cons.injEq, Prod.mk.injEq] at h
    simp only [keysOk, Bool.and_eq_true] at hk
    simp only [seenOk, h.1.1]
    obtain ⟨b, hb⟩ := Option.isSome_iff_exists.1 hk.1
    rw [hb]
    cases b with
    | true => rfl
    | false => exact seenOk_of (f := f) h.2 hk.2

theorem getM_map {α : Type} {q : Value} {f : α → Value} : ∀ (es : List (Value × α)), getM q (es.map fun p => (p.1, f p.2)) = (getM q es).map f
  | [] => rfl
  | (p, x) :: r => by
    simp only [List.map_cons, getM]
    cases (keyEq q p).getD false with
    | true => rfl
    | false => exact getM_map r
theorem setM_map {α : Type} {q : Value} {f : α → Value} {y : α} : ∀ (es : List (Value × α)), setM q (f y) (es.map fun p => (p.1, f p.2)) = (setM q y es).map fun p => (p.1, f p.2)
  | [] => rfl
  | (p, x) :: r => by
    simp only [List.map_cons, setM]
    cases (keyEq q p).getD false with
    | true => rfl
    | false => simp only [cond_false, List.map_cons]; rw [setM_map r]
theorem delM_map {α : Type} {q : Value} {f : α → Value} : ∀ (es : List (Value × α)), delM q (es.map fun p => (p.1, f p.2)) = (delM q es).map fun p => (p.1, f p.2)
  | [] => rfl
  | (p, x) :: r => by
    simp only [List.map_cons, delM]
    cases (keyEq q p).getD false with
    | true => rfl
    | false => simp only [cond_false, List.map_cons]; rw [delM_map r]

theorem SRepE.set {cx : Cx} {w : World} {q : Value} {x : SV} {u : Value} (hx : SRep cx w x u) : ∀ {es : List (Value × SV)} {l : List (Value × Value)}, SRepE cx w es l → SRepE cx w (setM q x es) (setM q u l)
  | [], [], _ => by simp only [setM, SRepE]; exact ⟨trivial, hx, trivial⟩
  | (p, y) :: r, (p', v) :: vs, h => by
    simp only [SRepE] at h
    obtain ⟨rfl, h1, h2⟩ := h
    simp only [setM]
    cases (keyEq q p).getD false with
    | true => simp only [cond_true, SRepE]; exact ⟨trivial, hx, h2⟩
    | false => simp only [cond_false, SRepE]; exact ⟨trivial, h1, SRepE.set hx h2⟩
  | [], _ :: _, h => by simp [SRepE] at h
  | _ :: _, [], h => by simp [SRepE] at h

theorem seenOk_maps {cx : Cx} {w : World} {q : Value} : ∀ {l : List MapEntry} {es : List (Value × SV)}, SRepE cx w es (l.map kv) → keysOk q es = true → seenOk q l = true
  | [], _, _, _ => rfl
  | e :: r, [], h, _ => by simp [SRepE] at h
  | e :: r, (p, x) :: es, h, hk => by
    simp only [List.map_cons, kv, SRepE] at h
    simp only [keysOk, Bool.and_eq_true] at hk
    simp only [seenOk, ← h.1]
    obtain ⟨b, hb⟩ := Option.isSome_iff_exists.1 hk.1
    rw [hb]
    cases b with
    | true => rfl
    | false => exact seenOk_maps h.2.2 hk.2

/-- findS: what is found, or nothing. -/
theorem findS_some {q : Value} {kn : Option Ω} {kf : SV → Option Ω} : ∀ {es : List (Value × SV)}, findS q kn kf es = some out →
    (kn = some out ∧ ∀ (cx : Cx) (w : World) (l : List MapEntry), SRepE cx w es (l.map kv) → seenOk q l = true ∧ hit q l 0 = none) ∨
    ∃ x, kf x = some out ∧ ∀ (cx : Cx) (w : World) (l : List MapEntry), SRepE cx w es (l.map kv) → seenOk q l = true ∧ ∃ j v, hit q l 0 = some (j, v) ∧ SRep cx w x v
  | [], h => .inl ⟨h, fun cx w l hl => by
      cases l with
      | nil => exact ⟨rfl, rfl⟩
      | cons => simp [SRepE] at hl⟩
  | (p, x) :: r, h => by
    simp only [findS] at h
    cases hb : keyEq q p with
    | none => rw [hb] at h; cases h
    | some b =>
      rw [hb] at h
      simp only at h
      rcases br_some h with ⟨rfl, h⟩ | ⟨rfl, h⟩
      · refine .inr ⟨x, h, fun cx w l hl => ?_⟩
        match l, hl with
        | [], hl => simp [SRepE] at hl
        | e :: l, hl =>
          simp only [List.map_cons, kv, SRepE] at hl
          simp only [seenOk, hit, ← hl.1, hb, Option.getD_some, cond_true]
          exact ⟨trivial, _, _, rfl, hl.2.1⟩
      · rcases findS_some h with ⟨h1, h2⟩ | ⟨y, h1, h2⟩
        · refine .inl ⟨h1, fun cx w l hl => ?_⟩
          match l, hl with
          | [], hl => simp [SRepE] at hl
          | e :: l, hl =>
            simp only [List.map_cons, kv, SRepE] at hl
            obtain ⟨g1, g2⟩ := h2 cx w l hl.2.2
            simp only [seenOk, hit, ← hl.1, hb, Option.getD_some, cond_false]
            exact ⟨g1, by rw [hit_shift, g2]; rfl⟩
        · refine .inr ⟨y, h1, fun cx w l hl => ?_⟩
          match l, hl with
          | [], hl => simp [SRepE] at hl
          | e :: l, hl =>
            simp only [List.map_cons, kv, SRepE] at hl
            obtain ⟨g1, j, v, g2, g3⟩ := h2 cx w l hl.2.2
            simp only [seenOk, hit, ← hl.1, hb, Option.getD_some, cond_false]
            exact ⟨g1, j + 1, v, by rw [hit_shift, g2]; rfl, g3⟩

/-! ### looking up -/
theorem mapT_sound {t e : TypeId} {kk : Nat} (h : mapT P t = some (kk, e)) : ∃ kt, P.underlying t = some (.map kt e) ∧ keyT P kt = some kk := by
  unfold mapT at h
  split at h
  · rename_i kt e' hu
    split at h
    · rename_i kk' hk
      simp only [Option.some.injEq, Prod.mk.injEq] at h
      obtain ⟨rfl, rfl⟩ := h
      exact ⟨kt, by rw [← hu]; exact (info_of_uT (by rw [hu]; simp)).1, hk⟩
    · cases h
  · cases h

theorem zT_sound {t : TypeId} {z : SV} (h : zT P t = some z) : ∃ zv, (∀ w, (zeroValue t).run P w = .ok zv w) ∧ ∀ cx w, SRep cx w z zv := by
  unfold zT at h
  split at h
  · rename_i i hi
    split at h
    · rename_i zv hz
      simp only [Option.some.injEq] at h; subst h
      exact ⟨zv, fun w => by simp [zeroValue, typeInfo, hi, hz], fun cx w => SRep.cst zv⟩
    · cases h
  · cases h

theorem two_rep {cx : Cx} {w : World} {ok b : Bool} {x : SV} {v : Value} (h : SRep cx w x v) : SRep cx w (two ok x b) (if ok then .tuple #[v, .bool b] else v) := by
  cases ok with
  | false => exact h
  | true =>
    simp only [two, cond_true, SRep, SRepL, DRep]
    exact ⟨[v, .bool b], rfl, h, ⟨rfl, trivial⟩, trivial⟩

theorem look_hit {t e kt : TypeId} {kk : Nat} {m q : Operand} {ok : Bool} (ho : o.op = .lookup t m q ok) (ht : P.underlying t = some (.map kt e)) (hk : keyT P kt = some kk) {zv : Value} (hz : ∀ w, (zeroValue e).run P w = .ok zv w)
    {a : Act} {w : World} {r c : Nat} {es : Array MapEntry} (hm : a.eval m = .map (some r)) (hb : w.heap[r]? = some (.map es c)) (hq : KeyV kk (a.eval q)) (hs : seenOk (a.eval q) es.toList = true) :
    (execOp a.eval o).run P w = .ok (.value (match hit (a.eval q) es.toList 0 with | some (_, v) => if ok then .tuple #[v, .bool true] else v | none => if ok then .tuple #[zv, .bool false] else zv)) w := by
  have h1 := run_check hk hq (w := w) (P := P)
  have h2 := run_find hk hq hs (w := w) (P := P)
  cases hh : hit (a.eval q) es.toList 0 with
  | none => simp [execOp, ho, Instr.lookup, run_underlying ht, hm, run_getObj_map hb, h1, h2, hh, hz, Result.andThen]
  | some p => simp [execOp, ho, Instr.lookup, run_underlying ht, hm, run_getObj_map hb, h1, h2, hh, Result.andThen]

theorem look_nil {t e kt : TypeId} {kk : Nat} {m q : Operand} {ok : Bool} (ho : o.op = .lookup t m q ok) (ht : P.underlying t = some (.map kt e)) (hk : keyT P kt = some kk) {zv : Value} (hz : ∀ w, (zeroValue e).run P w = .ok zv w)
    {a : Act} {w : World} (hm : a.eval m = .map none) (hq : KeyV kk (a.eval q)) :
    (execOp a.eval o).run P w = .ok (.value (if ok then .tuple #[zv, .bool false] else zv)) w := by
  have h1 := run_check hk hq (w := w) (P := P)
  have h2 := run_find hk hq (es := []) rfl (w := w) (P := P)
  simp [execOp, ho, Instr.lookup, run_underlying ht, hm, h1, h2, hit, hz, Result.andThen]

theorem SRepE_zip {cx : Cx} {w : World} : ∀ {ks : List Value} {vs : List Value} {xs : List SV}, vs.length = ks.length → SRepL cx w xs vs → SRepE cx w (ks.zip xs) (ks.zip vs)
  | [], [], xs, _, h => by simp [SRepE]
  | k :: ks, v :: vs, x :: xs, hk, h => by
    simp only [SRepL] at h
    simp only [List.zip_cons_cons, SRepE]
    exact ⟨trivial, h.1, SRepE_zip (by simpa using hk) h.2⟩
  | k :: ks, v :: vs, [], hk, h => by simp [SRepL] at h
  | [], _ :: _, _, hk, _ => by simp at hk
  | _ :: _, [], _, hk, _ => by simp at hk

theorem snd_lku {t e : TypeId} {kk : Nat} {m q : Operand} {m' q' : CA} {ok : Bool} {z : SV} (ho : o.op = .lookup t m q ok) (ht : mapT P t = some (kk, e)) (hm : coA m = some m') (hq : coA q = some q') (hz : zT P e = some z)
    {env : Env Ω} (h : sop env A (.lku kk z ok m' q') s k = some out) : PlainV P o s k out := by
  obtain ⟨kt, hu, hk⟩ := mapT_sound ht
  obtain ⟨zv, hzr, hzs⟩ := zT_sound hz
  simp only [sop] at h
  split at h
  · -- nil
    rename_i q1 em eq
    refine ⟨_, h, fun cx w a hG hT => ⟨_, ?_, two_rep (hzs cx w)⟩⟩
    have e1 := eval_coA hm hT
    rw [em] at e1
    simp only [SRep, DRep] at e1
    obtain ⟨e2, e3⟩ := keyOf_sound eq (eval_coA hq hT)
    exact look_nil ho hu hk hzr e1.1 (by rw [e2]; exact e3)
  · rename_i l q1 em eq
    have hmq : ∀ (cx : Cx) (w : World) (a : Act), TRep cx w s.t a.tmps → a.eval m = .map (some (cx.th l)) ∧ a.eval q = q1 ∧ KeyV kk q1 := fun cx w a hT => by
      have e1 := eval_coA hm hT
      rw [em] at e1
      simp only [SRep] at e1
      obtain ⟨e2, e3⟩ := keyOf_sound eq (eval_coA hq hT)
      exact ⟨e1.2, e2, e3⟩
    split at h
    · -- mapi
      rename_i kd es hg
      split at h
      · rename_i kd'
        obtain ⟨hkd, h'⟩ := cond_some h
        have := kEq_eq hkd; subst this
        rcases br_some h' with ⟨hok, h⟩ | ⟨_, h⟩
        · refine ⟨_, h, fun cx w a hG hT => ?_⟩
          obtain ⟨e1, e2, e3⟩ := hmq cx w a hT
          have hO := hG.obj l
          rw [hg] at hO
          obtain ⟨el, c, hb, hent⟩ := hO
          have hs : seenOk q1 el.toList = true := seenOk_of (f := Value.int kd) hent hok
          refine ⟨_, look_hit ho hu hk hzr e1 hb (by rw [e2]; exact e3) (by rw [e2]; exact hs), ?_⟩
          have hgm : getM q1 (el.toList.map kv) = (getM q1 es).map (Value.int kd) := by rw [show el.toList.map kv = _ from hent]; exact getM_map es
          rw [e2]
          cases hh : hit q1 el.toList 0 with
          | none =>
            rw [(hit_none hh).1] at hgm
            cases hge : getM q1 es with
            | some x => rw [hge] at hgm; cases hgm
            | none => exact two_rep (hzs cx w)
          | some p =>
            obtain ⟨e', _, hv, _, hget, _⟩ := hit_some (j := p.1) (v := p.2) hh
            rw [hget] at hgm
            cases hge : getM q1 es with
            | none => rw [hge] at hgm; cases hgm
            | some x =>
              rw [hge] at hgm
              simp only [Option.map_some, Option.some.injEq] at hgm
              refine two_rep ?_
              simp only [SRep, DRep, Option.getD_some]
              exact ⟨by rw [hv, hgm], trivial⟩
        · cases h
      · cases h
    · -- mapb
      rename_i es hg
      split at h
      · rcases br_some h with ⟨hok, h⟩ | ⟨_, h⟩
        · refine ⟨_, h, fun cx w a hG hT => ?_⟩
          obtain ⟨e1, e2, e3⟩ := hmq cx w a hT
          have hO := hG.obj l
          rw [hg] at hO
          obtain ⟨el, c, hb, hent⟩ := hO
          have hs : seenOk q1 el.toList = true := seenOk_of (f := Value.bool) hent hok
          refine ⟨_, look_hit ho hu hk hzr e1 hb (by rw [e2]; exact e3) (by rw [e2]; exact hs), ?_⟩
          have hgm : getM q1 (el.toList.map kv) = (getM q1 es).map Value.bool := by rw [show el.toList.map kv = _ from hent]; exact getM_map es
          rw [e2]
          cases hh : hit q1 el.toList 0 with
          | none =>
            rw [(hit_none hh).1] at hgm
            cases hge : getM q1 es with
            | some x => rw [hge] at hgm; cases hgm
            | none => exact two_rep (hzs cx w)
          | some p =>
            obtain ⟨e', _, hv, _, hget, _⟩ := hit_some (j := p.1) (v := p.2) hh
            rw [hget] at hgm
            cases hge : getM q1 es with
            | none => rw [hge] at hgm; cases hgm
            | some x =>
              rw [hge] at hgm
              simp only [Option.map_some, Option.some.injEq] at hgm
              refine two_rep ?_
              simp only [SRep, DRep, Option.getD_some]
              exact ⟨by rw [hv, hgm], trivial⟩
        · cases h
      · cases h
    · -- maps
      rename_i es hg
      rcases findS_some h with ⟨h1, h2⟩ | ⟨x, h1, h2⟩
      · refine ⟨_, h1, fun cx w a hG hT => ?_⟩
        obtain ⟨e1, e2, e3⟩ := hmq cx w a hT
        have hO := hG.obj l
        rw [hg] at hO
        obtain ⟨el, c, hb, hent⟩ := hO
        obtain ⟨g1, g2⟩ := h2 cx w el.toList hent
        refine ⟨_, look_hit ho hu hk hzr e1 hb (by rw [e2]; exact e3) (by rw [e2]; exact g1), ?_⟩
        rw [e2, g2]
        exact two_rep (hzs cx w)
      · refine ⟨_, h1, fun cx w a hG hT => ?_⟩
        obtain ⟨e1, e2, e3⟩ := hmq cx w a hT
        have hO := hG.obj l
        rw [hg] at hO
        obtain ⟨el, c, hb, hent⟩ := hO
        obtain ⟨g1, j, v, g2, g3⟩ := h2 cx w el.toList hent
        refine ⟨_, look_hit ho hu hk hzr e1 hb (by rw [e2]; exact e3) (by rw [e2]; exact g1), ?_⟩
        rw [e2, g2]
        exact two_rep g3
    · cases h
  · -- a map of data
    rename_i ks xs q1 em eq
    have hmq : ∀ (cx : Cx) (w : World) (a : Act), TRep cx w s.t a.tmps → a.eval q = q1 ∧ KeyV kk q1 ∧ ∃ b el c, a.eval m = .map (some b) ∧ w.heap[b]? = some (.map el c) ∧ SRepE cx w (ks.zip xs) (ents el) := fun cx w a hT => by
      have e1 := eval_coA hm hT
      rw [em] at e1
      simp only [SRep] at e1
      obtain ⟨b, el, c, vs, eu, hb, hw, hl, hk, hc⟩ := e1
      obtain ⟨e2, e3⟩ := keyOf_sound eq (eval_coA hq hT)
      exact ⟨e2, e3, b, el, c, eu, hw, by rw [hl]; exact SRepE_zip hk hc⟩
    rcases findS_some h with ⟨h1, h2⟩ | ⟨x, h1, h2⟩
    · refine ⟨_, h1, fun cx w a hG hT => ?_⟩
      obtain ⟨e2, e3, b, el, c, e1, hb, hent⟩ := hmq cx w a hT
      obtain ⟨g1, g2⟩ := h2 cx w el.toList hent
      refine ⟨_, look_hit ho hu hk hzr e1 hb (by rw [e2]; exact e3) (by rw [e2]; exact g1), ?_⟩
      rw [e2, g2]
      exact two_rep (hzs cx w)
    · refine ⟨_, h1, fun cx w a hG hT => ?_⟩
      obtain ⟨e2, e3, b, el, c, e1, hb, hent⟩ := hmq cx w a hT
      obtain ⟨g1, j, v, g2, g3⟩ := h2 cx w el.toList hent
      refine ⟨_, look_hit ho hu hk hzr e1 hb (by rw [e2]; exact e3) (by rw [e2]; exact g1), ?_⟩
      rw [e2, g2]
      exact two_rep g3
  · cases h

/-! ### writing -/
theorem ents_modify {es : Array MapEntry} {j : Nat} {q v : Value} {e : MapEntry} (he : es.toList[j]? = some e) : ents (es.modify j fun e => { e with key := q, val := v }) = (ents es).set j (q, v) := by
  simp only [ents, Array.toList_modify]
  apply List.ext_getElem?
  intro i
  simp only [List.getElem?_map, List.getElem?_modify, List.getElem?_set, List.length_map]
  have hlt : j < es.toList.length := by
    rcases Nat.lt_or_ge j es.toList.length with h | h
    · exact h
    · rw [List.getElem?_eq_none h] at he; cases he
  by_cases hij : j = i
  · subst hij
    have hlt' : j < es.size := by simpa using hlt
    simp [he, hlt']
  · simp only [hij, ↓reduceIte]
    cases es.toList[i]? <;> rfl

theorem run_upd {t e kt : TypeId} {kk : Nat} {m q x : Operand} (ho : o.op = .mapUpdate t m q x ∨ o.op = .insert t m q x) (ht : P.underlying t = some (.map kt e)) (hk : keyT P kt = some kk)
    {a : Act} {w : World} {r c : Nat} {es : Array MapEntry} (hm : a.eval m = .map (some r)) (hb : w.heap[r]? = some (.map es c)) (hq : KeyV kk (a.eval q)) (hs : seenOk (a.eval q) es.toList = true) :
    ∃ es' c', (execOp a.eval o).run P w = .ok .skip { w with heap := w.heap.setIfInBounds r (.map es' c') } ∧ ents es' = setM (a.eval q) (a.eval x) (ents es) := by
  have h1 := run_check hk hq (w := w) (P := P)
  have h2 := run_find hk hq hs (w := w) (P := P)
  have hent : ents es = es.toList.map kv := rfl
  cases hh : hit (a.eval q) es.toList 0 with
  | none =>
    refine ⟨es.push { key := a.eval q, val := a.eval x, born := c }, c + 1, ?_, ?_⟩
    · rcases ho with ho | ho <;> simp [execOp, ho, Instr.mapUpdate, run_underlying ht, hm, run_getObj_map hb, h1, h2, hh, run_setObj_map _ hb, Result.andThen]
    · rw [hent, (hit_none hh).2.1]
      simp [ents, kv]
  | some p =>
    obtain ⟨e', h3, h4, h5, h6, h7, h8⟩ := hit_some (j := p.1) (v := p.2) hh
    have hke : a.eval q = e'.key := by
      refine keyEq_true hq ?_
      cases hx : keyEq (a.eval q) e'.key with
      | none => rw [hx] at h5; cases h5
      | some b => rw [hx] at h5; simp only [Option.getD_some] at h5; rw [h5]
    have hget : ((es[p.1]?).map (·.key)).getD (a.eval q) = a.eval q := by
      rw [← Array.getElem?_toList, h3]; simp [hke]
    refine ⟨es.modify p.1 fun e => { e with key := a.eval q, val := a.eval x }, c, ?_, ?_⟩
    · rcases ho with ho | ho <;> simp [execOp, ho, Instr.mapUpdate, run_underlying ht, hm, run_getObj_map hb, h1, h2, hh, hget, run_stays hq, run_setObj_map _ hb, Result.andThen]
    · rw [ents_modify h3, hent, h7]

theorem map_write {cx : Cx} {w : World} {l : Nat} {so so' : SO} (hg : Gam cx s.h w) (ho : hget s.h l = so) (hl : ∀ h : SH, hget h l = so → liv cx h l) (hl' : ∀ h : SH, hget h l = so' → liv cx h l)
    {es es' : Array MapEntry} {c c' : Nat} (hb : w.heap[cx.th l]? = some (.map es c)) (hr : ORep cx { w with heap := w.heap.setIfInBounds (cx.th l) (.map es' c') } l so') :
    Gam cx (s.h.set l so') { w with heap := w.heap.setIfInBounds (cx.th l) (.map es' c') } ∧ Grow0 cx w cx { w with heap := w.heap.setIfInBounds (cx.th l) (.map es' c') } := by
  have hlt : l < s.h.length := lt_of_liv (hl s.h ho)
  refine Gam.write hg (hl _ ho) so' (.inl (hl' _ (hget_set_eq hlt))) (by simp) (fun b hb' => by simp [Ne.symm hb']) hr ⟨rfl, rfl, fun a _ => ?_, by simp⟩
  simp only [World.frozen?]
  by_cases e : a.block = cx.th l
  · rw [e, hb]
    have := (Array.getElem?_eq_some_iff.1 hb).1
    simp [this]
  · simp [Ne.symm e]

theorem snd_upd {t e : TypeId} {kk : Nat} {m q x : Operand} {m' q' x' : CA} (ho : o.op = .mapUpdate t m q x ∨ o.op = .insert t m q x) (ht : mapT P t = some (kk, e)) (hm : coA m = some m') (hq : coA q = some q') (hx : coA x = some x')
    {env : Env Ω} (h : sop env A (.upd kk m' q' x') s k = some out) : PlainE P o s k out := by
  obtain ⟨kt, hu, hk⟩ := mapT_sound ht
  simp only [sop] at h
  split at h
  · rename_i l q1 em eq
    have hmq : ∀ (cx : Cx) (w : World) (a : Act), TRep cx w s.t a.tmps → a.eval m = .map (some (cx.th l)) ∧ a.eval q = q1 ∧ KeyV kk q1 := fun cx w a hT => by
      have e1 := eval_coA hm hT
      rw [em] at e1
      simp only [SRep] at e1
      obtain ⟨e2, e3⟩ := keyOf_sound eq (eval_coA hq hT)
      exact ⟨e1.2, e2, e3⟩
    split at h
    · -- mapi
      rename_i kd es kd' y hg hx1
      obtain ⟨hkd, h'⟩ := cond_some h
      have := kEq_eq hkd; subst this
      rcases br_some h' with ⟨hok, h⟩ | ⟨_, h⟩
      · refine ⟨_, _, _, h, fun cx w a hG hT next Q hK => ?_, .set (by simp)⟩
        obtain ⟨e1, e2, e3⟩ := hmq cx w a hT
        have hO := hG.obj l
        rw [hg] at hO
        obtain ⟨el, c, hb, hent⟩ := hO
        have hs : seenOk q1 el.toList = true := seenOk_of (f := Value.int kd) hent hok
        obtain ⟨es', c', hrun, hes⟩ := run_upd ho hu hk e1 hb (by rw [e2]; exact e3) (by rw [e2]; exact hs)
        have hxv : a.eval x = .int kd y := int_of (hx1 ▸ eval_coA hx hT)
        obtain ⟨g1, g2⟩ := map_write (so' := .mapi kd (setM q1 y es)) hG hg (fun h e => by simp [liv, e]) (fun h e => by simp [liv, e]) (es' := es') (c' := c') hb (by
          refine ⟨es', c', ?_, ?_⟩
          · have := (Array.getElem?_eq_some_iff.1 hb).1
            simp [this]
          · rw [hes, e2, hxv, hent]; exact setM_map es)
        unfold Oper.wp
        rw [hrun, Oper.upon_skip]
        exact hK _ _ _ g2 (by simp only [SRep]) (hT.grow g2) g1
      · cases h
    · -- mapb
      rename_i es y hg hx1
      rcases br_some h with ⟨hok, h⟩ | ⟨_, h⟩
      · refine ⟨_, _, _, h, fun cx w a hG hT next Q hK => ?_, .set (by simp)⟩
        obtain ⟨e1, e2, e3⟩ := hmq cx w a hT
        have hO := hG.obj l
        rw [hg] at hO
        obtain ⟨el, c, hb, hent⟩ := hO
        have hs : seenOk q1 el.toList = true := seenOk_of (f := Value.bool) hent hok
        obtain ⟨es', c', hrun, hes⟩ := run_upd ho hu hk e1 hb (by rw [e2]; exact e3) (by rw [e2]; exact hs)
        have hxv : a.eval x = .bool y := by
          have := eval_coA hx hT
          rw [hx1] at this
          simp only [SRep, DRep] at this
          exact this.1
        obtain ⟨g1, g2⟩ := map_write (so' := .mapb (setM q1 y es)) hG hg (fun h e => by simp [liv, e]) (fun h e => by simp [liv, e]) (es' := es') (c' := c') hb (by
          refine ⟨es', c', ?_, ?_⟩
          · have := (Array.getElem?_eq_some_iff.1 hb).1
            simp [this]
          · rw [hes, e2, hxv, hent]; exact setM_map es)
        unfold Oper.wp
        rw [hrun, Oper.upon_skip]
        exact hK _ _ _ g2 (by simp only [SRep]) (hT.grow g2) g1
      · cases h
    · -- maps
      rename_i es hg
      obtain ⟨hok, h⟩ := cond_some h
      refine ⟨_, _, _, h, fun cx w a hG hT next Q hK => ?_, .set (by simp)⟩
      obtain ⟨e1, e2, e3⟩ := hmq cx w a hT
      have hO := hG.obj l
      rw [hg] at hO
      obtain ⟨el, c, hb, hent⟩ := hO
      have hs : seenOk q1 el.toList = true := seenOk_maps hent hok
      obtain ⟨es', c', hrun, hes⟩ := run_upd ho hu hk e1 hb (by rw [e2]; exact e3) (by rw [e2]; exact hs)
      have gr : Grow0 cx w cx { w with heap := w.heap.setIfInBounds (cx.th l) (.map es' c') } := by
        have hv : liv cx s.h l := by simp [liv, hg]
        refine ⟨fun _ h => h, fun b hb' => ?_, by simp, fun _ h _ => ⟨h, rfl, rfl, rfl, rfl, rfl⟩, rfl, ⟨rfl, rfl, fun a _ => ?_, by simp⟩⟩
        · have : b ≠ cx.th l := fun e => hG.own l hv (e ▸ hb')
          simp [Ne.symm this]
        · simp only [World.frozen?]
          by_cases e : a.block = cx.th l
          · rw [e, hb]
            have := (Array.getElem?_eq_some_iff.1 hb).1
            simp [this]
          · simp [Ne.symm e]
      obtain ⟨g1, g2⟩ := map_write (so' := .maps (setM q1 (ev s.t x') es)) hG hg (fun h e => by simp [liv, e]) (fun h e => by simp [liv, e]) (es' := es') (c' := c') hb (by
        refine ⟨es', c', ?_, ?_⟩
        · have := (Array.getElem?_eq_some_iff.1 hb).1
          simp [this]
        · rw [hes, e2]
          exact SRepE.mono gr _ _ (mentE_none _) (SRepE.set (eval_coA hx hT) hent))
      unfold Oper.wp
      rw [hrun, Oper.upon_skip]
      exact hK _ _ _ g2 (by simp only [SRep]) (hT.grow g2) g1
    · cases h
  · cases h

theorem run_del {t e kt u : TypeId} {kk : Nat} {m q : Operand} (ho : o.op = .call { callee := .builtin .delete, args := #[m, q], argTypes := #[t, u] }) (ht : P.underlying t = some (.map kt e)) (hk : keyT P kt = some kk)
    {a : Act} {w : World} {r c : Nat} {es : Array MapEntry} (hm : a.eval m = .map (some r)) (hb : w.heap[r]? = some (.map es c)) (hq : KeyV kk (a.eval q)) (hs : seenOk (a.eval q) es.toList = true) :
    ∃ es' v, (execOp a.eval o).run P w = .ok (.value v) { w with heap := w.heap.setIfInBounds r (.map es' c) } ∧ ents es' = delM (a.eval q) (ents es) := by
  have h1 := run_check hk hq (w := w) (P := P)
  have h2 := run_find hk hq hs (w := w) (P := P)
  have hent : ents es = es.toList.map kv := rfl
  cases hh : hit (a.eval q) es.toList 0 with
  | none =>
    refine ⟨es, .tuple #[], ?_, ?_⟩
    · rw [run_b2 ho]
      simp [builtin, Builtin.delete_, run_underlying ht, hm, run_getObj_map hb, h1, h2, hh, run_setObj_map _ hb, Result.andThen]
    · rw [hent, (hit_none hh).2.2]
  | some p =>
    obtain ⟨e', h3, h4, h5, h6, h7, h8⟩ := hit_some (j := p.1) (v := p.2) hh
    refine ⟨es.eraseIdxIfInBounds p.1, .tuple #[], ?_, ?_⟩
    · rw [run_b2 ho]
      simp [builtin, Builtin.delete_, run_underlying ht, hm, run_getObj_map hb, h1, h2, hh, run_setObj_map _ hb, Result.andThen]
    · rw [hent, h8]
      simp only [ents, Array.toList_eraseIdxIfInBounds]
      apply List.ext_getElem?
      intro i
      simp only [List.getElem?_map, List.getElem?_eraseIdx]
      split <;> rfl

theorem snd_del {t e u : TypeId} {kk : Nat} {m q : Operand} {m' q' : CA} (ho : o.op = .call { callee := .builtin .delete, args := #[m, q], argTypes := #[t, u] }) (ht : mapT P t = some (kk, e)) (hm : coA m = some m') (hq : coA q = some q')
    {env : Env Ω} (h : sop env A (.del kk m' q') s k = some out) : PlainE P o s k out := by
  obtain ⟨kt, hu, hk⟩ := mapT_sound ht
  simp only [sop] at h
  split at h
  · rename_i l q1 em eq
    have hmq : ∀ (cx : Cx) (w : World) (a : Act), TRep cx w s.t a.tmps → a.eval m = .map (some (cx.th l)) ∧ a.eval q = q1 ∧ KeyV kk q1 := fun cx w a hT => by
      have e1 := eval_coA hm hT
      rw [em] at e1
      simp only [SRep] at e1
      obtain ⟨e2, e3⟩ := keyOf_sound eq (eval_coA hq hT)
      exact ⟨e1.2, e2, e3⟩
    split at h
    · rename_i kd es hg
      rcases br_some h with ⟨hok, h⟩ | ⟨_, h⟩
      · refine ⟨_, _, _, h, fun cx w a hG hT next Q hK => ?_, .set (by simp)⟩
        obtain ⟨e1, e2, e3⟩ := hmq cx w a hT
        have hO := hG.obj l
        rw [hg] at hO
        obtain ⟨el, c, hb, hent⟩ := hO
        have hs : seenOk q1 el.toList = true := seenOk_of (f := Value.int kd) hent hok
        obtain ⟨es', v, hrun, hes⟩ := run_del ho hu hk e1 hb (by rw [e2]; exact e3) (by rw [e2]; exact hs)
        obtain ⟨g1, g2⟩ := map_write (so' := .mapi kd (delM q1 es)) hG hg (fun h e => by simp [liv, e]) (fun h e => by simp [liv, e]) (es' := es') (c' := c) hb (by
          refine ⟨es', c, ?_, ?_⟩
          · have := (Array.getElem?_eq_some_iff.1 hb).1
            simp [this]
          · rw [hes, e2, hent]; exact delM_map es)
        unfold Oper.wp
        rw [hrun, Oper.upon_value]
        exact hK _ _ _ g2 (by simp only [SRep]) (hT.grow g2) g1
      · cases h
    · rename_i es hg
      rcases br_some h with ⟨hok, h⟩ | ⟨_, h⟩
      · refine ⟨_, _, _, h, fun cx w a hG hT next Q hK => ?_, .set (by simp)⟩
        obtain ⟨e1, e2, e3⟩ := hmq cx w a hT
        have hO := hG.obj l
        rw [hg] at hO
        obtain ⟨el, c, hb, hent⟩ := hO
        have hs : seenOk q1 el.toList = true := seenOk_of (f := Value.bool) hent hok
        obtain ⟨es', v, hrun, hes⟩ := run_del ho hu hk e1 hb (by rw [e2]; exact e3) (by rw [e2]; exact hs)
        obtain ⟨g1, g2⟩ := map_write (so' := .mapb (delM q1 es)) hG hg (fun h e => by simp [liv, e]) (fun h e => by simp [liv, e]) (es' := es') (c' := c) hb (by
          refine ⟨es', c, ?_, ?_⟩
          · have := (Array.getElem?_eq_some_iff.1 hb).1
            simp [this]
          · rw [hes, e2, hent]; exact delM_map es)
        unfold Oper.wp
        rw [hrun, Oper.upon_value]
        exact hK _ _ _ g2 (by simp only [SRep]) (hT.grow g2) g1
      · cases h
    · cases h
  · cases h
end
end Go.Sx
