/- Regions that draw their order, second part: the whole trace. -/
import Derived.Test.YtpnnnklahanecaaSxDraw
namespace Go.Sx

/-- The state ahead of entry i. -/
def stA (es : List En) (sf : SS) (i : Nat) : SS := match es[i]? with
  | some e => e.s
  | none => sf

def GuardOK (all : List Oper) (o : Oper) (c : CR) : Prop := match o.guard with
  | none => c.guard = none
  | some (j, w) => ∃ d, (all[j]?).bind (·.dst) = some d ∧ c.guard = some (d, w)

structure Trc (P : Program) (A : Ann) (nt : Nat) (all : List Oper) (pre : List En) (l : List Oper) (cs : List CR) (s : SS) (es : List En) (sf : SS) : Prop where
  len : es.length = l.length
  uniq : Uniq sf.t
  bnd : ∀ p ∈ sf.t, p.1 < nt
  ok : ∀ (i : Nat) (o : Oper) (e : En), l[i]? = some o → es[i]? = some e → EnOK P A nt o (pre.length + i) e ∧ GuardOK all o e.c ∧ cs[i]? = some e.c ∧
    e.c.anc = ancOf ((pre ++ es.take i).map (·.c.anc)) o ∧ (∀ x ∈ o.after, Region.binds .any x = true → x.on < pre.length + i) ∧ (∀ d, o.dst = some d → d < nt)
  pair : ∀ (j : Nat) (e : En), es[j]? = some e → ∀ (i : Nat) (e' : En), i < pre.length + j → (pre ++ es)[i]? = some e' → PairOK i e' e
  head : (∀ x, lk (stA es sf 0).t x = lk s.t x) ∧ (stA es sf 0).h = s.h
  link : ∀ (i : Nat) (e : En), es[i]? = some e → Link e (stA es sf (i + 1))

theorem Trc.cons {P : Program} {A : Ann} {nt : Nat} {all : List Oper} {pre : List En} {o : Oper} {l : List Oper} {c : CR} {cs : List CR} {s0 : SS} {e : En} {es : List En} {sf : SS}
    (h : Trc P A nt all (pre ++ [e]) l cs e.s' es sf) (hs : (∀ x, lk e.s.t x = lk s0.t x) ∧ e.s.h = s0.h) (hok : EnOK P A nt o pre.length e) (hg : GuardOK all o e.c) (hc : c = e.c) (ha : e.c.anc = ancOf (pre.map (·.c.anc)) o)
    (hb : ∀ x ∈ o.after, Region.binds .any x = true → x.on < pre.length) (hd : ∀ d, o.dst = some d → d < nt) (hp : ∀ i e', pre[i]? = some e' → PairOK i e' e) :
    Trc P A nt all pre (o :: l) (c :: cs) s0 (e :: es) sf where
  len := by simp [h.len]
  uniq := h.uniq
  bnd := h.bnd
  ok := fun i o' e' h1 h2 => by
    cases i with
    | zero =>
      simp only [List.getElem?_cons_zero, Option.some.injEq] at h1 h2
      subst h1; subst h2
      exact ⟨hok, hg, by simp [hc], by simpa using ha, by simpa using hb, hd⟩
    | succ i =>
      simp only [List.getElem?_cons_succ] at h1 h2
      have := h.ok i o' e' h1 h2
      simp only [List.length_append, List.length_cons, List.length_nil, List.append_assoc, List.singleton_append] at this
      rw [show pre.length + (i + 1) = pre.length + (0 + 1) + i by omega]
      simpa using this
  pair := fun j e' h1 i e'' hi h2 => by
    cases j with
    | zero =>
      simp only [List.getElem?_cons_zero, Option.some.injEq] at h1
      subst h1
      rw [List.getElem?_append_left (by omega)] at h2
      exact hp i e'' h2
    | succ j =>
      simp only [List.getElem?_cons_succ] at h1
      exact h.pair j e' h1 i e'' (by simp; omega) (by simpa using h2)
  head := hs
  link := fun i e' h1 => by
    cases i with
    | zero =>
      simp only [List.getElem?_cons_zero, Option.some.injEq] at h1
      subst h1
      exact h.head
    | succ i =>
      simp only [List.getElem?_cons_succ] at h1
      exact h.link i e' h1

section
variable {P : Program} {A : Ann} {Ω : Type} {env : Env Ω} {out : Ω}

theorem sregD_trace (he : EnvOK P env) {nt : Nat} {all : List Oper} {k : SS → Option Ω} :
    ∀ (l : List Oper) (cs : List CR) (pre : List En) (lg : Log) (req : Nat) (s : SS), coR P nt true all l (pre.map (·.c.anc)) = some cs → sregD env A cs pre.length lg req s k = some out →
    Uniq s.t → (∀ p ∈ s.t, p.1 < nt) → Told pre lg req → ∃ (es : List En) (sf : SS), k sf = some out ∧ Trc P A nt all pre l cs s es sf
  | [], cs, pre, lg, req, s, hc, h, hu, hb, ht => by
    simp only [coR, Option.some.injEq] at hc; subst hc
    simp only [sregD] at h
    exact ⟨[], s, h, ⟨rfl, hu, hb, by simp, by simp, ⟨fun x => rfl, rfl⟩, by simp⟩⟩
  | o :: r, cs, pre, lg, req, s, hc, h, hu, hb, ht => by
    simp only [coR] at hc
    obtain ⟨hchk, hc⟩ := cond_some hc
    simp only [Bool.and_eq_true, Bool.not_true, Bool.false_or] at hchk
    have hdst : ∀ d, o.dst = some d → d < nt := fun d hd => by
      have := hchk.1
      rw [hd] at this; exact nlt this
    have hedge : ∀ x ∈ o.after, Region.binds .any x = true → x.on < pre.length := fun x hx hbx => by
      have := List.all_eq_true.1 hchk.2 x (by simpa using hx)
      simp only [hbx, Bool.not_true, Bool.false_or, List.length_map] at this
      exact nlt this
    split at hc
    · rename_i c l hco hr
      simp only [cond_true] at hr hc
      have main : ∀ (g : Option (Nat × Bool)), GuardOK all o ⟨o.dst, c, g, ancOf (pre.map (·.c.anc)) o⟩ → cs = ⟨o.dst, c, g, ancOf (pre.map (·.c.anc)) o⟩ :: l → ∃ (es : List En) (sf : SS), k sf = some out ∧ Trc P A nt all pre (o :: r) cs s es sf := by
        intro g hgd hcs
        subst hcs
        simp only [sregD] at h
        obtain ⟨hreq, h⟩ := cond_some h
        have run : ∀ (s1 : SS), Uniq s1.t → (∀ p ∈ s1.t, p.1 < nt) → (∀ x, lk s1.t x = lk s.t x) → s1.h = s.h → (∀ v ls s' kd, runs ⟨⟨o.dst, c, g, ancOf (pre.map (·.c.anc)) o⟩, s1, v, ls, s', kd⟩ true) →
            dop env A ⟨o.dst, c, g, ancOf (pre.map (·.c.anc)) o⟩ pre.length lg req s1 (fun v lg req s' => sregD env A l (pre.length + 1) lg req ⟨putD o.dst v s'.t, s'.h⟩ k) = some out →
            ∃ (es : List En) (sf : SS), k sf = some out ∧ Trc P A nt all pre (o :: r) (⟨o.dst, c, g, ancOf (pre.map (·.c.anc)) o⟩ :: l) s es sf := by
          intro s1 hu1 hb1 hl1 hh1 hr1 h1
          obtain ⟨e, lg', req', s2, h2, e1, e2, e3, hok, hp, ht', hu2, hb2⟩ := dop_sound (P := P) (o := o) (nt := nt) he rfl hchk.1 hco hu1 hb1 hr1 ht hreq h1
          have e1' := e1
          obtain ⟨es, sf, hk, T⟩ := sregD_trace he r l (pre ++ [e]) lg' req' ⟨putD o.dst e.v s2.t, s2.h⟩ (by simpa [e1] using hr) (by simpa using h2) (putD_uniq (d := o.dst) (x := e.v) hu2).1 (putD_bnd (d := o.dst) (v := e.v) hu2 hb2 hchk.1) ht'
          rw [e3.symm.trans rfl |> fun _ => show (⟨putD o.dst e.v s2.t, s2.h⟩ : SS) = e.s' from e3.symm] at T
          exact ⟨e :: es, sf, hk, T.cons ⟨fun x => by rw [e2]; exact hl1 x, by rw [e2]; exact hh1⟩ hok (by rw [e1]; exact hgd) e1.symm (by rw [e1]) hedge hdst hp⟩
        have skip : ∀ (s1 : SS), Uniq s1.t → (∀ p ∈ s1.t, p.1 < nt) → (∀ x, lk s1.t x = lk s.t x) → s1.h = s.h → (∀ v ls s' kd, runs ⟨⟨o.dst, c, g, ancOf (pre.map (·.c.anc)) o⟩, s1, v, ls, s', kd⟩ false) →
            sregD env A l (pre.length + 1) lg req ⟨putD o.dst (.tup []) s1.t, s1.h⟩ k = some out →
            ∃ (es : List En) (sf : SS), k sf = some out ∧ Trc P A nt all pre (o :: r) (⟨o.dst, c, g, ancOf (pre.map (·.c.anc)) o⟩ :: l) s es sf := by
          intro s1 hu1 hb1 hl1 hh1 hr1 h1
          let e : En := ⟨⟨o.dst, c, g, ancOf (pre.map (·.c.anc)) o⟩, s1, .tup [], [], ⟨putD o.dst (.tup []) s1.t, s1.h⟩, 0⟩
          have ht' : Told (pre ++ [e]) lg req := ht.cons (fun _ h => h) (fun _ h => h) (.inl ⟨rfl, rfl⟩)
          obtain ⟨es, sf, hk, T⟩ := sregD_trace he r l (pre ++ [e]) lg req ⟨putD o.dst (.tup []) s1.t, s1.h⟩ (by simpa [e] using hr) (by simpa using h1) (putD_uniq (d := o.dst) (x := .tup []) hu1).1 (putD_bnd (d := o.dst) (v := .tup []) hu1 hb1 hchk.1) ht'
          exact ⟨e :: es, sf, hk, Trc.cons (e := e) T ⟨hl1, hh1⟩ ⟨hu1, hb1, rfl, .inl ⟨rfl, hr1 _ _ _ _, rfl, rfl, rfl⟩⟩ hgd rfl rfl hedge hdst (pair_of ht hreq (.inl ⟨.inl rfl, rfl⟩))⟩
        rcases g with _ | ⟨d, want⟩
        · exact run s hu hb (fun _ => rfl) rfl (fun _ _ _ _ => by simp [runs]) h
        · dsimp only at h
          split at h
          · rename_i b hlb
            have hbd : ∀ v, ∀ p ∈ stt s.t d v, p.1 < nt := fun v p hp => by
              rcases (stt_uniq hu).2 p hp with rfl | ⟨_, h⟩
              · exact hb (d, lk s.t d) (lk_mem (n := d) (t := s.t) (by rw [hlb]; simp))
              · exact hb p h
            rcases br_some h with ⟨rfl, h⟩ | ⟨rfl, h⟩
            · have hl : ∀ x, lk (stt s.t d (.d (.v (.bool true)))) x = lk s.t x := fun x => by
                rw [lk_stt]; split
                · rename_i e; subst e; exact hlb.symm
                · rfl
              cases want with
              | true => exact run ⟨_, s.h⟩ (stt_uniq hu).1 (hbd _) hl rfl (fun _ _ _ _ => by simp only [runs]; exact .inl ⟨true, by rw [hl]; exact hlb, rfl⟩) h
              | false => exact skip ⟨_, s.h⟩ (stt_uniq hu).1 (hbd _) hl rfl (fun _ _ _ _ => by simp only [runs]; exact .inl ⟨true, by rw [hl]; exact hlb, rfl⟩) h
            · have hl : ∀ x, lk (stt s.t d (.d (.v (.bool false)))) x = lk s.t x := fun x => by
                rw [lk_stt]; split
                · rename_i e; subst e; exact hlb.symm
                · rfl
              cases want with
              | true => exact skip ⟨_, s.h⟩ (stt_uniq hu).1 (hbd _) hl rfl (fun _ _ _ _ => by simp only [runs]; exact .inl ⟨false, by rw [hl]; exact hlb, rfl⟩) h
              | false => exact run ⟨_, s.h⟩ (stt_uniq hu).1 (hbd _) hl rfl (fun _ _ _ _ => by simp only [runs]; exact .inl ⟨false, by rw [hl]; exact hlb, rfl⟩) h
          · rename_i hlb
            exact skip s hu hb (fun _ => rfl) rfl (fun _ _ _ _ => by simp only [runs]; exact .inr ⟨hlb, trivial⟩) h
          · simp at h
      split at hc
      · rename_i hgd
        simp only [Option.some.injEq] at hc
        exact main none (by simp [GuardOK, hgd]) hc.symm
      · rename_i j want hgd
        split at hc
        · rename_i d hd
          simp only [Option.some.injEq] at hc
          exact main (some (d, want)) (by simp only [GuardOK, hgd]; exact ⟨d, hd, rfl⟩) hc.symm
        · simp at hc
    · simp at hc
end
end Go.Sx
