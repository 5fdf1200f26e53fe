/- Contracts by hand. -/
import Derived.Test.YtpnnnklahanecaaSxEnv
set_option linter.unusedVariables false
set_option linter.unusedSimpArgs false
namespace Go.Sx
/-- A context that owns nothing: one block lent as data, the rest a frame. -/
def cxL (w : World) (d : Nat → Prop) : Cx := { n := 0, th := fun _ => 0, ln := fun _ => 0, cp := fun _ => 0, nl := fun _ => false, rs := fun _ => 0, fz := fun b => b < w.heap.size ∧ d b, fr := fun b => b < w.heap.size ∧ ¬ d b }

theorem gamL (w : World) (d : Nat → Prop) : Gam (cxL w d) [] w := by
  refine ⟨rfl, fun l => ?_, fun l hl => ?_, fun l hl => ?_, fun l m hl => ?_, fun b hb => ?_, fun b hb hf => hf.2 hb.2⟩
  · simp [hget, ORep]
  · simp [liv, hget] at hl
  · simp [liv, hget] at hl
  · simp [liv, hget] at hl
  · rcases hb with hb | hb
    · exact hb.1
    · exact hb.1

theorem cxL_all {w : World} {d : Nat → Prop} {b : Nat} (hb : b < w.heap.size) : (cxL w d).hd b := by
  by_cases h : d b
  · exact .inl ⟨hb, h⟩
  · exact .inr ⟨hb, h⟩

/-- A fresh row of integers, handed over to the caller's context. -/
theorem fresh_row {cx : Cx} {h : SH} {w : World} (hg : Gam cx h w) {d : Nat → Prop} {p : Nat → Bool} {cxs : Cx} {w' : World} {h' : SH} (gr : Grow p (cxL w d) w cxs w') (hG : Gam cxs h' w') {l : Nat} {t : TypeId} {k : IntKind} {xs : List Int} {v : Value}
    (hr : SRep cxs w' (.own l) v) (ho : hget h' l = .rowi t k xs) : ∃ cx', Grow0 cx w cx' w' ∧ SRep cx' w' (.own h.length) v ∧ Gam cx' (h ++ [.rowi t k xs]) w' := by
  have hsame : ∀ b, b < w.heap.size → w'.heap[b]? = w.heap[b]? := fun b hb => gr.same b (cxL_all hb)
  obtain ⟨g1, gr1⟩ := Gam.later hg hsame gr.size gr.io
  have hobj := hG.obj l
  rw [ho] at hobj
  simp only [ORep] at hobj
  have hT := Gam.take g1 (.rowi t k xs) (cxs.th l) (cxs.ln l) (cxs.cp l) (cxs.nl l) (cxs.rs l) (by simpa [ORep, Cx.ext] using hobj) (fun hl => by
    have hnl : cxs.nl l = false := by
      have e : hget (h ++ [SO.rowi t k xs]) cx.n = .rowi t k xs := by rw [hg.n]; exact hget_append_eq
      unfold liv at hl
      rw [e] at hl
      simpa [Cx.ext] using hl
    have hlv : liv cxs h' l := by simp [liv, ho, hnl]
    have hge : w.heap.size ≤ cxs.th l := by
      rcases Nat.lt_or_ge (cxs.th l) w.heap.size with h | h
      · exact absurd (gr.hd _ (cxL_all h)) (hG.own l hlv)
      · exact h
    exact ⟨hG.lt l hlv, fun hh => by have := hg.fzlt _ hh; omega, fun m hm e => by have := hg.lt m hm; omega⟩)
  refine ⟨_, gr1.trans hT.2, ?_, hT.1⟩
  simp only [SRep] at hr ⊢
  have hn := hg.n
  simp [Cx.ext, ← hn, hr.2]

/-- No literal with more elements than room. -/
def capOk : SV → Bool
  | .cs _ _ _ n c => Nat.ble n c
  | _ => true

theorem slice_ad {cx : Cx} {h : SH} {w : World} (g : Gam cx h w) {x : SV} {u : Value} (hx : SRep cx w x u) {kd : IntKind} {ys : List Int} (hi : intsOf h kd x = some ys) (hc : capOk x = true)
    {bb : Option Addr} {n cc : Nat} (hu : u = .slice bb n cc) : n ≤ cc ∧ (n = 0 ∨ bb = none ∨ ∃ b o, bb = some (ad b o)) := by
  unfold intsOf at hi
  split at hi
  · rename_i k' l
    simp only [SRep, DRep] at hx
    obtain ⟨a, c, e, hcc, hl⟩ := hx
    rw [e] at hu
    simp only [Value.slice.injEq] at hu
    obtain ⟨rfl, rfl, rfl⟩ := hu
    refine ⟨hcc, ?_⟩
    by_cases h0 : l = []
    · subst h0; exact .inl rfl
    · obtain ⟨b, o, e1, _⟩ := hl h0
      exact .inr (.inr ⟨b, o, e1⟩)
  · simp only [SRep, DRep] at hx
    rw [hx.1] at hu
    simp only [Value.slice.injEq] at hu
    obtain ⟨rfl, rfl, rfl⟩ := hu
    exact ⟨Nat.le_refl _, .inl rfl⟩
  · simp only [SRep, DRep] at hx
    rw [hx.1] at hu
    simp only [Value.slice.injEq] at hu
    obtain ⟨rfl, rfl, rfl⟩ := hu
    exact ⟨Nat.zero_le _, .inl rfl⟩
  · rename_i l
    have ho := g.obj l
    simp only [SRep] at hx
    split at hi
    · rename_i t k' xs hg
      rw [hg] at ho
      obtain ⟨hln, hrs, hcp, hnl, hb⟩ := ho
      rw [hx.2] at hu
      simp only [Value.slice.injEq] at hu
      obtain ⟨e1, rfl, rfl⟩ := hu
      refine ⟨by omega, ?_⟩
      cases hq : cx.nl l with
      | true => rw [hq] at e1; exact .inr (.inl e1.symm)
      | false => rw [hq] at e1; exact .inr (.inr ⟨_, _, e1.symm⟩)
    · simp at hi
  · rename_i l o' sz m c
    simp only [SRep] at hx
    rw [hx.2] at hu
    simp only [Value.slice.injEq] at hu
    obtain ⟨rfl, rfl, rfl⟩ := hu
    simp only [capOk] at hc
    exact ⟨Nat.le_of_ble_eq_true hc, .inr (.inr ⟨_, _, rfl⟩)⟩
  · simp at hi

theorem src_ad {cx : Cx} {h : SH} {w : World} (g : Gam cx h w) {x : SV} {u : Value} (hx : SRep cx w x u) {kd : IntKind} {ys : List Int} (hi : intsOf h kd x = some ys) (hc : capOk x = true) :
    ∃ bb cc, u = .slice bb ys.length cc ∧ ys.length ≤ cc ∧ (ys ≠ [] → ∃ b o, bb = some (ad b o) ∧ b < w.heap.size ∧ ∀ i, i < ys.length → w.cell? (ad b (o + i)) = some (.int kd (ys.getD i 0))) := by
  obtain ⟨bb, cc, s⟩ := src_ints g hx hi
  obtain ⟨h1, h2⟩ := slice_ad g hx hi hc s.val
  refine ⟨bb, cc, s.val, h1, fun hn => ?_⟩
  have hl : 0 < ys.length := List.length_pos_iff.2 hn
  rcases h2 with h2 | h2 | ⟨b, o, h2⟩
  · omega
  · have := s.nil h2
    simp at this
    exact absurd this hn
  · have hcell : ∀ i, i < ys.length → w.cell? (ad b (o + i)) = some (.int kd (ys.getD i 0)) := fun i hi => by
      have := s.cell _ h2 i (.int kd (ys.getD i 0)) (by simp [List.getD_eq_getElem?_getD, List.getElem?_eq_getElem hi])
      rwa [addr_add] at this
    refine ⟨b, o, h2, ?_, hcell⟩
    have := hcell 0 hl
    simp only [World.cell?, ad] at this
    cases hb : w.heap[b]? with
    | none => rw [hb] at this; simp at this
    | some q => exact (Array.getElem?_eq_some_iff.1 hb).1

/-- A row of integers that may be nil, handed over. -/
theorem nil_row {cx : Cx} {h : SH} {w w' : World} (hg : Gam cx h w) (hs : ∀ b, b < w.heap.size → w'.heap[b]? = w.heap[b]?) (hz : w.heap.size ≤ w'.heap.size) (hio : Io w w') (t : TypeId) (k : IntKind) :
    ∃ cx', Grow0 cx w cx' w' ∧ SRep cx' w' (.own h.length) (.slice none 0 0) ∧ Gam cx' (h ++ [.rowi t k []]) w' := by
  obtain ⟨g1, gr1⟩ := Gam.later hg hs hz hio
  have hT := Gam.take g1 (.rowi t k []) 0 0 0 true 1 (by simp [ORep, Cx.ext]) (fun hl => by
    have e : hget (h ++ [SO.rowi t k []]) cx.n = .rowi t k [] := by rw [hg.n]; exact hget_append_eq
    unfold liv at hl
    rw [e] at hl
    simp [Cx.ext] at hl)
  refine ⟨_, gr1.trans hT.2, ?_, hT.1⟩
  have hn := hg.n
  simp [SRep, Cx.ext, ← hn]

def sClone (k : IntKind) (t by_ : Nat) {Ω : Type} : Spec Ω := fun args h kk => match args with
  | [x] => bif capOk x then (match intsOf h k x with
    | some xs => br (fits xs.length by_) (kk (.own h.length) [] [] (h ++ [.rowi t k xs])) none
    | none => none) else none
  | _ => none

theorem clone_par {k : IntKind} {t by_ : Nat} {Ω Ω' : Type} : SpecPar (sClone k t by_ (Ω := Ω)) (sClone k t by_ (Ω := Ω')) := by
  intro args h kk out hs
  unfold sClone at hs ⊢
  split at hs
  · rename_i x
    cases hc : capOk x with
    | false => rw [hc] at hs; simp at hs
    | true =>
      rw [hc] at hs
      simp only [cond_true] at hs ⊢
      split at hs
      · rename_i xs hi
        cases hf : fits xs.length by_ with
        | false => rw [hf] at hs; simp [br] at hs
        | true =>
          rw [hf] at hs
          exact ⟨_, _, _, _, by simpa [br] using hs, fun k' => by simp [br]⟩
      · simp at hs
  · simp at hs

theorem clone_good {P : Program} {k : IntKind} {t by_ : Nat} {g : Nat} {fn : Func} (hf : P.funcs[g]? = some fn) (hname : (fn.name == "runtime.NumGoroutine") = false) {C : CF} (hC : coF P fn = some C) {A : Ann} {e : {Ω : Type} → Env Ω} (he : GoodE P e) (hmix : P.follows .mixedOrders = true)
    (r0 : ∀ cc, sxFn (e (Ω := SV × SH)) A C [.d (.v (.slice none 0 cc))] [] (fun r h => some (r, h)) = some (.d (.v (.slice none 0 0)), []))
    (r1 : ∀ a c, ∃ h' l, sxFn (e (Ω := SV × SH)) A C [.d (.v (.slice (some a) 0 c))] [] (fun r h => some (r, h)) = br (fits 0 by_) (some (.own l, h')) none ∧ hget h' l = .rowi t k [])
    (r2 : ∀ x r, ∃ h' l, sxFn (e (Ω := SV × SH)) A C [.d (.ints k (x :: r))] [] (fun r h => some (r, h)) = br (fits (r.length + 1) by_) (some (.own l, h')) none ∧ hget h' l = .rowi t k (x :: r)) :
    Good1 P g (fun {Ω} => sClone k t by_ (Ω := Ω)) := by
  have hbody : ∃ c, fn.body = some c := by
    unfold coF at hC
    split at hC
    · rename_i c hb; exact ⟨c, hb⟩
    · cases hC
  obtain ⟨c, hb⟩ := hbody
  have henter : ∀ (args : Array Value) (w : World), (callFunc g args).run P w = .ok (.enter g args) w := fun args w => by
    have h1 : fn.name ≠ "runtime.NumGoroutine" := by simpa using hname
    simp [callFunc, hf, h1, hb]
  refine ⟨fun Ω => ⟨henter, fun args h kk out hs => ?_⟩, fun Ω Ω' => clone_par⟩
  unfold sClone at hs
  split at hs
  · rename_i x
    cases hcap : capOk x with
    | false => rw [hcap] at hs; simp at hs
    | true =>
    rw [hcap] at hs
    simp only [cond_true] at hs
    split at hs
    · rename_i xs hi
      cases hft : fits xs.length by_ with
      | false => rw [hft] at hs; simp [br] at hs
      | true =>
      rw [hft] at hs
      refine ⟨_, _, _, _, by simpa [br] using hs, Keeps.new h _, fun cx w vals hg ha => ?_⟩
      match vals, ha with
      | [u], ha =>
        simp only [SRepL, and_true] at ha
        obtain ⟨bb, cc, e1, hle, hcell⟩ := src_ad hg ha hi hcap
        have conv : ∀ {p : Nat → Bool} {d : Nat → Prop} {cxs : Cx} {w' : World}, Grow p (cxL w d) w cxs w' → ∀ b, b < w.heap.size → w'.heap[b]? = w.heap[b]? := fun gr b hb => gr.same b (cxL_all hb)
        have nm : (fun l => nmem l []) = fun _ => false := funext fun l => by simp [nmem]
        rw [nm]
        match xs, e1, hle, hcell, hft, hi with
        | [], e1, hle, hcell, hft, hi =>
          match bb, e1 with
          | none, e1 =>
            refine (fn_calls (he.ok _) hmix hf hC (r0 cc) (cxL w (fun _ => False)) w [u] (gamL w _) (by simp [SRepL, SRep, DRep, cellV, e1])).mono fun e w' ⟨v, cxs, h1, gr, hr, hG⟩ => ?_
            simp only [SRep, DRep] at hr
            obtain ⟨cx', h2, h3, h4⟩ := nil_row hg (conv gr) gr.size gr.io t k
            exact ⟨v, cx', h1, h2, by rw [hr.1]; exact h3, h4⟩
          | some a, e1 =>
            obtain ⟨h', l, hrun, ho⟩ := r1 a cc
            have hft' : fits 0 by_ = true := by simpa using hft
            rw [hft'] at hrun
            simp only [br, cond_true] at hrun
            refine (fn_calls (he.ok _) hmix hf hC hrun (cxL w (fun _ => False)) w [u] (gamL w _) (by simp [SRepL, SRep, DRep, cellV, e1])).mono fun e w' ⟨v, cxs, h1, gr, hr, hG⟩ => ?_
            obtain ⟨cx', h2, h3, h4⟩ := fresh_row hg gr hG hr ho
            exact ⟨v, cx', h1, h2, h3, h4⟩
        | x' :: r, e1, hle, hcell, hft, hi =>
          obtain ⟨b, o, hb', hlt, hce⟩ := hcell (by simp)
          obtain ⟨h', l, hrun, ho⟩ := r2 x' r
          have hft' : fits (r.length + 1) by_ = true := by simpa using hft
          rw [hft'] at hrun
          simp only [br, cond_true] at hrun
          refine (fn_calls (he.ok _) hmix hf hC hrun (cxL w (fun q => q = b)) w [u] (gamL w _) (by
            simp only [SRepL, SRep, DRep, and_true]
            exact ⟨bb, cc, e1, hle, fun _ => ⟨b, o, hb', ⟨hlt, rfl⟩, hce⟩⟩)).mono fun e w' ⟨v, cxs, h1, gr, hr, hG⟩ => ?_
          obtain ⟨cx', h2, h3, h4⟩ := fresh_row hg gr hG hr ho
          exact ⟨v, cx', h1, h2, h3, h4⟩
      | [], ha => simp [SRepL] at ha
      | _ :: _ :: _, ha => simp [SRepL] at ha
    · simp at hs
  · simp at hs
end Go.Sx
