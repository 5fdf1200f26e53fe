/- Operations, eighth part: structs, literal slices, slicing, make. -/
import Derived.Test.YtpnnnklahanecaaSxOps7
namespace Go.Sx

section
variable {P : Program} {A : Ann} {o : Oper} {s : SS} {Ω : Type} {k : SV → List Nat → SS → Option Ω} {out : Ω}

theorem run_zc {t : TypeId} {i : TypeInfo} {zv : Value} (hi : P.info? t = some i) (hz : i.zero = some zv) (w : World) : (zeroValue t).run P w = .ok zv w := by
  simp [zeroValue, typeInfo, hi, hz]

theorem mapM_fields (w : World) : ∀ (fs : List Field), (∀ f ∈ fs, ∃ i, P.info? f.type = some i) →
    (fs.mapM fun f => (do pure (f.offset, ← sizeOf f.type) : Sem (Nat × Nat))).run P w = .ok (fs.map fun f => (f.offset, szT P f.type)) w
  | [], _ => by simp
  | f :: fs, h => by
    simp only [List.mapM_cons, Sem.run_bind, run_szT w (h f (by simp)), Result.andThen_ok, Sem.run_pure, mapM_fields w fs fun g hg => h g (by simp [hg])]
    simp

theorem snd_bld_struct {t : TypeId} {ps : Array (Nat × Operand)} {fs : Array Field} {z : List SV} {qs : List (Nat × Nat × CA)} (ho : o.op = .build t ps) (hu : uT P t = .struct fs)
    (hz : zcT P t = some z) (hq : coP (fun i => (fs.toList[i]?).map fun f => (f.offset, szT P f.type)) ps.toList = some qs) (hfs : ∀ f ∈ fs.toList, ∃ i, P.info? f.type = some i)
    {env : Env Ω} (h : sop env A (.bld z qs) s k = some out) : PlainV P o s k out := by
  simp only [sop] at h
  split at h
  · rename_i c hc
    refine ⟨_, h, fun cx w a hg ht => ?_⟩
    obtain ⟨i, zv, c', hi, hzv, hcc, _, _, hr⟩ := zcT_sound hz
    obtain ⟨cs, h1, h2⟩ := fill_sound ht (pl' := fun i => (fs.toList.map fun f => (f.offset, szT P f.type))[i]?) (by
      intro i r hr; simpa using hr) hq (hr cx w).1 hc
    refine ⟨.agg ⟨cs⟩, ?_, by simp only [SRep]; exact ⟨cs, rfl, h2⟩⟩
    have hm : (fs.mapM fun f => (do pure (f.offset, ← sizeOf f.type) : Sem (Nat × Nat))).run P w = .ok (fs.toList.map fun f => (f.offset, szT P f.type)).toArray w := by
      rw [← Array.toArray_toList (xs := fs), List.mapM_toArray, Sem.run_map, mapM_fields w fs.toList hfs]; simp
    simp only [execOp, ho, Instr.build, Sem.run_bind, run_zc hi hzv, Result.andThen_ok, run_uT w (t := t) (by rw [hu]; simp), hu, hm, hcc]
    have e : (Array.map (fun x => (x.1, a.eval x.2)) ps).toList = ps.toList.map fun p => (p.1, a.eval p.2) := by simp
    simp only [List.getElem?_toArray, e, h1]
    simp
  · simp at h

theorem snd_bld_array {t e : TypeId} {n : Nat} {ps : Array (Nat × Operand)} {z : List SV} {qs : List (Nat × Nat × CA)} (ho : o.op = .build t ps) (hu : uT P t = .array n e)
    (hz : zcT P t = some z) (hq : coP (fun i => some (i * szT P e, szT P e)) ps.toList = some qs) (he : ∃ i, P.info? e = some i)
    {env : Env Ω} (h : sop env A (.bld z qs) s k = some out) : PlainV P o s k out := by
  simp only [sop] at h
  split at h
  · rename_i c hc
    refine ⟨_, h, fun cx w a hg ht => ?_⟩
    obtain ⟨i, zv, c', hi, hzv, hcc, _, _, hr⟩ := zcT_sound hz
    obtain ⟨cs, h1, h2⟩ := fill_sound ht (pl' := fun i => some (i * szT P e, szT P e)) (fun i r hr => hr) hq (hr cx w).1 hc
    refine ⟨.agg ⟨cs⟩, ?_, by simp only [SRep]; exact ⟨cs, rfl, h2⟩⟩
    have e' : (Array.map (fun x => (x.1, a.eval x.2)) ps).toList = ps.toList.map fun p => (p.1, a.eval p.2) := by simp
    simp [execOp, ho, Instr.build, run_zc hi hzv, run_uT w (t := t) (by rw [hu]; simp), hu, run_szT w he, hcc, e', h1]
  · simp at h

theorem rep_length (z : List SV) : ∀ n, (rep z n).length = n * z.length
  | 0 => by simp [rep]
  | n + 1 => by simp [rep, rep_length z n, Nat.add_mul, Nat.add_comm]

theorem rep_sound {cx : Cx} {w : World} {z : List SV} {z' : List Value} (hr : SRepL cx w z z') : ∀ n, SRepL cx w (rep z n) ((List.replicate n z').flatten)
  | 0 => by simp [rep, SRepL]
  | n + 1 => by simp only [rep, List.replicate_succ, List.flatten_cons]; exact hr.append (rep_sound hr n)

theorem made_eq (z' : List Value) (hz : z' ≠ []) (n : Nat) : ((Array.range (n * z'.length)).map fun i => (Array.mk z')[i % (Array.mk z').size]!) = ⟨(List.replicate n z').flatten⟩ := by
  apply Array.ext'
  simp only [Array.toList_map, Array.toList_range]
  induction n with
  | zero => simp
  | succ n ih =>
    rw [List.replicate_succ', List.flatten_append, Nat.add_mul, Nat.one_mul, List.range_add, List.map_append, ih]
    congr 1
    simp only [List.map_map, List.flatten_cons, List.flatten_nil, List.append_nil, List.size_toArray]
    apply List.ext_getElem
    · simp
    · intro i h1 h2
      simp only [List.length_map, List.length_range] at h1
      simp [Nat.mod_eq_of_lt h1, h1]

theorem snd_bsl {t e : TypeId} {n : Nat} {ps : Array (Nat × Operand)} {z : List SV} {qs : List (Nat × Nat × CA)} (ho : o.op = .buildSlice t n ps) (hu : uT P t = .slice e)
    (hz : zcT P e = some z) (hq : coP (fun i => some (i * szT P e, szT P e)) ps.toList = some qs) (hn : n * szT P e ≤ 65536) (hs0 : szT P e ≠ 0)
    {env : Env Ω} (h : sop env A (.bsl e (szT P e) n z qs) s k = some out) : PlainE P o s k out := by
  simp only [sop] at h
  split at h
  · rename_i c hc
    refine ⟨_, _, _, h, OpOK0.new fun cx w a hg ht => ?_, .new _ _⟩
    obtain ⟨i, zv, c', hi, hzv, hcc, hzl, hsz, hr⟩ := zcT_sound hz
    have hcl := (hr cx w).1.length
    obtain ⟨cs, h1, h2⟩ := fill_sound ht (pl' := fun i => some (i * szT P e, szT P e)) (fun i r hr => hr) hq (rep_sound (hr cx w).1 n) hc
    have hne : c' ≠ [] := by intro e0; apply hs0; rw [← hzl, hcl, e0]; rfl
    have hmade : ((Array.range (n * szT P e)).map fun i => zv.cells[i % zv.cells.size]!) = ⟨(List.replicate n c').flatten⟩ := by
      have := made_eq c' hne n
      rw [← hcl, hzl] at this
      rw [hcc]; exact this
    have e' : (Array.map (fun x => (x.1, a.eval x.2)) ps).toList = ps.toList.map fun p => (p.1, a.eval p.2) := by simp
    refine ⟨.slice (some (ad w.heap.size 0)) n n, w, .cells ⟨cs⟩ e, 0, 0, false, 0, ⟨rfl, rfl, rfl, _, _, rfl⟩, ?_, fun cx' w' e1 e2 gr => ?_⟩
    · have h24 : ¬ (n * szT P e > 2 ^ 24) := by omega
      by_cases h0 : n = 0
      · subst h0
        simp only [Nat.zero_mul, List.replicate_zero, List.flatten_nil] at h1 hmade
        simp [execOp, ho, Instr.buildSlice, run_uT w (t := t) (by rw [hu]; simp), hu, run_szT w ⟨i, hi⟩, e', newRow, ad]
        rw [show (Array.map (fun _ => (default : Value)) (Array.range 0)) = ⟨[]⟩ by simp, h1]
        simp
      · have hns : ¬ (n = 0 ∨ szT P e = 0) := by omega
        simp [execOp, ho, Instr.buildSlice, run_uT w (t := t) (by rw [hu]; simp), hu, run_szT w ⟨i, hi⟩, e', newRow, ad, hns, run_zc hi hzv]
        rw [if_neg (by omega)]
        simp [hmade, h1]
        intro h9
        exact absurd (Nat.mul_eq_zero.1 h9) hns
    · refine ⟨⟨e, cs, by subst e1; subst e2; simp [Cx.ext], h2.grow gr⟩, ?_⟩
      subst e1; subst e2
      simp only [SRep, Cx.ext, hg.n]; simp [← hg.n]
  · simp at h
end
end Go.Sx
