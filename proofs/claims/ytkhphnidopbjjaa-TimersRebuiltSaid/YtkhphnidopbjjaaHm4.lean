/- Two heaps into which the same things are put, into the second only some of them: plain lists. -/
import Derived.Test.YtkhphnidopbjjaaHm3
namespace Go.Hm
open Go.Own Go.Own.MapTy

section
variable (key : Nat → Ky) (due : Nat → Int) (keep : Nat → Bool)
def iA (i : Nat) : It := ⟨(key i).run, (key i).kind, (key i).id, due i, (i : Int) + 1⟩
def cnt (i : Nat) : Nat := ((List.range i).filter keep).length
def iB (i : Nat) : It := ⟨(key i).run, (key i).kind, (key i).id, due i, (cnt keep i : Int) + 1⟩
theorem iA_key (i : Nat) : (iA key due i).key = key i := rfl
theorem iB_key (i : Nat) : (iB key due keep i).key = key i := rfl
theorem cnt_succ (i : Nat) : cnt keep (i + 1) = cnt keep i + if keep i then 1 else 0 := by
  unfold cnt
  rw [List.range_succ, List.filter_append]
  by_cases h : keep i <;> simp [h]
theorem cnt_le (i : Nat) : cnt keep i ≤ i := by unfold cnt; have := List.length_filter_le keep (List.range i); simpa using this
theorem cnt_mono {i j : Nat} (h : i ≤ j) : cnt keep i ≤ cnt keep j := by
  induction j with
  | zero => have : i = 0 := by omega
            rw [this]; exact Nat.le_refl _
  | succ j ih =>
    rw [cnt_succ]
    rcases Nat.lt_or_ge i (j + 1) with h' | h'
    · have := ih (by omega); omega
    · have : i = j + 1 := by omega
      subst this
      rw [cnt_succ]
      exact Nat.le_refl _
theorem cnt_lt {i j : Nat} (hk : keep i = true) (h : i < j) : cnt keep i < cnt keep j := by
  have h1 := cnt_succ keep i
  rw [if_pos hk] at h1
  have := cnt_mono keep (i := i + 1) (j := j) h
  omega
theorem le_AB {i j : Nat} (hi : keep i = true) (hj : keep j = true) : le (iA key due i) (iA key due j) ↔ le (iB key due keep i) (iB key due keep j) := by
  unfold le iA iB
  simp only
  have h1 : ((i : Int) + 1 ≤ (j : Int) + 1) ↔ ((cnt keep i : Int) + 1 ≤ (cnt keep j : Int) + 1) := by
    rcases Nat.lt_trichotomy i j with h | h | h
    · have := cnt_lt keep hi h; omega
    · subst h; omega
    · have := cnt_lt keep hj h; omega
  rw [h1]
theorem cnt_inj {i j : Nat} (hi : keep i = true) (hj : keep j = true) (h : cnt keep i = cnt keep j) : i = j := by
  rcases Nat.lt_trichotomy i j with h' | h' | h'
  · have := cnt_lt keep hi h'; omega
  · exact h'
  · have := cnt_lt keep hj h'; omega

/-- the heap holds just the things of the indices I -/
structure Has (f : Nat → It) (I : List Nat) (s : Hp) : Prop where
  good : Good s
  perm : s.L.Perm (I.map f)

theorem Has.len {f : Nat → It} {I : List Nat} {s : Hp} (h : Has f I s) : s.L.length = I.length := by have := h.perm.length_eq; simpa using this
theorem Has.absent {f : Nat → It} {I : List Nat} {s : Hp} (h : Has f I s) {k : Ky} (hk : ∀ i ∈ I, (f i).key ≠ k) : get s.M k = none := by
  cases h' : get s.M k with
  | none => rfl
  | some v =>
    obtain ⟨j, y, _, h2, h3⟩ := h.good.idx.only _ _ h'
    obtain ⟨i, hi, rfl⟩ := List.mem_map.1 (h.perm.mem_iff.1 (List.mem_of_getElem? h2))
    exact absurd h3 (hk i hi)
theorem Has.put {f : Nat → It} {I : List Nat} {s : Hp} (h : Has f I s) {k : Ky} {d : Int} (hk : ∀ i ∈ I, (f i).key ≠ k) (hl : I.length < 16384) {n : Nat} (hn : f n = ⟨k.run, k.kind, k.id, d, s.seq + 1⟩) :
    ∃ s', s.put k d = (s', 0) ∧ Has f (I ++ [n]) s' ∧ s'.seq = s.seq + 1 := by
  obtain ⟨g1, g2, g3, g4⟩ := h.good.put (k := k) (due := d) (by rw [h.absent hk]; rfl) (by rw [h.len]; omega)
  refine ⟨_, Prod.ext rfl g4, ⟨g1, g2.trans ?_⟩, g3⟩
  rw [List.map_append, ← hn]
  exact h.perm.append (List.Perm.refl _)
theorem Has.find {f : Nat → It} {I : List Nat} {s : Hp} (h : Has f I s) {i : Nat} (hi : i ∈ I) : ∃ j : Nat, get s.M (f i).key = some (j : Int) ∧ s.L[j]? = some (f i) := by
  obtain ⟨j, hj⟩ := List.getElem?_of_mem (h.perm.mem_iff.2 (List.mem_map.2 ⟨i, hi, rfl⟩))
  exact ⟨j, h.good.idx.at_ j _ hj, hj⟩
theorem Has.take {f : Nat → It} {I : List Nat} {s : Hp} (h : Has f I s) {i j : Nat} (hi : i ∈ I) (hj : s.L[j]? = some (f i)) : Has f (I.erase i) (s.take j) := by
  obtain ⟨g1, g2, _⟩ := h.good.take hj
  refine ⟨g1, ?_⟩
  have h1 := g2.trans h.perm
  have h2 : (I.map f).Perm (f i :: (I.erase i).map f) := by
    have := (List.perm_cons_erase hi).map f
    simpa using this
  exact List.Perm.cons_inv (h1.trans h2)
theorem Has.top {f : Nat → It} {I : List Nat} {s : Hp} (h : Has f I s) (hI : I ≠ []) : ∃ i, i ∈ I ∧ s.L[0]? = some (f i) ∧ ∀ j ∈ I, le (f i) (f j) := by
  have hp : 0 < s.L.length := by
    rw [h.len]
    exact List.length_pos_iff.2 hI
  have hx : s.L[0]? = some s.L[0] := by simp [hp]
  obtain ⟨i, hi, e⟩ := List.mem_map.1 (h.perm.mem_iff.1 (List.mem_of_getElem? hx))
  refine ⟨i, hi, by rw [hx, e], fun j hj => ?_⟩
  obtain ⟨m, hm, hym⟩ := List.getElem_of_mem (h.perm.mem_iff.2 (List.mem_map.2 ⟨j, hj, rfl⟩))
  rw [e]
  exact h.good.heap.min hx m (f j) (by rw [List.getElem?_eq_getElem hm, hym])
/-- the tops of the two heaps are of one index -/
theorem same_top {I : List Nat} {a b : Hp} (ha : Has (iA key due) I a) (hb : Has (iB key due keep) I b) (hI : I ≠ []) (hk : ∀ i ∈ I, keep i = true) :
    ∃ i, i ∈ I ∧ a.L[0]? = some (iA key due i) ∧ b.L[0]? = some (iB key due keep i) := by
  obtain ⟨i, hi, h1, h2⟩ := ha.top hI
  obtain ⟨j, hj, h3, h4⟩ := hb.top hI
  have e1 := (le_AB key due keep (hk i hi) (hk j hj)).1 (h2 j hj)
  have e2 := h4 i hi
  have : i = j := by
    refine cnt_inj keep (hk i hi) (hk j hj) ?_
    unfold le iB at e1 e2
    simp only at e1 e2
    omega
  subst this
  exact ⟨i, hi, h1, h3⟩
end
end Go.Hm
