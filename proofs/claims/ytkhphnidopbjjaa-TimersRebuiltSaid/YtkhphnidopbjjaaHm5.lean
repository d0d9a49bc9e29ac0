/- Sorted permutations are one; two heaps of which one holds the same things in the same order: plain lists. -/
import Derived.Test.YtkhphnidopbjjaaHm4
namespace Go.Hm
open Go.Own Go.Own.MapTy

theorem sorted_unique {α : Type} {r : α → α → Prop} : ∀ {l1 l2 : List α}, l1.Perm l2 → l1.Pairwise r → l2.Pairwise r → (∀ a ∈ l1, ∀ b ∈ l1, r a b → r b a → a = b) → l1 = l2
  | [], l2, hp, _, _, _ => by rw [List.Perm.nil_eq hp]
  | a :: l1, [], hp, _, _, _ => by cases List.Perm.eq_nil hp
  | a :: l1, b :: l2, hp, h1, h2, ha => by
    have h1' := List.pairwise_cons.1 h1
    have h2' := List.pairwise_cons.1 h2
    have hb : b ∈ a :: l1 := hp.mem_iff.2 (by simp)
    have haa : a ∈ b :: l2 := hp.mem_iff.1 (by simp)
    have e : a = b := by
      rcases List.mem_cons.1 hb with h | h
      · exact h.symm
      · rcases List.mem_cons.1 haa with h' | h'
        · exact h'
        · exact ha a (by simp) b hb (h1'.1 b h) (h2'.1 a h')
    subst e
    rw [sorted_unique (List.Perm.cons_inv hp) h1'.2 h2'.2 (fun x hx y hy => ha x (by simp [hx]) y (by simp [hy]))]

theorem le_antisymm_seq {a b : It} (h : le a b) (k : le b a) : a.due = b.due ∧ a.seq = b.seq := by unfold le at *; omega

section
variable (key : Nat → Ky) (due : Nat → Int) (keep : Nat → Bool)
/-- a permutation of a list of items that a function gives is given by a permutation of the indices -/
theorem perm_map_of {f : Nat → It} {idx : It → Nat} (hf : ∀ i, idx (f i) = i) {l : List It} {I : List Nat} (h : l.Perm (I.map f)) : ∃ J : List Nat, J.Perm I ∧ l = J.map f := by
  refine ⟨l.map idx, ?_, ?_⟩
  · have := h.map idx
    rw [List.map_map] at this
    have e : (idx ∘ f) = id := by funext i; exact hf i
    rw [e, List.map_id] at this
    exact this
  · rw [List.map_map]
    have : ∀ x ∈ l, (f ∘ idx) x = x := by
      intro x hx
      obtain ⟨i, _, rfl⟩ := List.mem_map.1 (h.mem_iff.1 hx)
      simp [hf]
    conv => lhs; rw [← List.map_id l]
    exact List.map_congr_left fun x hx => (this x hx).symm
/-- the two heaps' things, each sorted, are of the same indices in the same order -/
theorem same_order {idx : It → Nat} (hA : ∀ i, idx (iA key due i) = i) (hB : ∀ i, idx (iB key due keep i) = i) {I : List Nat} (hk : ∀ i ∈ I, keep i = true) {xs ys : List It}
    (hx : xs.Perm (I.map (iA key due))) (hy : ys.Perm (I.map (iB key due keep))) (sx : xs.Pairwise le) (sy : ys.Pairwise le) : ∃ J : List Nat, J.Perm I ∧ xs = J.map (iA key due) ∧ ys = J.map (iB key due keep) := by
  obtain ⟨J, hJ, rfl⟩ := perm_map_of hA hx
  obtain ⟨K, hK, rfl⟩ := perm_map_of hB hy
  have hkJ : ∀ i ∈ J, keep i = true := fun i hi => hk i (hJ.mem_iff.1 hi)
  have hkK : ∀ i ∈ K, keep i = true := fun i hi => hk i (hK.mem_iff.1 hi)
  have s1 : J.Pairwise (fun i j => le (iA key due i) (iA key due j)) := List.pairwise_map.1 sx
  have s2 : K.Pairwise (fun i j => le (iB key due keep i) (iB key due keep j)) := List.pairwise_map.1 sy
  have s3 : K.Pairwise (fun i j => le (iA key due i) (iA key due j)) := List.Pairwise.imp_of_mem (fun {i j} hi hj h => (le_AB key due keep (hkK i hi) (hkK j hj)).2 h) s2
  have e : J = K := sorted_unique (hJ.trans hK.symm) s1 s3 (fun i _ j _ h1 h2 => by
    have := (le_antisymm_seq h1 h2).2
    simp only [iA] at this
    omega)
  subst e
  exact ⟨J, hJ, rfl, rfl⟩
end
end Go.Hm
