/- The heap's methods, walked: All. -/
import Derived.Test.YtkhphnidopbjjaaSo
import Derived.Test.YtkhphnidopbjjaaH9
namespace Go.Proofs.Ytkhphnidopbjjaa
open Go.RowKit Go.Own Go.Own.MapTy Go.Hm
open Go.Own.Cells (sz enc)

theorem row_of_owns {w : World} {base : Nat} {e : TypeId} {v : Value} {xs : List It} (h : w.ownsRow base e 5 v xs.length (xs.flatMap enc)) : RowAt w e v xs ∧ ∀ g, v.ownBlock = some g → base ≤ g := by
  obtain ⟨_, ⟨rfl, h0⟩ | ⟨g, cap, cur, rfl, hb, hh, hl, hm, hs, ht⟩⟩ := h
  · refine ⟨.inl ⟨rfl, List.eq_nil_of_length_eq_zero h0⟩, fun g h => by simp [Value.ownBlock] at h⟩
  · refine ⟨.inr ⟨g, 0, cap, cur, rfl, hh, hl, hm, by simp only [sz]; omega, fun j u hu => ?_⟩, fun g' h => by cases h; exact hb⟩
    rw [← ht, List.getElem?_take] at hu
    split at hu
    · simpa using hu
    · cases hu

theorem clone_items (v : Value) (xs : List It) (w : World) (h : RowAt w 35 v xs) (hn : xs.length ≤ 16384) :
    Calls Try.prog 45 #[v] w fun e w' => ∃ v', e = .returned v' ∧ RowAt w' 35 v' xs ∧ Below w.heap.size w w' ∧ ∀ g, v'.ownBlock = some g → w.heap.size ≤ g := by
  by_cases hv : v = .slice none 0 0
  · subst hv
    have hx : xs = [] := by
      rcases h with ⟨_, h⟩ | ⟨g, off, cap, _, h, _⟩
      · exact h
      · cases h
    subst hx
    exact (AnyE.slices_Clone_nil Try.cloneItem 0 0 w).mono fun e w' ⟨he, hw⟩ => ⟨_, he, by rw [hw]; exact h, by rw [hw]; exact Below.refl _ w, fun g h => by simp [Value.ownBlock] at h⟩
  · obtain ⟨g, off, cap, rfl⟩ : ∃ g off cap, v = .slice (some ⟨g, off, none⟩) xs.length cap := by
      rcases h with ⟨h, _⟩ | ⟨g, off, cap, _, h, _⟩
      · exact absurd h hv
      · exact ⟨g, off, cap, h⟩
    obtain ⟨i0, hi, hz, hs, hb⟩ := info_parts info35
    have hc := h.cells
    exact (AnyE.slices_Clone Try.cloneItem i0 _ 5 40 hi hz hs hb (by rfl) (by omega) Try.sizeOf35 g off xs.length cap (xs.flatMap enc) w (by rw [flat_len]; rfl) (by unfold maxLen; omega) (by omega) hc (fun u hu => by
        obtain ⟨x, _, hx⟩ := List.mem_flatMap.1 hu
        simp [enc, itEnc] at hx
        rcases hx with rfl | rfl | rfl | rfl | rfl <;> rfl)).mono fun e w' ⟨v', he, ho, _, hB⟩ => ⟨v', he, (row_of_owns ho).1, hB, (row_of_owns ho).2⟩

set_option maxHeartbeats 1000000 in
theorem all_any (hb : Nat) (lv mv : Value) (T : TypeId) (s : Hp) (w : World) (H : HV w hb lv mv T s) (hcap : s.L.length ≤ 16384) :
    Calls Try.prog 19 #[.pointer (some ⟨hb, 0, none⟩)] w fun e w' => ∃ (v : Value) (ys : List It), e = .returned v ∧ ys.Perm s.L ∧ ys.Pairwise Hm.le ∧ RowAt w' 35 v ys ∧ Below w.heap.size w w' ∧ ∀ g, v.ownBlock = some g → w.heap.size ≤ g := by
  have b0 : hb < w.heap.size := lt_of_heap H.h
  have c0 : w.cell? ⟨hb, 0, none⟩ = some lv := by rw [cell_of_heap H.h]; rfl
  have HR := Lib.hid H.row
  clear H
  go_enter Try.func19, Try.ntmps19
  go_wp2_with fail
  refine (clone_items lv s.L w HR.out hcap).mono ?_
  rintro e w1 ⟨v, rfl, hR1, hB1, hg1⟩
  go_wp2_with fail
  refine (sort_items v s.L _ hR1 (by omega)).mono ?_
  rintro e w2 ⟨rfl, ys, hp, hs, hR2, hK2⟩
  go_wp2_with fail
  go_ret
  exact ⟨v, ys, rfl, hp, hs, hR2, hB1.trans (hK2.below hB1.size (fun j hj h => by have := hg1 j h; omega)), hg1⟩
end Go.Proofs.Ytkhphnidopbjjaa
