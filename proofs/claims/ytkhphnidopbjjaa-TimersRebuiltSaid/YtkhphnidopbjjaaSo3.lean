/- slices.Sort at integers: the shelf's contract, in the words of this proof. -/
import Derived.Test.YtkhphnidopbjjaaShelf2
import Derived.Test.YtkhphnidopbjjaaSo
import Derived.Test.YtkhphnidopbjjaaLib2
namespace Go.Proofs.Ytkhphnidopbjjaa
open Go.RowKit Go.Own Go.Own.MapTy Go.Hm Go.Sort Go.Lib
open Go.Own.Cells (sz enc)
theorem heap_putRow (w : World) (n g off : Nat) (d : Array Int) (os : Array Obj) {k : Nat} (hk : k < w.heap.size) : (grow (putRow (Value.int .i64) (Go.Sort.ahead w n) g off d) os).heap[k]? = if g = k then (w.heap[k]?).map (onCells (putCells (Value.int .i64) off d)) else w.heap[k]? := by
  show ((w.heap.modify g (onCells (putCells (Value.int .i64) off d))) ++ os)[k]? = _
  rw [Array.getElem?_append_left (by simpa using hk), Array.getElem?_modify]
/-- slices.Sort: the slice reads as a permutation of what it was (its order is not told here) -/
theorem sort_ints (v : Value) (xs : List Int) (w : World) (h : RowAt w 3 v xs) (hn : xs.length < 4611686018427387904) :
    Calls Try.prog 53 #[v] w fun e w' => e = .returned (.tuple #[]) ∧ ∃ ys : List Int, ys.Perm xs ∧ RowAt w' 3 v ys ∧ Keeps (fun j => v.ownBlock = some j) w w' := by
  rcases h with ⟨rfl, rfl⟩ | ⟨g, off, cap, cur, rfl, hb, hl, hm, hs, hc⟩
  · exact (Any.slices_Sort_int_none Try.lays189 none 0 w).mono fun e w' ⟨he, hw⟩ => ⟨he, [], .refl _, .inl ⟨rfl, rfl⟩, by rw [hw]; exact Keeps.refl _ w⟩
  · have hrow : RowAt w 3 (.slice (some ⟨g, off, none⟩) xs.length cap) xs := .inr ⟨g, off, cap, cur, rfl, hb, hl, hm, hs, hc⟩
    have hH : Holds (Value.int .i64) w g off xs.toArray := by
      intro j hj
      have hj' : j < xs.length := by simpa using hj
      have hx : xs[j]? = some xs[j] := List.getElem?_eq_getElem hj'
      refine ⟨?_, by simp [World.frozen?, hb]⟩
      rw [row_int hrow hx]
      rw [getElem!_pos xs.toArray j hj]
      simp
    refine (Any.slices_Sort_int Try.lays189 g off cap xs w hH (lt_of_heap hb) hn).mono ?_
    rintro e w' ⟨he, n, os, rfl⟩
    have hp : (xs.mergeSort fun x y => decide (x ≤ y)).Perm xs := List.mergeSort_perm _ _
    generalize (xs.mergeSort fun x y => decide (x ≤ y)) = ys at hp
    have hyl : ys.length = xs.length := hp.length_eq
    refine ⟨he, ys, hp, ?_, ⟨rfl, rfl, rfl, ?_, fun k hk hnk => ?_⟩⟩
    · refine .inr ⟨g, off, cap, putCells (Value.int .i64) off ys.toArray cur, by rw [hyl], ?_, by omega, hm, by simpa [putCells] using hs, fun j u hu => ?_⟩
      · rw [heap_putRow w n g off _ os (lt_of_heap hb), if_pos rfl, hb]; rfl
      · rw [flat_int] at hu
        have hjl : j < ys.length := by have := (List.getElem?_eq_some_iff.1 hu).1; simpa using this
        have hoff : off + j < cur.size := by simp only [sz] at hs; omega
        unfold putCells
        rw [Array.getElem?_mapIdx, Array.getElem?_eq_getElem hoff, Option.map_some, if_pos (by simp; omega), show off + j - off = j by omega]
        rw [List.getElem?_map, List.getElem?_eq_getElem hjl] at hu
        rw [getElem!_pos ys.toArray j (by simpa using hjl)]
        simpa using hu
    · show w.heap.size ≤ ((w.heap.modify g (onCells (putCells (Value.int .i64) off ys.toArray))) ++ os).size
      simp
    · rw [heap_putRow w n g off _ os hk, if_neg (fun e => hnk (by rw [e]; rfl))]
end Go.Proofs.Ytkhphnidopbjjaa
