/- an image in a box, and its parts as they are read. -/
import Derived.Test.YtielnengimninaaGreatDoorV59
namespace Go.Va
open Go.Own Go.RowKit Go.Own.MapTy Go.Sort
open Go.Own.Cells (sz enc)
theorem IAt.below {F : Nat → Prop} {w w' : World} {i : IC} {p : Img} (h : IAt F w i p) (B : Below w.heap.size w w') : IAt F w' i p := h.keep (S := fun _ => False) (Keeps.of_below B) (fun _ _ f => f)
/-- an instruction of an image -/
theorem IAt.code_at {F : Nat → Prop} {w wr : World} {i : IC} {p : Img} (h : IAt F w i p) (B : Below w.heap.size w wr) {k : Nat} {c : In} (hx : p.code[k]? = some c) : ∃ g off, i.ca = some ⟨g, off, none⟩ ∧ F g ∧ g < w.heap.size ∧ g < wr.heap.size ∧ wr.cell? ⟨g, off + k * 2, none⟩ = some (.int .i64 c.op) ∧ wr.cell? ⟨g, off + k * 2 + 1, none⟩ = some (.int .i64 c.a) := by
  obtain ⟨_, _, g, off, ha, hel⟩ := h.code.elems
  obtain ⟨hF, hg, hcs⟩ := hel k c hx
  have ha := ha.resolve_right (fun e => by rw [e] at hx; simp at hx)
  have m0 := hcs 0 _ rfl
  have m1 := hcs 1 _ rfl
  rw [show off + (k * sz In + 0) = off + k * 2 from rfl, ← B.cell (p := ⟨g, _, none⟩) hg] at m0
  rw [show off + (k * sz In + 1) = off + k * 2 + 1 from rfl, ← B.cell (p := ⟨g, _, none⟩) hg] at m1
  exact ⟨g, off, ha, hF, hg, Nat.lt_of_lt_of_le hg B.size, m0, m1⟩
/-- a name of an image -/
theorem IAt.name_at {F : Nat → Prop} {w wr : World} {i : IC} {p : Img} (h : IAt F w i p) (B : Below w.heap.size w wr) {k : Nat} {c : ByteArray} (hx : p.names[k]? = some c) : ∃ g off, i.na = some ⟨g, off, none⟩ ∧ F g ∧ g < w.heap.size ∧ g < wr.heap.size ∧ wr.cell? ⟨g, off + k, none⟩ = some (.string c) := by
  obtain ⟨_, _, g, off, ha, hel⟩ := h.names.elems
  obtain ⟨hF, hg, hcs⟩ := hel k c hx
  have ha := ha.resolve_right (fun e => by rw [e] at hx; simp at hx)
  have m0 := hcs 0 _ rfl
  rw [show off + (k * sz ByteArray + 0) = off + k from by simp [Cells.sz], ← B.cell (p := ⟨g, _, none⟩) hg] at m0
  exact ⟨g, off, ha, hF, hg, Nat.lt_of_lt_of_le hg B.size, m0⟩
/-- a value of an image -/
theorem IAt.const_at {F : Nat → Prop} {w wr : World} {i : IC} {p : Img} (h : IAt F w i p) (B : Below w.heap.size w wr) {k : Nat} {x : Val} (hx : p.consts[k]? = some x) : ∃ g off c, i.ka = some ⟨g, off, none⟩ ∧ F g ∧ g < w.heap.size ∧ g < wr.heap.size ∧ CF F wr c x ∧
    wr.cell? ⟨g, off + k * 4, none⟩ = some (.int .i64 c.kind) ∧ wr.cell? ⟨g, off + k * 4 + 1, none⟩ = some (.int .i64 c.n) ∧ wr.cell? ⟨g, off + k * 4 + 2, none⟩ = some (.string c.s) ∧ wr.cell? ⟨g, off + k * 4 + 3, none⟩ = some (.slice c.la c.ln c.lc) := by
  obtain ⟨_, _, hel⟩ := h.consts.elems
  obtain ⟨g, off, ha, hF, hg, hel⟩ := hel.resolve_left (fun e => by rw [e] at hx; simp at hx)
  obtain ⟨c, hC, m0, m1, m2, m3⟩ := hel k x hx
  rw [← B.cell (p := ⟨g, _, none⟩) hg] at m0 m1 m2 m3
  exact ⟨g, off, c, ha, hF, hg, Nat.lt_of_lt_of_le hg B.size, hC.keep (S := fun _ => False) (Keeps.of_below B) (fun _ _ f => f), m0, m1, m2, m3⟩
end Go.Va
namespace Go.Proofs.YtielnengimninaaGreatDoor
open Go.RowKit Go.Own Go.Own.MapTy Go.Va Go.Sort
open Go.Own.Cells (sz enc)
def BoxI (w : World) (b : Nat) (i : IC) : Prop := w.heap[b]? = some (.cells #[.slice i.ca i.cn i.cc, .slice i.ka i.kn i.kc, .slice i.na i.nn i.nc, .int .i64 i.pl] 26 (0, 0))
theorem BoxI.c0 {w : World} {b : Nat} {i : IC} (h : BoxI w b i) : w.cell? ⟨b, 0, none⟩ = some (.slice i.ca i.cn i.cc) := by rw [cell_of_heap h]; rfl
theorem BoxI.c1 {w : World} {b : Nat} {i : IC} (h : BoxI w b i) : w.cell? ⟨b, 1, none⟩ = some (.slice i.ka i.kn i.kc) := by rw [cell_of_heap h]; rfl
theorem BoxI.c2 {w : World} {b : Nat} {i : IC} (h : BoxI w b i) : w.cell? ⟨b, 2, none⟩ = some (.slice i.na i.nn i.nc) := by rw [cell_of_heap h]; rfl
theorem BoxI.c3 {w : World} {b : Nat} {i : IC} (h : BoxI w b i) : w.cell? ⟨b, 3, none⟩ = some (.int .i64 i.pl) := by rw [cell_of_heap h]; rfl
theorem BoxI.lt {w : World} {b : Nat} {i : IC} (h : BoxI w b i) : b < w.heap.size := lt_of_heap h
theorem BoxI.below {w w' : World} {b : Nat} {i : IC} (h : BoxI w b i) (B : Below w.heap.size w w') : BoxI w' b i := (B.block b h.lt).trans h
theorem BoxI.fr {w : World} {b : Nat} {i : IC} (h : BoxI w b i) (o : Nat) : w.frozen? ⟨b, o, none⟩ = false := frozen_of_heap h o
theorem BoxI.keep {w w' : World} {b : Nat} {i : IC} {S : Nat → Prop} (h : BoxI w b i) (K : Keeps S w w') (hs : ¬ S b) : BoxI w' b i := (K.block b h.lt hs).trans h
theorem drop_get {α : Type} {l : List α} {i : Nat} {x : α} (h : l[i]? = some x) : l.drop i = x :: l.drop (i + 1) := by
  rw [List.drop_eq_getElem_cons (List.getElem?_eq_some_iff.1 h).1, (List.getElem?_eq_some_iff.1 h).2]
/-- the image's box is laid -/
theorem boxI_new (w : World) (i : IC) : BoxI (w.alloc (.cells #[.slice i.ca i.cn i.cc, .slice i.ka i.kn i.kc, .slice i.na i.nn i.nc, .int .i64 i.pl] 26)) w.heap.size i := heap_alloc_new _ _
end Go.Proofs.YtielnengimninaaGreatDoor
