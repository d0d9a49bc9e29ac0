/- More facts on worlds: what a call that makes memory leaves; one append. -/
import Derived.Test.YtielnengimninaaGreatDoorLib2
import Derived.BigGuardPart
namespace Go.Own
open Go.RowKit Go.Own.MapTy
open Cells (sz enc)
/-- all that was there reads as before -/
theorem bcell {W w1 : World} (hb : Below W.heap.size W w1) : (∀ b o, b < W.heap.size → w1.cell? ⟨b, o, none⟩ = W.cell? ⟨b, o, none⟩) ∧ (∀ b o, b < W.heap.size → w1.frozen? ⟨b, o, none⟩ = W.frozen? ⟨b, o, none⟩) :=
  ⟨fun b o h => hb.cell (p := ⟨b, o, none⟩) h, fun b o h => hb.frozen (p := ⟨b, o, none⟩) h⟩
theorem size_le {W w1 : World} (hb : Below W.heap.size W w1) : W.heap.size ≤ w1.heap.size := hb.size
/-- what an element type is -/
structure ElemOf (α : Type) [Cells α] (P : Program) (t e : TypeId) (bytes : Nat) : Prop where
  ht : P.underlying t = some (.slice e)
  hi : ∃ i z, P.info? e = some i ∧ i.zero = some z ∧ i.size = sz α ∧ i.bytes = bytes ∧ z.cells.size = sz α
theorem elem_mk {α : Type} [Cells α] {P : Program} {t e : TypeId} {bytes : Nat} {z : Value} {n : Nat} (ht : P.underlying t = some (.slice e)) (h : (P.info? e).map (fun i => (i.zero, i.size, i.bytes)) = some (some z, n, bytes)) (hn : n = sz α) (hz : z.cells.size = sz α) : ElemOf α P t e bytes := by
  obtain ⟨i, hi, h1, h2, h3⟩ := info_parts h
  exact ⟨ht, i, z, hi, h1, by rw [h2, hn], h3, hz⟩
/-- 'append(v, y)' of one element -/
theorem wp_app1 {α : Type} [Cells α] {P : Program} {t e : TypeId} {bytes : Nat} (E : ElemOf α P t e bytes) {wr W : World} {ops : Array Oper} {rest : List Oper} {o : Oper} {a : Act} {Q : Exit → Act → World → Prop}
    (hg : o.guard = none) (s x : Operand) (hop : o.op = Op.call { callee := Callee.builtin Builtin.append, args := #[s, x], argTypes := #[t, t] })
    {v : Value} {xs : List α} (h : RowAt wr e v xs) (y : α) (hs : a.eval s = v) (hx : a.eval x = .slice (some ⟨wr.heap.size, 0, none⟩) 1 1) (hW : W = wr.alloc (.cells (enc y).toArray e))
    (hl : (xs.length + 1) * bytes ≤ 140737488355328) (h63 : xs.length + 1 ≤ maxLen)
    (hK : ∀ a1 q1 w1, RowAt w1 e (.slice a1 (xs.length + 1) q1) (xs ++ [y]) → Keeps (fun j => v.ownBlock = some j) wr w1 → (∀ g, (Value.slice a1 (xs.length + 1) q1).ownBlock = some g → v.ownBlock = some g ∨ wr.heap.size ≤ g) → wpList P ops Q rest (a.put o.dst (.slice a1 (xs.length + 1) q1)) w1) :
    wpList P ops Q (o :: rest) a W := by
  obtain ⟨i, z, hi, h1, h2, h3, h4⟩ := E.hi
  subst hW
  refine wpList_append hg s x t hop e i z bytes E.ht hi h1 h2 h3 h4 v xs hs (h.frame (fun g hg => Below.heap_alloc _ _ _ (h.lt hg))) ⟨wr.heap.size, 0, none⟩ 1 1 [y] hx rfl ?_ hl h63 ?_
  · intro j u hu
    rw [Addr.add_lit, cell_of_heap (heap_alloc_new wr _), Nat.zero_add]
    simp at hu ⊢
    exact hu
  · intro v1 w1 hr hg1 hf1
    obtain ⟨a1, q1, rfl⟩ := hr.slice
    rw [List.length_append, List.length_singleton] at *
    refine hK a1 q1 w1 hr (((Keeps.refl (fun j => v.ownBlock = some j) wr).alloc _).comp (Keeps.of_grown hg1 (fun k h => h))) (fun g h => (hf1 g h).imp id (fun h => ?_))
    have := h.1
    simp at this
    omega
/-- the first address of a slice that has something -/
theorem RowAt.addr {α : Type} [Cells α] {w : World} {e : TypeId} {xs : List α} {ad : Option Addr} {n cap : Nat} (h : RowAt w e (.slice ad n cap) xs) {i : Nat} {x : α} (hx : xs[i]? = some x) : ∃ g off, ad = some ⟨g, off, none⟩ ∧ g < w.heap.size := by
  rcases h with ⟨_, rfl⟩ | ⟨g, off, cap', _, hv, hg, _⟩
  · simp at hx
  · cases hv; exact ⟨g, off, rfl, lt_of_heap hg⟩
theorem elem_at {α : Type} {l : List α} {k : Nat} (h : k < l.length) : ∃ x, l[k]? = some x := ⟨l[k], by simp⟩
/-- 's[:n]' -/
theorem run_slice_to {P : Program} {t e : TypeId} {i : TypeInfo} (ht : P.underlying t = some (.slice e)) (hi : P.info? e = some i) {ad : Option Addr} {k n cap : Nat} (hn : n ≤ cap) (W : World) :
    (Instr.slice t (.slice ad k cap) none (some (.int .i64 n)) none).run P W = .ok (.slice ad n cap) W := by
  have ha : ad.map (fun a => a.add 0) = ad := by cases ad <;> simp [Addr.add]
  simp [Instr.slice, run_underlying ht, Instr.sliceBounds, Instr.sliceBound, asIntOf, hn, sizeOf, typeInfo, hi, Result.andThen, ha]
theorem RowAt.pre {α : Type} [Cells α] {w : World} {e : TypeId} {xs : List α} {ad : Option Addr} {k cap : Nat} (h : RowAt w e (.slice ad k cap) xs) {n : Nat} (hn : n ≤ xs.length) :
    n ≤ cap ∧ RowAt w e (.slice ad n cap) (xs.take n) := by
  rcases h with ⟨h, rfl⟩ | ⟨g', off', cap', cur, hv, hg, h1, h2, h3, hc⟩
  · cases h
    simp at hn
    subst hn
    exact ⟨Nat.le_refl _, .inl ⟨rfl, rfl⟩⟩
  · cases hv
    have hl : (xs.take n).length = n := by simp [hn]
    refine ⟨by omega, .inr ⟨_, _, cap, cur, by rw [hl], hg, by omega, h2, h3, fun j u hu => hc j u ?_⟩⟩
    have : xs.flatMap enc = (xs.take n).flatMap enc ++ (xs.drop n).flatMap enc := by rw [← List.flatMap_append, List.take_append_drop]
    rw [this, List.getElem?_append_left (List.getElem?_eq_some_iff.1 hu).1]
    exact hu
end Go.Own
