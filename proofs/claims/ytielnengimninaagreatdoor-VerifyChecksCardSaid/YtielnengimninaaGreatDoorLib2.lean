/- More facts on worlds: a block that reads as it did, in a form that the walk's simp can use as a premise. -/
import Derived.Test.YtielnengimninaaGreatDoorLib
namespace Go.Own
open Go.RowKit Go.Own.MapTy

/-- Block k of W is that of w. -/
def Same (w : World) (k : Nat) (W : World) : Prop := blk W k = blk w k
@[go_sem] theorem same_refl (w : World) (k : Nat) : Same w k w := rfl
@[go_sem] theorem same_drew (w : World) (k : Nat) (W : World) : Same w k W.drew ↔ Same w k W := Iff.rfl
@[go_sem] theorem same_drewN (w : World) (k n : Nat) (W : World) : Same w k (W.drewN n) ↔ Same w k W := Iff.rfl
@[go_sem] theorem same_alloc (w : World) (k : Nat) (W : World) (o : Obj) (h : k < W.heap.size) : Same w k (W.alloc o) ↔ Same w k W := by unfold Same; rw [blk_alloc _ _ _ h]
@[go_sem] theorem same_setCell (w : World) (b o k : Nat) (v : Value) (W : World) (h : ¬ k = b) : Same w k (W.setCell ⟨b, o, none⟩ v) ↔ Same w k W := by unfold Same; rw [blk_setCell _ _ _ _ _ h]
theorem Keeps.same {S : Nat → Prop} {w W W' : World} (K : Keeps S W W') {k : Nat} (hk : k < W.heap.size) (hs : ¬ S k) (h : Same w k W) : Same w k W' := (K.block k hk hs).trans h
theorem same_below {w W W' : World} (K : Below W.heap.size W W') {k : Nat} (hk : k < W.heap.size) (h : Same w k W) : Same w k W' := (K.block k hk).trans h

theorem MapAt.lookS {κ ν : Type} [DecidableEq κ] {M : MapTy κ ν} {P : Program} {k e t : TypeId} {w : World} {b : Nat} {m : List (κ × ν)} (h : MapAt M w b m) (K : KLaw M P k) (ht : P.underlying t = some (.map k e)) {z : Value} (hz : ∀ W, (zeroValue e).run P W = .ok z W) (x : κ) (c : Bool) :
    ∀ W : World, Same w b W → (Instr.lookup t (.map (some b)) (M.ke x) c).run P W = .ok (if c then .tuple #[((MapTy.get m x).map M.ve).getD z, .bool (MapTy.get m x).isSome] else ((MapTy.get m x).map M.ve).getD z) W :=
  fun W hW => h.look K ht hz x c W hW

theorem i64_wf_small {n : Nat} (h : n ≤ maxLen) : (0 : Int) ≤ (n : Int) ∧ (n : Int) ≤ 9223372036854775807 := by unfold maxLen at h; omega

/-- 's[k:]': the value, and what it reads as. -/
theorem run_slice_from {α : Type} [Cells α] {P : Program} {t e : TypeId} {i : TypeInfo} (ht : P.underlying t = some (.slice e)) (hi : P.info? e = some i) (hsize : i.size = Cells.sz α) {w : World} {g off n cap : Nat} {xs : List α} (h : RowAt w e (.slice (some ⟨g, off, none⟩) n cap) xs) {k : Nat} (hk : k ≤ n) :
    ∃ off', (∀ W : World, (Instr.slice t (.slice (some ⟨g, off, none⟩) n cap) (some (.int .i64 k)) none none).run P W = .ok (.slice (some ⟨g, off', none⟩) (n - k) (cap - k)) W) ∧ RowAt w e (.slice (some ⟨g, off', none⟩) (n - k) (cap - k)) (xs.drop k) := by
  have hcap : n = xs.length ∧ xs.length ≤ cap := by
    rcases h with ⟨h, _⟩ | ⟨g', off', cap', cur, hv, _, h1, _⟩
    · cases h
    · cases hv; exact ⟨rfl, h1⟩
  obtain ⟨rfl, hc⟩ := hcap
  by_cases hk2 : cap = k
  · refine ⟨off, fun W => ?_, ?_⟩
    · simp [Instr.slice, run_underlying ht, Instr.sliceBounds, Instr.sliceBound, asIntOf, hk, sizeOf, typeInfo, hi, Result.andThen, hk2]
    · have : xs.length = k := by omega
      rw [List.drop_of_length_le (by omega)]
      have := h.cut (n := 0) (by omega)
      rw [show xs.length - k = 0 from by omega, show cap - k = 0 from by omega]
      simpa using this
  · refine ⟨off + k * Cells.sz α, fun W => ?_, h.from_ hk (by omega)⟩
    simp [Instr.slice, run_underlying ht, Instr.sliceBounds, Instr.sliceBound, asIntOf, hk, sizeOf, typeInfo, hi, Result.andThen, hk2, hsize, Addr.add_lit]

/-- integers in a slice -/
instance : Cells Int where
  sz := 1
  enc := fun n => [.int .i64 n]
  len := fun _ => rfl
  one := by intro x v hv; simp at hv; subst hv; rfl
theorem row_int {w : World} {e : TypeId} {xs : List Int} {g off n cap : Nat} (h : RowAt w e (.slice (some ⟨g, off, none⟩) n cap) xs) {i : Nat} {x : Int} (hx : xs[i]? = some x) : w.cell? ⟨g, off + i, none⟩ = some (.int .i64 x) := by
  have := h.cell hx (j := 0) (by decide)
  simpa [Cells.sz, Cells.enc] using this
theorem flat_int : ∀ xs : List Int, xs.flatMap (Cells.enc (α := Int)) = xs.map (Value.int .i64)
  | [] => rfl
  | x :: r => by
    rw [List.flatMap_cons, flat_int r]
    rfl
theorem news_ints {W : World} {b : Nat} {xs : List Int} {e : TypeId} {fr : Nat × Nat} (h : W.heap[b]? = some (.cells (xs.map (Value.int .i64)).toArray e fr)) :
    ∀ j u, (xs.flatMap Cells.enc)[j]? = some u → W.cell? ((⟨b, 0, none⟩ : Addr).add j) = some u := by
  intro j u hu
  rw [Addr.add_lit, cell_of_heap h, Nat.zero_add]
  rw [flat_int] at hu
  simpa using hu
/-- a block that was just laid, as a slice of its own -/
theorem RowAt.made {α : Type} [Cells α] {w : World} {b : Nat} {e : TypeId} {cs : Array Value} {xs : List α} {n : Nat} (h : w.heap[b]? = some (.cells cs e (0, 0))) (hc : cs.toList = xs.flatMap Cells.enc) (hn : n = xs.length) (hm : n ≤ maxLen) :
    RowAt w e (.slice (some ⟨b, 0, none⟩) n n) xs := by
  subst hn
  refine .inr ⟨b, 0, xs.length, cs, rfl, h, Nat.le_refl _, hm, ?_, fun j u hu => ?_⟩
  · have := congrArg List.length hc
    rw [flat_len] at this
    simp at this
    omega
  · rw [← hc] at hu
    simpa using hu

/-- bools in a slice -/
instance : Cells Bool where
  sz := 1
  enc := fun n => [.bool n]
  len := fun _ => rfl
  one := by intro x v hv; simp at hv; subst hv; rfl
theorem row_bool {w : World} {e : TypeId} {xs : List Bool} {g off n cap : Nat} (h : RowAt w e (.slice (some ⟨g, off, none⟩) n cap) xs) {i : Nat} {x : Bool} (hx : xs[i]? = some x) : w.cell? ⟨g, off + i, none⟩ = some (.bool x) := by
  have := h.cell hx (j := 0) (by decide)
  simpa [Cells.sz, Cells.enc] using this
theorem flat_bool : ∀ xs : List Bool, xs.flatMap (Cells.enc (α := Bool)) = xs.map Value.bool
  | [] => rfl
  | x :: r => by
    rw [List.flatMap_cons, flat_bool r]
    rfl
/-- 'make([]bool, n)' -/
theorem run_make_bools {P : Program} {t e : TypeId} {i : TypeInfo} (ht : P.underlying t = some (.slice e)) (hi : P.info? e = some i) (hz : i.zero = some (.bool false)) (hs : i.size = 1) (hb : i.bytes = 1) (n : Nat) (hn : n ≤ 140737488355328) :
    ∃ cs : Array Value, (∀ W : World, (Instr.makeSlice t (.int .i64 n) (.int .i64 n)).run P W = .ok (.slice (some ⟨W.heap.size, 0, none⟩) n n) (W.alloc (.cells cs e))) ∧ cs.toList = (List.replicate n false).flatMap Cells.enc := by
  refine ⟨madeCells (Value.bool false).cells (n * i.size), fun W => ?_, ?_⟩
  · have := run_make (P := P) W t e i (.bool false) ht hi hz .i64 .i64 n n (by omega) (by omega) (by rw [hb]; omega) (by omega)
    simpa using this
  · rw [flat_bool, hs]
    simp only [Nat.mul_one, Value.cells, List.map_replicate]
    exact toList_madeCells_one _ _
end Go.Own
