/- Values with lists in them, as they stand in memory; slices that are only read. -/
import Derived.Test.YtielnengimninaaGreatDoorLib5
namespace Go.Va
open Go.Own Go.RowKit
/-- a value: its kind, its number, its text, its list -/
inductive Val where
  | mk (kind n : Int) (s : ByteArray) (l : List Val)
namespace Val
def kind : Val → Int | mk k _ _ _ => k
def num : Val → Int | mk _ n _ _ => n
def txt : Val → ByteArray | mk _ _ s _ => s
def list : Val → List Val | mk _ _ _ l => l
end Val
/-- how many values are in one -/
def Val.parts : Val → Nat
  | .mk _ _ _ l => 1 + partsL l
where partsL : List Val → Nat
  | [] => 0
  | x :: r => x.parts + partsL r
theorem Val.parts_pos (v : Val) : 0 < v.parts := by cases v; unfold Val.parts; omega
theorem Val.partsL_mem {x : Val} : ∀ {l : List Val}, x ∈ l → x.parts ≤ Val.parts.partsL l
  | [], h => by cases h
  | y :: r, h => by
    unfold Val.parts.partsL
    rcases List.mem_cons.1 h with rfl | h
    · omega
    · have := partsL_mem h; omega
theorem Val.parts_lt {v x : Val} (h : x ∈ v.list) : x.parts < v.parts := by
  cases v with
  | mk k n s l =>
    have := Val.partsL_mem (show x ∈ l from h)
    have e : (Val.mk k n s l).parts = 1 + Val.parts.partsL l := by rw [Val.parts]
    omega
/-- a value's four cells -/
structure VC where
  kind : Int
  n : Int
  s : ByteArray
  la : Option Addr
  ln : Nat
  lc : Nat
def vcEnc (c : VC) : List Value := [.int .i64 c.kind, .int .i64 c.n, .string c.s, .slice c.la c.ln c.lc]
instance : Cells VC where
  sz := 4
  enc := vcEnc
  len := fun _ => rfl
  one := by
    intro x v hv
    simp [vcEnc] at hv
    rcases hv with rfl | rfl | rfl | rfl <;> rfl
open Cells (sz enc)
/-- the slice value v is read as the list xs -/
def Rd {α : Type} [Cells α] (w : World) (v : Value) (xs : List α) : Prop :=
  ∃ a cap, v = .slice a xs.length cap ∧ xs.length ≤ cap ∧ cap ≤ maxLen ∧ ∀ i x, xs[i]? = some x → ∃ g off, a = some ⟨g, off, none⟩ ∧ g < w.heap.size ∧ ∀ j u, (enc x)[j]? = some u → w.cell? ⟨g, off + (i * sz α + j), none⟩ = some u
section
variable {α : Type} [Cells α] {w w' : World} {v : Value} {xs : List α}
theorem Rd.slice (h : Rd w v xs) : ∃ a cap, v = .slice a xs.length cap := by obtain ⟨a, cap, h, _⟩ := h; exact ⟨a, cap, h⟩
theorem Rd.length_le (h : Rd w v xs) : xs.length ≤ maxLen := by obtain ⟨a, cap, _, h1, h2, _⟩ := h; omega
theorem Rd.keep {S : Nat → Prop} (h : Rd w v xs) (K : Keeps S w w') (hs : ∀ g, v.ownBlock = some g → ¬ S g) : Rd w' v xs := by
  obtain ⟨a, cap, rfl, h1, h2, h3⟩ := h
  refine ⟨a, cap, rfl, h1, h2, fun i x hx => ?_⟩
  obtain ⟨g, off, rfl, hg, hc⟩ := h3 i x hx
  exact ⟨g, off, rfl, Nat.lt_of_lt_of_le hg K.size, fun j u hu => (K.cell (p := ⟨g, _, none⟩) hg (hs g rfl)).trans (hc j u hu)⟩
theorem Rd.below (h : Rd w v xs) (K : Below w.heap.size w w') : Rd w' v xs := h.keep (Keeps.of_below K) (fun _ _ f => f)
theorem Rd.at_ {a : Option Addr} {n cap : Nat} (h : Rd w (.slice a n cap) xs) {i : Nat} {x : α} (hx : xs[i]? = some x) : ∃ g off, a = some ⟨g, off, none⟩ ∧ g < w.heap.size ∧ ∀ j u, (enc x)[j]? = some u → w.cell? ⟨g, off + (i * sz α + j), none⟩ = some u := by
  obtain ⟨a', cap', hv, _, _, h3⟩ := h
  cases hv
  exact h3 i x hx
theorem Rd.of_row {e : TypeId} (h : RowAt w e v xs) : Rd w v xs := by
  rcases h with ⟨rfl, rfl⟩ | ⟨g, off, cap, cur, rfl, hh, hl, hm, hs, hc⟩
  · exact ⟨none, 0, rfl, Nat.le_refl _, Nat.zero_le _, fun i x hx => by simp at hx⟩
  · refine ⟨_, cap, rfl, hl, hm, fun i x hx => ⟨g, off, rfl, lt_of_heap hh, fun j u hu => ?_⟩⟩
    have hj : j < sz α := by have := (List.getElem?_eq_some_iff.1 hu).1; rwa [Cells.len] at this
    rw [cell_of_heap hh]
    exact hc _ u (by rw [flat_get xs i j x hx hj]; exact hu)
end
/-- the slice value v holds the values l, their lists too -/
inductive VAt (w : World) : Value → List Val → Prop
  | mk (v : Value) (cs : List VC) (l : List Val) (hr : Rd w v cs) (hl : cs.length = l.length) (h : ∀ (i : Nat) (c : VC) (x : Val), cs[i]? = some c → l[i]? = some x → c.kind = x.kind ∧ c.n = x.num ∧ c.s = x.txt)
      (hv : ∀ (i : Nat) (c : VC) (x : Val), cs[i]? = some c → l[i]? = some x → VAt w (.slice c.la c.ln c.lc) x.list) : VAt w v l
theorem VAt.old {w w' : World} (K : Below w.heap.size w w') {v : Value} {l : List Val} (h : VAt w v l) : VAt w' v l := by
  induction h with
  | mk v cs l hr hl h0 _ ih => exact .mk v cs l (hr.below K) hl h0 ih
/-- the value of an element -/
structure VCAt (w : World) (c : VC) (x : Val) : Prop where
  kind : c.kind = x.kind
  n : c.n = x.num
  s : c.s = x.txt
  l : VAt w (.slice c.la c.ln c.lc) x.list
theorem VAt.elem {w : World} {a : Option Addr} {n cap : Nat} {l : List Val} (h : VAt w (.slice a n cap) l) : n = l.length ∧ ∀ (i : Nat) (x : Val), l[i]? = some x → ∃ c g off, VCAt w c x ∧ a = some ⟨g, off, none⟩ ∧ g < w.heap.size ∧
    w.cell? ⟨g, off + i * 4, none⟩ = some (.int .i64 c.kind) ∧ w.cell? ⟨g, off + i * 4 + 1, none⟩ = some (.int .i64 c.n) ∧ w.cell? ⟨g, off + i * 4 + 2, none⟩ = some (.string c.s) ∧ w.cell? ⟨g, off + i * 4 + 3, none⟩ = some (.slice c.la c.ln c.lc) := by
  cases h with
  | mk _ cs _ hr hl h hv4 =>
    obtain ⟨a', cap', hv⟩ := hr.slice
    cases hv
    refine ⟨hl, fun i x hx => ?_⟩
    have hi : i < cs.length := by rw [hl]; exact (List.getElem?_eq_some_iff.1 hx).1
    have hc : cs[i]? = some cs[i] := List.getElem?_eq_getElem hi
    obtain ⟨h1, h2, h3⟩ := h i _ x hc hx
    have h4 := hv4 i _ x hc hx
    obtain ⟨g, off, hg, hgl, hcs⟩ := hr.at_ hc
    exact ⟨cs[i], g, off, ⟨h1, h2, h3, h4⟩, hg, hgl, hcs 0 _ rfl, by rw [Nat.add_assoc]; exact hcs 1 _ rfl, by rw [Nat.add_assoc]; exact hcs 2 _ rfl, by rw [Nat.add_assoc]; exact hcs 3 _ rfl⟩
end Go.Va
