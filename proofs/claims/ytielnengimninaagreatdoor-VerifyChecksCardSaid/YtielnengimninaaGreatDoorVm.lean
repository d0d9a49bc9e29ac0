/- Values with lists in them, as they stand in memory, and in which blocks they lie; what package-level variables the library reads. -/
import Derived.Test.YtielnengimninaaGreatDoorV2
import Derived.Lib.LaidTab
import Derived.Lib.ParseIntB
import Derived.Lib.ItoaNum
namespace Go.Va
open Go.Own Go.RowKit
open Cells (sz enc)
/-- the slice value v is read as the list xs; its cells lie in a block of F -/
def RdF {α : Type} [Cells α] (F : Nat → Prop) (w : World) (v : Value) (xs : List α) : Prop :=
  ∃ a cap, v = .slice a xs.length cap ∧ xs.length ≤ cap ∧ cap ≤ maxLen ∧ ∀ i x, xs[i]? = some x → ∃ g off, a = some ⟨g, off, none⟩ ∧ F g ∧ g < w.heap.size ∧ ∀ j u, (enc x)[j]? = some u → w.cell? ⟨g, off + (i * sz α + j), none⟩ = some u
section
variable {α : Type} [Cells α] {F G : Nat → Prop} {w w' : World} {v : Value} {xs : List α}
theorem RdF.slice (h : RdF F w v xs) : ∃ a cap, v = .slice a xs.length cap := by obtain ⟨a, cap, h, _⟩ := h; exact ⟨a, cap, h⟩
theorem RdF.length_le (h : RdF F w v xs) : xs.length ≤ maxLen := by obtain ⟨a, cap, _, h1, h2, _⟩ := h; omega
theorem RdF.keep {S : Nat → Prop} (h : RdF F w v xs) (K : Keeps S w w') (hs : ∀ g, F g → ¬ S g) : RdF F w' v xs := by
  obtain ⟨a, cap, rfl, h1, h2, h3⟩ := h
  refine ⟨a, cap, rfl, h1, h2, fun i x hx => ?_⟩
  obtain ⟨g, off, rfl, hF, hg, hc⟩ := h3 i x hx
  exact ⟨g, off, rfl, hF, Nat.lt_of_lt_of_le hg K.size, fun j u hu => (K.cell (p := ⟨g, _, none⟩) hg (hs g hF)).trans (hc j u hu)⟩
theorem RdF.mono (h : RdF F w v xs) (hs : ∀ g, F g → g < w.heap.size → G g) : RdF G w v xs := by
  obtain ⟨a, cap, rfl, h1, h2, h3⟩ := h
  refine ⟨a, cap, rfl, h1, h2, fun i x hx => ?_⟩
  obtain ⟨g, off, rfl, hF, hg, hc⟩ := h3 i x hx
  exact ⟨g, off, rfl, hs g hF hg, hg, hc⟩
theorem RdF.at_ {a : Option Addr} {n cap : Nat} (h : RdF F w (.slice a n cap) xs) {i : Nat} {x : α} (hx : xs[i]? = some x) : ∃ g off, a = some ⟨g, off, none⟩ ∧ F g ∧ g < w.heap.size ∧ ∀ j u, (enc x)[j]? = some u → w.cell? ⟨g, off + (i * sz α + j), none⟩ = some u := by
  obtain ⟨a', cap', hv, _, _, h3⟩ := h
  cases hv
  exact h3 i x hx
theorem RdF.of_row {e : TypeId} (h : RowAt w e v xs) (hF : ∀ g, v.ownBlock = some g → F g) : RdF F w v xs := by
  rcases h with ⟨rfl, rfl⟩ | ⟨g, off, cap, cur, rfl, hh, hl, hm, hs, hc⟩
  · exact ⟨none, 0, rfl, Nat.le_refl _, Nat.zero_le _, fun i x hx => by simp at hx⟩
  · refine ⟨_, cap, rfl, hl, hm, fun i x hx => ⟨g, off, rfl, hF g rfl, lt_of_heap hh, fun j u hu => ?_⟩⟩
    have hj : j < sz α := by have := (List.getElem?_eq_some_iff.1 hu).1; rwa [Cells.len] at this
    rw [cell_of_heap hh]
    exact hc _ u (by rw [flat_get xs i j x hx hj]; exact hu)
theorem RdF.nil (F : Nat → Prop) (w : World) : RdF (α := α) F w (.slice none 0 0) [] := ⟨none, 0, rfl, Nat.le_refl _, Nat.zero_le _, fun i x hx => by simp at hx⟩
end
/-- the slice value v holds the values l, their lists too; all of it lies in blocks of F -/
inductive VF (F : Nat → Prop) (w : World) : Value → List Val → Prop
  | mk (v : Value) (cs : List VC) (l : List Val) (hr : RdF F w v cs) (hl : cs.length = l.length) (h : ∀ (i : Nat) (c : VC) (x : Val), cs[i]? = some c → l[i]? = some x → c.kind = x.kind ∧ c.n = x.num ∧ c.s = x.txt)
      (hv : ∀ (i : Nat) (c : VC) (x : Val), cs[i]? = some c → l[i]? = some x → VF F w (.slice c.la c.ln c.lc) x.list) : VF F w v l
theorem VF.keep {F S : Nat → Prop} {w w' : World} (K : Keeps S w w') (hs : ∀ g, F g → ¬ S g) {v : Value} {l : List Val} (h : VF F w v l) : VF F w' v l := by
  induction h with
  | mk v cs l hr hl h0 _ ih => exact .mk v cs l (hr.keep K hs) hl h0 ih
theorem VF.mono {F G : Nat → Prop} {w : World} (hs : ∀ g, F g → g < w.heap.size → G g) {v : Value} {l : List Val} (h : VF F w v l) : VF G w v l := by
  induction h with
  | mk v cs l hr hl h0 _ ih => exact .mk v cs l (hr.mono hs) hl h0 ih
theorem VF.nil (F : Nat → Prop) (w : World) : VF F w (.slice none 0 0) [] := .mk _ [] [] (RdF.nil F w) rfl (fun i c x h => by simp at h) (fun i c x h => by simp at h)
/-- the value of an element -/
structure CF (F : Nat → Prop) (w : World) (c : VC) (x : Val) : Prop where
  kind : c.kind = x.kind
  n : c.n = x.num
  s : c.s = x.txt
  l : VF F w (.slice c.la c.ln c.lc) x.list
theorem CF.keep {F S : Nat → Prop} {w w' : World} {c : VC} {x : Val} (h : CF F w c x) (K : Keeps S w w') (hs : ∀ g, F g → ¬ S g) : CF F w' c x := ⟨h.kind, h.n, h.s, h.l.keep K hs⟩
theorem CF.mono {F G : Nat → Prop} {w : World} {c : VC} {x : Val} (h : CF F w c x) (hs : ∀ g, F g → g < w.heap.size → G g) : CF G w c x := ⟨h.kind, h.n, h.s, h.l.mono hs⟩
/-- a row of values that may grow -/
def VRow (F : Nat → Prop) (w : World) (e : TypeId) (v : Value) (l : List Val) : Prop :=
  ∃ cs : List VC, RowAt w e v cs ∧ cs.length = l.length ∧ ∀ (i : Nat) (c : VC) (x : Val), cs[i]? = some c → l[i]? = some x → CF F w c x
theorem VRow.vf {F G : Nat → Prop} {w : World} {e : TypeId} {v : Value} {l : List Val} (h : VRow F w e v l) (hF : ∀ g, F g → G g) (hG : ∀ g, v.ownBlock = some g → G g) : VF G w v l := by
  obtain ⟨cs, h1, h2, h3⟩ := h
  exact .mk v cs l (RdF.of_row h1 hG) h2 (fun i c x hc hx => ⟨(h3 i c x hc hx).kind, (h3 i c x hc hx).n, (h3 i c x hc hx).s⟩) (fun i c x hc hx => (h3 i c x hc hx).l.mono (fun g h _ => hF g h))
theorem VRow.slice {F : Nat → Prop} {w : World} {e : TypeId} {v : Value} {l : List Val} (h : VRow F w e v l) : ∃ a cap, v = .slice a l.length cap := by
  obtain ⟨cs, h1, h2, h3⟩ := h
  obtain ⟨a, cap, h⟩ := h1.slice
  exact ⟨a, cap, by rw [← h2]; exact h⟩
theorem VRow.nil (F : Nat → Prop) (w : World) (e : TypeId) : VRow F w e (.slice none 0 0) [] := ⟨[], .inl ⟨rfl, rfl⟩, rfl, fun i c x h => by simp at h⟩
theorem VRow.keep {F S : Nat → Prop} {w w' : World} {e : TypeId} {v : Value} {l : List Val} (h : VRow F w e v l) (K : Keeps S w w') (hs : ∀ g, F g → ¬ S g) (hv : ∀ g, v.ownBlock = some g → ¬ S g) : VRow F w' e v l := by
  obtain ⟨cs, h1, h2, h3⟩ := h
  exact ⟨cs, h1.keep K hv, h2, fun i c x hc hx => (h3 i c x hc hx).keep K hs⟩
theorem VRow.mono {F G : Nat → Prop} {w : World} {e : TypeId} {v : Value} {l : List Val} (h : VRow F w e v l) (hs : ∀ g, F g → g < w.heap.size → G g) : VRow G w e v l := by
  obtain ⟨cs, h1, h2, h3⟩ := h
  exact ⟨cs, h1, h2, fun i c x hc hx => (h3 i c x hc hx).mono hs⟩
/-- what is behind an append of one value -/
theorem VRow.app {F G : Nat → Prop} {w w1 : World} {e : TypeId} {v v1 : Value} {cs : List VC} {l : List Val} {c : VC} {x : Val} (h2 : cs.length = l.length) (h3 : ∀ (i : Nat) (c : VC) (x : Val), cs[i]? = some c → l[i]? = some x → CF F w c x) (hc : CF F w c x)
    (h1 : RowAt w1 e v1 (cs ++ [c])) (K : Keeps (fun j => v.ownBlock = some j) w w1) (hF : ∀ g, F g → ¬ v.ownBlock = some g) (hG : ∀ g, F g → g < w.heap.size → G g) : VRow G w1 e v1 (l ++ [x]) := by
  refine ⟨cs ++ [c], h1, by simp [h2], fun i c' x' hc' hx' => ?_⟩
  have hk : ∀ {c x}, CF F w c x → CF G w1 c x := fun hx => (hx.mono (G := fun g => F g ∧ G g) (fun g h hl => ⟨h, hG g h hl⟩)).keep K (fun g h => hF g h.1) |>.mono (fun g h _ => h.2)
  by_cases hi : i < cs.length
  · rw [List.getElem?_append_left hi] at hc'
    rw [List.getElem?_append_left (by omega)] at hx'
    exact hk (h3 i c' x' hc' hx')
  · rw [List.getElem?_append_right (by omega)] at hc' hx'
    rw [h2] at hc'
    cases hj : i - l.length with
    | zero =>
      rw [hj] at hc' hx'
      simp at hc' hx'
      subst hc' hx'
      exact hk hc
    | succ j => rw [hj] at hc'; simp at hc'
/-- reads the element i -/
theorem VF.elem {F : Nat → Prop} {w : World} {a : Option Addr} {n cap : Nat} {l : List Val} (h : VF F w (.slice a n cap) l) : n = l.length ∧ ∀ (i : Nat) (x : Val), l[i]? = some x → ∃ c g off, CF F w c x ∧ a = some ⟨g, off, none⟩ ∧ F g ∧ g < w.heap.size ∧
    w.cell? ⟨g, off + i * 4, none⟩ = some (.int .i64 c.kind) ∧ w.cell? ⟨g, off + i * 4 + 1, none⟩ = some (.int .i64 c.n) ∧ w.cell? ⟨g, off + i * 4 + 2, none⟩ = some (.string c.s) ∧ w.cell? ⟨g, off + i * 4 + 3, none⟩ = some (.slice c.la c.ln c.lc) := by
  cases h with
  | mk _ cs _ hr hl h hv4 =>
    obtain ⟨a', cap', hv⟩ := hr.slice
    cases hv
    refine ⟨hl, fun i x hx => ?_⟩
    have hi : i < cs.length := by rw [hl]; exact (List.getElem?_eq_some_iff.1 hx).1
    have hc : cs[i]? = some cs[i] := List.getElem?_eq_getElem hi
    obtain ⟨h1, h2, h3⟩ := h i _ x hc hx
    have h4 := hv4 i _ x hc hx
    obtain ⟨g, off, hg, hF, hgl, hcs⟩ := hr.at_ hc
    exact ⟨cs[i], g, off, ⟨h1, h2, h3, h4⟩, hg, hF, hgl, hcs 0 _ rfl, by rw [Nat.add_assoc]; exact hcs 1 _ rfl, by rw [Nat.add_assoc]; exact hcs 2 _ rfl, by rw [Nat.add_assoc]; exact hcs 3 _ rfl⟩
/-- all elements -/
theorem VF.elems {F : Nat → Prop} {w : World} {a : Option Addr} {n cap : Nat} {l : List Val} (h : VF F w (.slice a n cap) l) : n = l.length ∧ n ≤ maxLen ∧ (l = [] ∨ ∃ g off, a = some ⟨g, off, none⟩ ∧ F g ∧ g < w.heap.size ∧ ∀ (i : Nat) (x : Val), l[i]? = some x → ∃ c, CF F w c x ∧
    w.cell? ⟨g, off + i * 4, none⟩ = some (.int .i64 c.kind) ∧ w.cell? ⟨g, off + i * 4 + 1, none⟩ = some (.int .i64 c.n) ∧ w.cell? ⟨g, off + i * 4 + 2, none⟩ = some (.string c.s) ∧ w.cell? ⟨g, off + i * 4 + 3, none⟩ = some (.slice c.la c.ln c.lc)) := by
  obtain ⟨h1, h2⟩ := h.elem
  refine ⟨h1, ?_, ?_⟩
  · cases h with
    | mk _ cs _ hr hl h hv4 =>
      have := hr.length_le
      omega
  · cases l with
    | nil => exact .inl rfl
    | cons x r =>
      obtain ⟨c, g, off, hc, ha, hF, hg, _⟩ := h2 0 x rfl
      refine .inr ⟨g, off, ha, hF, hg, fun i y hy => ?_⟩
      obtain ⟨c', g', off', hc', ha', _, _, h3⟩ := h2 i y hy
      rw [ha] at ha'
      cases ha'
      exact ⟨c', hc', h3⟩
/-- the package-level variables that the library reads; N: below it all of them lie -/
structure Gl (P : Program) (N : Nat) (w : World) : Prop where
  m : ∃ m : Int, w.cell? ⟨0, 0, none⟩ = some (.int .i64 m)
  es : ∃ tp p, w.var? P "strconv.ErrSyntax" = some #[.iface tp p]
  er : ∃ tp p, w.var? P "strconv.ErrRange" = some #[.iface tp p]
  tab : Lib.TabIs P w "internal/strconv.uint64pow10" .u64 Lib.pow10Tab
  gs : ∃ g1 g2 g3, P.globalNamed "strconv.ErrSyntax" = some g1 ∧ P.globalNamed "strconv.ErrRange" = some g2 ∧ P.globalNamed "internal/strconv.uint64pow10" = some g3 ∧ g1 < N ∧ g2 < N ∧ g3 < N
  n0 : 0 < N
  n : N ≤ w.heap.size
theorem var_keep {P : Program} {w w' : World} {s : String} {g : Nat} (hg : P.globalNamed s = some g) (h : w'.heap[g]? = w.heap[g]?) : w'.var? P s = w.var? P s := by
  simp [World.var?, hg, h]
theorem Gl.keep {P : Program} {N : Nat} {S : Nat → Prop} {w w' : World} (h : Gl P N w) (K : Keeps S w w') (hs : ∀ j, S j → N ≤ j) : Gl P N w' := by
  obtain ⟨h1, h2, h3, h4, ⟨g1, g2, g3, e1, e2, e3, l1, l2, l3⟩, h6, h7⟩ := h
  have hb : ∀ g, g < N → w'.heap[g]? = w.heap[g]? := fun g hg => K.block g (by omega) (fun hS => by have := hs g hS; omega)
  refine ⟨?_, ?_, ?_, ?_, ⟨g1, g2, g3, e1, e2, e3, l1, l2, l3⟩, h6, Nat.le_trans h7 K.size⟩
  · rw [World.cell?_of_block (w := w) (hb 0 h6)]; exact h1
  · rw [var_keep e1 (hb g1 l1)]; exact h2
  · rw [var_keep e2 (hb g2 l2)]; exact h3
  · unfold Lib.TabIs; rw [var_keep e3 (hb g3 l3)]; exact h4
theorem Gl.below {P : Program} {N : Nat} {w w' : World} (h : Gl P N w) (K : Below w.heap.size w w') : Gl P N w' := h.keep (S := fun _ => False) (Keeps.of_below K) (fun _ f => f.elim)
theorem Gl.drew {P : Program} {N : Nat} {w : World} (h : Gl P N w) : Gl P N w.drew := h.keep (Keeps.refl (fun _ => False) w).drew (fun _ f => f.elim)
theorem Gl.alloc {P : Program} {N : Nat} {w : World} (h : Gl P N w) (o : Obj) : Gl P N (w.alloc o) := h.keep ((Keeps.refl (fun _ => False) w).alloc o) (fun _ f => f.elim)
end Go.Va
