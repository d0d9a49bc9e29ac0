/- verify.check: what it holds; come, step, walk, walked. -/
import Derived.Test.YtielnengimninaaGreatDoorV17
namespace Go.Va
open Go.Own Go.RowKit
/-- a check's slices -/
structure KV where
  vh : Value
  vt : Value
/-- what a check holds -/
structure KSt where
  heights : List Int
  todo : List Nat
  most : Int
/-- the blocks that are a check's -/
def KO (v : KV) (b j : Nat) : Prop := j = b ∨ v.vh.ownBlock = some j ∨ v.vt.ownBlock = some j
structure KS (W : World) (tc ti : TypeId) (b : Nat) (cv : Value) (v : KV) (st : KSt) : Prop where
  h : W.heap[b]? = some (.cells #[cv, v.vh, v.vt, .int .i64 st.most] tc (0, 0))
  heights : RowAt W ti v.vh st.heights
  todo : RowAt W ti v.vt st.todo
  sh : ∀ j, v.vh.ownBlock = some j → j ≠ b
  sd : ∀ j, v.vt.ownBlock = some j → j ≠ b ∧ v.vh.ownBlock ≠ some j
  lo : ∀ j, KO v b j → b ≤ j
/-- only a check's blocks were turned -/
def KK (b : Nat) (v : KV) (W : World) (v' : KV) (W' : World) : Prop := Keeps (KO v b) W W' ∧ ∀ j, KO v' b j → KO v b j ∨ W.heap.size ≤ j
theorem KK.refl (b : Nat) (v : KV) (W : World) : KK b v W v W := ⟨Keeps.refl _ _, fun _ h => .inl h⟩
theorem KK.trans {b : Nat} {v v' v'' : KV} {W W' W'' : World} (h : KK b v W v' W') (k : KK b v' W' v'' W'') : KK b v W v'' W'' := by
  refine ⟨h.1.trans k.1 (fun j hj e => (h.2 j e).resolve_right (by omega)), fun j hj => ?_⟩
  rcases k.2 j hj with h1 | h1
  · exact h.2 j h1
  · exact .inr (Nat.le_trans h.1.size h1)
theorem KK.ext {b : Nat} {v : KV} {W W' : World} (K : Below W.heap.size W W') : KK b v W v W' := ⟨(Keeps.of_below (S := fun _ => False) K).mono (fun _ _ f => f.elim), fun _ h => .inl h⟩
section
variable {W W' : World} {tc ti : TypeId} {b : Nat} {cv : Value} {v : KV} {st : KSt}
theorem KS.lt (R : KS W tc ti b cv v st) {j : Nat} (h : KO v b j) : j < W.heap.size := by
  rcases h with rfl | h | h
  · exact lt_of_heap R.h
  · exact R.heights.lt h
  · exact R.todo.lt h
theorem KS.ext (R : KS W tc ti b cv v st) (K : Below W.heap.size W W') : KS W' tc ti b cv v st :=
  have K0 : Keeps (fun _ => False) W W' := Keeps.of_below K
  ⟨(K.block b (lt_of_heap R.h)).trans R.h, R.heights.keep K0 (fun _ _ f => f), R.todo.keep K0 (fun _ _ f => f), R.sh, R.sd, R.lo⟩
/-- another block of what is to do -/
theorem KS.setT (R : KS W tc ti b cv v st) {w1 : World} {v1 : Value} {l1 : List Nat} (hr : RowAt w1 ti v1 l1) (K : Keeps (fun j => v.vt.ownBlock = some j) W w1) (hf : ∀ g, v1.ownBlock = some g → v.vt.ownBlock = some g ∨ W.heap.size ≤ g) :
    KS (w1.setCell ⟨b, 2, none⟩ v1) tc ti b cv { v with vt := v1 } { st with todo := l1 } ∧ KK b v W { v with vt := v1 } (w1.setCell ⟨b, 2, none⟩ v1) := by
  have hb : w1.heap[b]? = some (.cells #[cv, v.vh, v.vt, .int .i64 st.most] tc (0, 0)) := (K.block b (lt_of_heap R.h) (fun e => (R.sd b e).1 rfl)).trans R.h
  have KB : Keeps (fun j => j = b) w1 (w1.setCell ⟨b, 2, none⟩ v1) := Keeps.setCell (S := fun j => j = b) (p := ⟨b, 2, none⟩) (Keeps.refl _ _) (.inl rfl) _
  have K2 : Keeps (fun j => j = b ∨ v.vt.ownBlock = some j) W (w1.setCell ⟨b, 2, none⟩ v1) := (K.mono (fun _ _ e => .inr e)).trans KB (fun _ _ e => .inl e)
  have hlt : ∀ j, KO v b j → j < W.heap.size := fun j => R.lt
  have hbl := lt_of_heap R.h
  have hn : ∀ j, v1.ownBlock = some j → j ≠ b ∧ v.vh.ownBlock ≠ some j := fun j hj => by
    rcases hf j hj with h | h
    · exact R.sd j h
    · exact ⟨by omega, fun e => by have := hlt j (.inr (.inl e)); omega⟩
  refine ⟨⟨by simp [World.setCell, Array.getElem?_modify, hb], R.heights.keep K2 (fun g hg e => e.elim (R.sh g hg) (fun e => (R.sd g e).2 hg)), hr.keep KB (fun g hg => (hn g hg).1), R.sh, hn, fun j hj => ?_⟩, K2.mono (fun j _ e => e.elim .inl (fun e => .inr (.inr e))), fun j hj => ?_⟩
  · rcases hj with e | e | e
    · exact R.lo j (.inl e)
    · exact R.lo j (.inr (.inl e))
    · rcases hf j e with h | h
      · exact R.lo j (.inr (.inr h))
      · omega
  · rcases hj with e | e | e
    · exact .inl (.inl e)
    · exact .inl (.inr (.inl e))
    · exact (hf j e).imp (fun h => .inr (.inr h)) id
/-- another block of heights -/
theorem KS.setH (R : KS W tc ti b cv v st) {w1 : World} {v1 : Value} {l1 : List Int} (hr : RowAt w1 ti v1 l1) (K : Keeps (fun j => v.vh.ownBlock = some j) W w1) (hf : ∀ g, v1.ownBlock = some g → v.vh.ownBlock = some g ∨ W.heap.size ≤ g) :
    KS (w1.setCell ⟨b, 1, none⟩ v1) tc ti b cv { v with vh := v1 } { st with heights := l1 } ∧ KK b v W { v with vh := v1 } (w1.setCell ⟨b, 1, none⟩ v1) := by
  have hb : w1.heap[b]? = some (.cells #[cv, v.vh, v.vt, .int .i64 st.most] tc (0, 0)) := (K.block b (lt_of_heap R.h) (fun e => R.sh b e rfl)).trans R.h
  have KB : Keeps (fun j => j = b) w1 (w1.setCell ⟨b, 1, none⟩ v1) := Keeps.setCell (S := fun j => j = b) (p := ⟨b, 1, none⟩) (Keeps.refl _ _) (.inl rfl) _
  have K2 : Keeps (fun j => j = b ∨ v.vh.ownBlock = some j) W (w1.setCell ⟨b, 1, none⟩ v1) := (K.mono (fun _ _ e => .inr e)).trans KB (fun _ _ e => .inl e)
  have hlt : ∀ j, KO v b j → j < W.heap.size := fun j => R.lt
  have hbl := lt_of_heap R.h
  have hn : ∀ j, v1.ownBlock = some j → j ≠ b ∧ v.vt.ownBlock ≠ some j := fun j hj => by
    rcases hf j hj with h | h
    · exact ⟨R.sh j h, fun e => (R.sd j e).2 h⟩
    · exact ⟨by omega, fun e => by have := hlt j (.inr (.inr e)); omega⟩
  refine ⟨⟨by simp [World.setCell, Array.getElem?_modify, hb], hr.keep KB (fun g hg => (hn g hg).1), R.todo.keep K2 (fun g hg e => e.elim (R.sd g hg).1 (fun e => (R.sd g hg).2 e)), fun j hj => (hn j hj).1, fun j hj => ⟨(R.sd j hj).1, fun e => (hn j e).2 hj⟩, fun j hj => ?_⟩, K2.mono (fun j _ e => e.elim .inl (fun e => .inr (.inl e))), fun j hj => ?_⟩
  · rcases hj with e | e | e
    · exact R.lo j (.inl e)
    · rcases hf j e with h | h
      · exact R.lo j (.inr (.inl h))
      · omega
    · exact R.lo j (.inr (.inr e))
  · rcases hj with e | e | e
    · exact .inl (.inl e)
    · exact (hf j e).imp (fun h => .inr (.inl h)) id
    · exact .inl (.inr (.inr e))
/-- the greatest height, anew -/
theorem KS.setM (R : KS W tc ti b cv v st) (m : Int) : KS (W.setCell ⟨b, 3, none⟩ (.int .i64 m)) tc ti b cv v { st with most := m } ∧ KK b v W v (W.setCell ⟨b, 3, none⟩ (.int .i64 m)) := by
  have KB : Keeps (fun j => j = b) W (W.setCell ⟨b, 3, none⟩ (.int .i64 m)) := Keeps.setCell (S := fun j => j = b) (p := ⟨b, 3, none⟩) (Keeps.refl _ _) (.inl rfl) _
  exact ⟨⟨by simp [World.setCell, Array.getElem?_modify, R.h], R.heights.keep KB (fun g hg => R.sh g hg), R.todo.keep KB (fun g hg => (R.sd g hg).1), R.sh, R.sd, R.lo⟩, KB.mono (fun j _ e => .inl e), fun j h => .inl h⟩
/-- one height, anew -/
theorem KS.poke (R : KS W tc ti b cv v st) {g off n cap : Nat} (hv : v.vh = .slice (some ⟨g, off, none⟩) n cap) {k : Nat} {x : Int} (hx : st.heights[k]? = some x) (h : Int) :
    KS (W.setCell ⟨g, off + k, none⟩ (.int .i64 h)) tc ti b cv v { st with heights := st.heights.set k h } ∧ KK b v W v (W.setCell ⟨g, off + k, none⟩ (.int .i64 h)) := by
  have hg : v.vh.ownBlock = some g := by rw [hv]; rfl
  have KB : Keeps (fun j => j = g) W (W.setCell ⟨g, off + k, none⟩ (.int .i64 h)) := Keeps.setCell (S := fun j => j = g) (p := ⟨g, off + k, none⟩) (Keeps.refl _ _) (.inl rfl) _
  refine ⟨⟨(KB.block b (lt_of_heap R.h) (fun e => R.sh g hg e.symm)).trans R.h, ?_, R.todo.keep KB (fun j hj e => (R.sd j hj).2 (by subst e; exact hg)), R.sh, R.sd, R.lo⟩, KB.mono (fun j _ e => by subst e; exact .inr (.inl hg)), fun j h => .inl h⟩
  have := R.heights
  rw [hv] at this ⊢
  have h2 := this.setOne hx (y := h) (j := 0) (u := .int .i64 h) (by decide) rfl
  rwa [show off + (k * Cells.sz Int + 0) = off + k from by simp [Cells.sz]] at h2
end
/-- an instruction is come to with so many values -/
def comeL (n k : Nat) (h : Int) (st : KSt) : Int × KSt :=
  bif decide (n ≤ k) then (132, st) else
  bif decide (st.heights.getD k 0 < 0) then (0, { st with heights := st.heights.set k h, todo := st.todo ++ [k] }) else
  bif st.heights.getD k 0 != h then (131, st) else (0, st)
end Go.Va
namespace Go.Proofs.YtielnengimninaaGreatDoor
open Go.RowKit Go.Own Go.Own.MapTy Go.Va Go.Sort
open Go.Own.Cells (sz enc)
abbrev KX (W : World) (b : Nat) (cv : Value) (v : KV) (st : KSt) : Prop := KS W 80 3 b cv v st
def KPost (W : World) (b : Nat) (cv : Value) (v : KV) (r : Int × KSt) (e : Ending) (w' : World) : Prop := ∃ v', e = .returned (.int .i64 r.1) ∧ Hid (KX w' b cv v' r.2 ∧ KK b v W v' w')
theorem elemN : ElemOf Nat Tryz.prog 29 3 8 := elem_mk Tryz.underlying29 (z := .int .i64 0) (n := 1) (by kernel_rfl) rfl rfl
theorem elemI8 : ElemOf Int Tryz.prog 29 3 8 := elem_mk Tryz.underlying29 (z := .int .i64 0) (n := 1) (by kernel_rfl) rfl rfl
--[[come
set_option maxRecDepth 100000 in
set_option maxHeartbeats 8000000 in
theorem come_any (b : Nat) (ca : Option Addr) (n cc : Nat) (v : KV) (st : KSt) (k : Nat) (h : Int) (W : World) (R : KX W b (.slice ca n cc) v st) (hn : st.heights.length = n) (ht : st.todo.length ≤ 65536) (r : Int × KSt) (hr : comeL n k h st = r) :
    Calls Tryz.prog 78 #[.pointer (some ⟨b, 0, none⟩), .int .i64 k, .int .i64 h] W (KPost W b (.slice ca n cc) v r) := by
  obtain ⟨vh, vt⟩ := v
  obtain ⟨ta, tc, rfl⟩ : ∃ a cap, vt = .slice a st.todo.length cap := R.todo.slice
  obtain ⟨ha, hc, rfl⟩ : ∃ a cap, vh = .slice a st.heights.length cap := R.heights.slice
  have b0 := lt_of_heap R.h
  have qq : ∀ o, W.cell? ⟨b, o, none⟩ = (#[.slice ca n cc, .slice ha st.heights.length hc, .slice ta st.todo.length tc, .int .i64 st.most] : Array Value)[o]? := fun o => by rw [cell_of_heap R.h]
  have q0 := qq 0
  have q1 := qq 1
  have q2 := qq 2
  simp only [List.getElem?_toArray, List.getElem?_cons_zero, List.getElem?_cons_succ] at q0 q1 q2
  clear qq
  have f0 : ∀ o, W.frozen? ⟨b, o, none⟩ = false := fun o => frozen_of_heap R.h o
  unfold comeL at hr
  have HR := Lib.hid R
  clear R
  go_enter Tryz.func78, Tryz.ntmps78
  by_cases hk : n ≤ k
  · have e1 : (n : Int) ≤ k := by omega
    rw [decide_eq_true hk] at hr
    simp only [cond_true] at hr
    subst hr
    clear hk
    go_wp2_with fail
    go_ret
    exact ⟨_, rfl, Lib.hid ⟨HR.out, KK.refl _ _ _⟩⟩
  · have e1 : ¬ (n : Int) ≤ k := by omega
    rw [decide_eq_false hk] at hr
    simp only [cond_false] at hr
    obtain ⟨x, hx⟩ := elem_at (l := st.heights) (k := k) (by omega)
    have hkn : (k : Int) < st.heights.length := by omega
    rw [List.getD_eq_getElem?_getD, hx, Option.getD_some] at hr
    obtain ⟨g, off, rfl, hg⟩ := HR.out.heights.addr hx
    have m0 := row_int HR.out.heights hx
    have hgb : ¬ g = b := HR.out.sh g rfl
    have hbg : ¬ b = g := fun e => hgb e.symm
    have fg : ∀ o, W.frozen? ⟨g, o, none⟩ = false := fun o => HR.out.heights.frozen o
    have HN := Lib.hid (And.intro hn ht)
    clear hn ht hk
    cases h1 : decide (x < 0) with
    | true =>
      have e2 : x < 0 := of_decide_eq_true h1
      rw [h1] at hr
      simp only [cond_true] at hr
      subst hr
      have PK := Lib.hid (HR.out.poke rfl hx h)
      have AN := Lib.hid (show ((W.setCell ⟨g, off + k, none⟩ (.int .i64 h)).alloc (.cells #[.int .i64 k] 3)).heap[W.heap.size]? = some (.cells (Cells.enc k).toArray 3 (0, 0)) from by
        have := heap_alloc_new (W.setCell ⟨g, off + k, none⟩ (.int .i64 h)) (.cells #[.int .i64 k] 3)
        rwa [setCell_size] at this)
      --[[come1
      go_wp2_with (at_builtin; go_must (refine wp_appW (α := Nat) elemN rfl (.tmp 35) (.tmp 37) rfl (PK.out.1.todo.alloc _) k rfl rfl AN.out (by have := HN.out.2; dsimp only; omega) (by have := HN.out.2; dsimp only; unfold maxLen; omega) ?_); intro a1 q1 w1 hr1 hk1 hf1; have hb1 := (hk1.block b (by simp; omega) (fun e => (PK.out.1.sd b e).1 rfl)).trans ((Below.heap_alloc _ _ _ (by simp; omega)).trans PK.out.1.h); have c2 : w1.cell? ⟨b, 2, none⟩ = some (.slice ta st.todo.length tc) := by { rw [cell_of_heap hb1]; rfl }; have f1 : ∀ o, w1.frozen? ⟨b, o, none⟩ = false := fun o => frozen_of_heap hb1 o; have b1 : b < w1.heap.size := lt_of_heap hb1; have HF := Lib.hid (And.intro hr1 (And.intro hk1 hf1)); clear hb1 hr1 hk1 hf1)
      have S := (PK.out.1.ext ((Below.refl _ _).alloc (Nat.le_refl _) _)).setT HF.out.1 HF.out.2.1 HF.out.2.2
      go_ret
      exact ⟨_, rfl, Lib.hid ⟨S.1, PK.out.2.trans ((KK.ext ((Below.refl _ _).alloc (Nat.le_refl _) _)).trans S.2)⟩⟩
      --]]come1
    | false =>
      have e2 : ¬ x < 0 := of_decide_eq_false h1
      rw [h1] at hr
      simp only [cond_false] at hr
      --[[come2
      cases h2 : (x != h) with
      | true =>
        rw [h2] at hr
        simp only [cond_true] at hr
        subst hr
        go_wp2_with fail
        go_ret
        exact ⟨_, rfl, Lib.hid ⟨HR.out, KK.refl _ _ _⟩⟩
      | false =>
        rw [h2] at hr
        simp only [cond_false] at hr
        subst hr
        go_wp2_with fail
        go_ret
        exact ⟨_, rfl, Lib.hid ⟨HR.out, KK.refl _ _ _⟩⟩
      --]]come2
--]]come
end Go.Proofs.YtielnengimninaaGreatDoor
