/- More facts on worlds: appends in any world; one cell of a row stored. -/
import Derived.Test.YtielnengimninaaGreatDoorLib4
namespace Go.Own
open Go.RowKit Go.Own.MapTy
open Cells (sz enc)
theorem RowAt.slice_mk {α : Type} [Cells α] {w : World} {e : TypeId} {xs : List α} {g off cap : Nat} {cur : Array Value} (hg : w.heap[g]? = some (.cells cur e (0, 0))) (h : xs.length ≤ cap ∧ cap ≤ maxLen ∧ off + cap * sz α ≤ cur.size ∧ ∀ j u, (xs.flatMap enc)[j]? = some u → cur[off + j]? = some u) :
    RowAt w e (.slice (some ⟨g, off, none⟩) xs.length cap) xs := .inr ⟨g, off, cap, cur, rfl, hg, h⟩
theorem RowAt.alloc {α : Type} [Cells α] {w : World} {e : TypeId} {v : Value} {xs : List α} (h : RowAt w e v xs) (o : Obj) : RowAt (w.alloc o) e v xs := h.frame fun _ hg => Below.heap_alloc _ _ _ (h.lt hg)
theorem RowAt.drew {α : Type} [Cells α] {w : World} {e : TypeId} {v : Value} {xs : List α} (h : RowAt w e v xs) : RowAt w.drew e v xs := h.frame fun _ _ => rfl
theorem RowAt.below {α : Type} [Cells α] {w w' : World} {e : TypeId} {v : Value} {xs : List α} (h : RowAt w e v xs) (K : Below w.heap.size w w') : RowAt w' e v xs := h.keep (Keeps.of_below K) (fun _ _ f => f)
theorem MapAt.alloc {κ ν : Type} [DecidableEq κ] {M : MapTy κ ν} {w : World} {b : Nat} {m : List (κ × ν)} (h : MapAt M w b m) (o : Obj) : MapAt M (w.alloc o) b m := h.frame (Below.heap_alloc _ _ _ h.lt)
theorem heap_new2 {w : World} {X Y : Obj} : ((w.alloc X).alloc Y).heap[w.heap.size + 1]? = some Y := by
  rw [show w.heap.size + 1 = (w.alloc X).heap.size by simp]
  exact heap_alloc_new _ _
theorem heap_lt2 {w : World} {X Y : Obj} : ((w.alloc X).alloc Y).heap[w.heap.size]? = some X := (Below.heap_alloc _ _ _ (by simp)).trans (heap_alloc_new _ _)
/-- what an append onto a block behind B leaves lies behind B -/
theorem own_new {v' : Value} {b o n m B B2 : Nat} (hf : ∀ g, v'.ownBlock = some g → (Value.slice (some ⟨b, o, none⟩) n m).ownBlock = some g ∨ B2 ≤ g) (h1 : B ≤ b) (h2 : B ≤ B2) : ∀ g, v'.ownBlock = some g → B ≤ g := by
  intro g h
  rcases hf g h with h | h
  · simp [Value.ownBlock] at h; omega
  · omega
theorem own_lit {b o n m B : Nat} (h : B ≤ b) : ∀ g, (Value.slice (some ⟨b, o, none⟩) n m).ownBlock = some g → B ≤ g := by
  intro g hg; simp [Value.ownBlock] at hg; omega
/-- an append onto what lies behind w turns nothing of w -/
theorem app_fresh {w W w1 : World} {v v' : Value} (K : Keeps (fun _ => False) w W) (hk : Keeps (fun j => v.ownBlock = some j) W w1) (hv : ∀ g, v.ownBlock = some g → w.heap.size ≤ g) (hf : ∀ g, v'.ownBlock = some g → v.ownBlock = some g ∨ W.heap.size ≤ g) :
    Keeps (fun _ => False) w w1 ∧ ∀ g, v'.ownBlock = some g → w.heap.size ≤ g := by
  refine ⟨K.trans hk (fun j hj e => by have := hv j e; omega), fun g hg => ?_⟩
  rcases hf g hg with h | h
  · exact hv g h
  · exact Nat.le_trans K.size h
/-- 'append(v, y)' of one element, in the world W in which y's cells lie in block b -/
theorem wp_appW {α : Type} [Cells α] {P : Program} {t e : TypeId} {bytes : Nat} (E : ElemOf α P t e bytes) {W : World} {ops : Array Oper} {rest : List Oper} {o : Oper} {a : Act} {Q : Exit → Act → World → Prop}
    (hg : o.guard = none) (s x : Operand) (hop : o.op = Op.call { callee := Callee.builtin Builtin.append, args := #[s, x], argTypes := #[t, t] })
    {v : Value} {xs : List α} (h : RowAt W e v xs) (y : α) (hs : a.eval s = v) {b : Nat} (hx : a.eval x = .slice (some ⟨b, 0, none⟩) 1 1) {fr : Nat × Nat} (hW : W.heap[b]? = some (.cells (enc y).toArray e fr))
    (hl : (xs.length + 1) * bytes ≤ 140737488355328) (h63 : xs.length + 1 ≤ maxLen)
    (hK : ∀ a1 q1 w1, RowAt w1 e (.slice a1 (xs.length + 1) q1) (xs ++ [y]) → Keeps (fun j => v.ownBlock = some j) W w1 → (∀ g, (Value.slice a1 (xs.length + 1) q1).ownBlock = some g → v.ownBlock = some g ∨ W.heap.size ≤ g) → wpList P ops Q rest (a.put o.dst (.slice a1 (xs.length + 1) q1)) w1) :
    wpList P ops Q (o :: rest) a W := by
  obtain ⟨i, z, hi, h1, h2, h3, h4⟩ := E.hi
  refine wpList_append hg s x t hop e i z bytes E.ht hi h1 h2 h3 h4 v xs hs h ⟨b, 0, none⟩ 1 1 [y] hx rfl ?_ hl h63 ?_
  · intro j u hu
    rw [Addr.add_lit, cell_of_heap hW, Nat.zero_add]
    simp at hu ⊢
    exact hu
  · intro v1 w1 hr hg1 hf1
    obtain ⟨a1, q1, rfl⟩ := hr.slice
    rw [List.length_append, List.length_singleton] at *
    exact hK a1 q1 w1 hr (Keeps.of_grown hg1 (fun k h => h)) (fun g h => (hf1 g h).imp id (fun h => h.1))
/-- 'append(v, u...)' of a slice that reads as a list -/
theorem run_apps {α : Type} [Cells α] {P : Program} {t e : TypeId} {bytes : Nat} (E : ElemOf α P t e bytes) {W : World} {v u : Value} {xs ys : List α} (h : RowAt W e v xs) (hu : RowAt W e u ys)
    (hl : (xs.length + ys.length) * bytes ≤ 140737488355328) (h63 : xs.length + ys.length ≤ maxLen) (ty : TypeId) :
    ∃ a1 q1 w1, (Builtin.append_ #[t, t] ty #[v, u]).run P W = .ok (.slice a1 (xs.length + ys.length) q1) w1 ∧ RowAt w1 e (.slice a1 (xs.length + ys.length) q1) (xs ++ ys) ∧ Keeps (fun j => v.ownBlock = some j) W w1 ∧
      ∀ g, (Value.slice a1 (xs.length + ys.length) q1).ownBlock = some g → v.ownBlock = some g ∨ W.heap.size ≤ g := by
  obtain ⟨i, z, hi, h1, h2, h3, h4⟩ := E.hi
  rcases hu with ⟨rfl, rfl⟩ | ⟨g, off, cap, cur, rfl, hh, hc, hm, hsz, hcs⟩
  · have hr : (Builtin.append_ #[t, t] ty #[v, .slice none 0 0]).run P W = .ok v W := by
      rcases h with ⟨rfl, rfl⟩ | ⟨g, off, cap, cur, rfl, hh, hc, _⟩
      · simp [Builtin.append_, run_underlying E.ht, sizeOf, typeInfo, hi, Builtin.lenOf, Builtin.firstCells]
      · simp [Builtin.append_, run_underlying E.ht, sizeOf, typeInfo, hi, Builtin.lenOf, Builtin.firstCells, loadCells, hc, storeCells, Addr.add_lit]
    obtain ⟨va, vc, rfl⟩ := h.slice
    exact ⟨va, vc, W, hr, by simpa using h, Keeps.refl _ _, fun g hg => .inl hg⟩
  · obtain ⟨v1, w1, hr, hr1, hg1, hf1⟩ := run_append (P := P) t ty e i z bytes E.ht hi h1 h2 h3 h4 h ⟨g, off, none⟩ ys.length cap ys rfl (fun j u hu => by rw [Addr.add_lit, cell_of_heap hh]; exact hcs j u hu) hl h63
    obtain ⟨a1, q1, rfl⟩ := hr1.slice
    rw [List.length_append] at *
    exact ⟨a1, q1, w1, hr, hr1, Keeps.of_grown hg1 (fun k h => h), fun g h => (hf1 g h).imp id (fun h => h.1)⟩
theorem wp_apps {α : Type} [Cells α] {P : Program} {t e : TypeId} {bytes : Nat} (E : ElemOf α P t e bytes) {W : World} {ops : Array Oper} {rest : List Oper} {o : Oper} {a : Act} {Q : Exit → Act → World → Prop}
    (hg : o.guard = none) (s x : Operand) (hop : o.op = Op.call { callee := Callee.builtin Builtin.append, args := #[s, x], argTypes := #[t, t] })
    {v u : Value} (hs : a.eval s = v) (hx : a.eval x = u) {xs ys : List α} (h : RowAt W e v xs) (hu : RowAt W e u ys)
    (hl : (xs.length + ys.length) * bytes ≤ 140737488355328) (h63 : xs.length + ys.length ≤ maxLen)
    (hK : ∀ a1 q1 w1, RowAt w1 e (.slice a1 (xs.length + ys.length) q1) (xs ++ ys) → Keeps (fun j => v.ownBlock = some j) W w1 → (∀ g, (Value.slice a1 (xs.length + ys.length) q1).ownBlock = some g → v.ownBlock = some g ∨ W.heap.size ≤ g) → wpList P ops Q rest (a.put o.dst (.slice a1 (xs.length + ys.length) q1)) w1) :
    wpList P ops Q (o :: rest) a W :=
  wpList_plain hg fun _ hk => by
    obtain ⟨a1, q1, w1, hr, hr1, hk1, hf1⟩ := run_apps E h hu hl h63 o.type
    unfold Oper.wp execOp
    simp only [hop, resolve, invoke, builtin, Sem.run_bind, Sem.run_pure, Result.andThen_ok, List.map_toArray, List.map_cons, List.map_nil, hs, hx, hr]
    exact hk _ _ (hK a1 q1 w1 hr1 hk1 hf1)
theorem step_apps {α : Type} [Cells α] {P : Program} {t e : TypeId} {bytes : Nat} (E : ElemOf α P t e bytes) {W : World} {ops : Array Oper} {o : Oper} {a : Act} {K : Act → World → Prop} {Q : Exit → Act → World → Prop} {N : Prop}
    (hg : o.guard = none) (s x : Operand) (hop : o.op = Op.call { callee := Callee.builtin Builtin.append, args := #[s, x], argTypes := #[t, t] })
    {v u : Value} (hs : a.eval s = v) (hx : a.eval x = u) {xs ys : List α} (h : RowAt W e v xs) (hu : RowAt W e u ys)
    (hl : (xs.length + ys.length) * bytes ≤ 140737488355328) (h63 : xs.length + ys.length ≤ maxLen)
    (n : Nat) (hn : xs.length + ys.length = n)
    (hK : ∀ a1 q1 w1, RowAt w1 e (.slice a1 n q1) (xs ++ ys) → Keeps (fun j => v.ownBlock = some j) W w1 → (∀ g, (Value.slice a1 n q1).ownBlock = some g → v.ownBlock = some g ∨ W.heap.size ≤ g) → K (a.put o.dst (.slice a1 n q1)) w1) :
    if Region.wanted o (yielded ops a.tmps) = true then Oper.wp P o a W K Q else N := by
  subst hn
  have hw : Region.wanted o (yielded ops a.tmps) = true := by simp [Region.wanted, hg]
  rw [if_pos hw]
  obtain ⟨a1, q1, w1, hr, hr1, hk1, hf1⟩ := run_apps E h hu hl h63 o.type
  unfold Oper.wp execOp
  simp only [hop, resolve, invoke, builtin, Sem.run_bind, Sem.run_pure, Result.andThen_ok, List.map_toArray, List.map_cons, List.map_nil, hs, hx, hr]
  exact hK a1 q1 w1 hr1 hk1 hf1
/-- the cells of a literal of one element -/
theorem RowAt.lit {α : Type} [Cells α] {W : World} {b : Nat} {e : TypeId} {y : α} (h : W.heap[b]? = some (.cells (enc y).toArray e (0, 0))) : RowAt W e (.slice (some ⟨b, 0, none⟩) 1 1) [y] :=
  RowAt.made h (by simp) rfl (by unfold maxLen; omega)
/-- '[]T{}' -/
theorem RowAt.none_ {α : Type} [Cells α] {W : World} {b : Nat} {e : TypeId} (h : W.heap[b]? = some (.cells #[] e (0, 0))) : RowAt (α := α) W e (.slice (some ⟨b, 0, none⟩) 0 0) [] :=
  RowAt.made h (by simp) rfl (by unfold maxLen; omega)
/-- 's[:k]', 's[k:]' of a slice that reads as a list -/
theorem cut_to {α : Type} [Cells α] {P : Program} {t e : TypeId} {bytes : Nat} (E : ElemOf α P t e bytes) {w : World} {ad : Option Addr} {n cap : Nat} {xs : List α} (h : RowAt w e (.slice ad n cap) xs) {k : Nat} (hk : k ≤ xs.length) :
    (∀ W : World, (Instr.slice t (.slice ad n cap) none (some (.int .i64 k)) none).run P W = .ok (.slice ad k cap) W) ∧ RowAt w e (.slice ad k cap) (xs.take k) := by
  obtain ⟨i, z, hi, h1, h2, h3, h4⟩ := E.hi
  obtain ⟨a, b⟩ := h.pre hk
  exact ⟨fun W => run_slice_to E.ht hi a W, b⟩
theorem cut_from {α : Type} [Cells α] {P : Program} {t e : TypeId} {bytes : Nat} (E : ElemOf α P t e bytes) {w : World} {ad : Option Addr} {n cap : Nat} {xs : List α} (h : RowAt w e (.slice ad n cap) xs) {k : Nat} (hk : k ≤ xs.length) :
    ∃ ad', (∀ W : World, (Instr.slice t (.slice ad n cap) (some (.int .i64 k)) none none).run P W = .ok (.slice ad' (n - k) (cap - k)) W) ∧ RowAt w e (.slice ad' (n - k) (cap - k)) (xs.drop k) := by
  obtain ⟨i, z, hi, h1, h2, h3, h4⟩ := E.hi
  cases ad with
  | none =>
    rcases h with ⟨h, rfl⟩ | ⟨g, off, c, cur, h, _⟩
    · cases h
      simp at hk
      subst hk
      exact ⟨none, fun W => by simp [Instr.slice, run_underlying E.ht, Instr.sliceBounds, Instr.sliceBound, asIntOf, sizeOf, typeInfo, hi, Result.andThen], .inl ⟨rfl, rfl⟩⟩
    · cases h
  | some ad =>
    rcases h with ⟨h, _⟩ | ⟨g, off, c, cur, h, hh, hl⟩
    · cases h
    · cases h
      obtain ⟨off', h5, h6⟩ := run_slice_from E.ht hi h2 (RowAt.slice_mk hh hl) hk
      exact ⟨_, h5, h6⟩
/-- one cell of an element is stored -/
theorem RowAt.setOne {α : Type} [Cells α] {w : World} {e : TypeId} {xs : List α} {g off n cap : Nat} (h : RowAt w e (.slice (some ⟨g, off, none⟩) n cap) xs) {i : Nat} {x y : α} (hx : xs[i]? = some x) {j : Nat} {u : Value} (hj : j < sz α) (hy : enc y = (enc x).set j u) :
    RowAt (w.setCell ⟨g, off + (i * sz α + j), none⟩ u) e (.slice (some ⟨g, off, none⟩) n cap) (xs.set i y) := by
  have hi := (List.getElem?_eq_some_iff.1 hx).1
  rcases h with ⟨h, _⟩ | ⟨g', off', cap', cur, hv, hg, h1, h2, h3, hc⟩
  · cases h
  · cases hv
    have hb : off + (i * sz α + sz α) ≤ cur.size := by
      have : (i + 1) * sz α ≤ cap * sz α := Nat.mul_le_mul_right _ (by omega)
      rw [Nat.add_mul] at this
      omega
    refine .inr ⟨g, off, cap, cur.setIfInBounds (off + (i * sz α + j)) u, by simp, by simp [World.setCell, Array.getElem?_modify, hg], by simpa using h1, h2, by simpa using h3, fun m v hm => ?_⟩
    have hml := (List.getElem?_eq_some_iff.1 hm).1
    rw [flat_len, List.length_set] at hml
    have hs : 0 < sz α := by omega
    have hd := Nat.div_add_mod m (sz α)
    have hmm := Nat.mod_lt m hs
    generalize hq : m / sz α = q at hd
    generalize hr : m % sz α = r at hd hmm
    have hqn : q < xs.length := by rw [← hq]; exact Nat.div_lt_of_lt_mul (by rw [Nat.mul_comm]; exact hml)
    have hjq : m = q * sz α + r := by rw [Nat.mul_comm]; omega
    subst hjq
    by_cases hqi : q = i
    · subst hqi
      rw [flat_get _ q r y (by simp [hqn]) hmm, hy] at hm
      by_cases hrj : r = j
      · subst hrj
        rw [List.getElem?_set_self (by rw [Cells.len]; exact hmm)] at hm
        cases hm
        rw [Array.getElem?_setIfInBounds_self_of_lt (by omega)]
      · rw [List.getElem?_set_ne (fun e => hrj e.symm)] at hm
        rw [Array.getElem?_setIfInBounds_ne (by omega)]
        exact hc _ v (by rw [flat_get _ q r x hx hmm]; exact hm)
    · rw [flat_get _ q r xs[q] (by rw [List.getElem?_set_ne (fun e => hqi e.symm)]; simp [hqn]) hmm] at hm
      rw [Array.getElem?_setIfInBounds_ne ?_]
      · exact hc _ v (by rw [flat_get _ q r xs[q] (by simp [hqn]) hmm]; exact hm)
      · intro he
        rcases Nat.lt_or_gt_of_ne hqi with hlt | hgt
        · have : (q + 1) * sz α ≤ i * sz α := Nat.mul_le_mul_right _ hlt
          rw [Nat.add_mul] at this
          omega
        · have : (i + 1) * sz α ≤ q * sz α := Nat.mul_le_mul_right _ hgt
          rw [Nat.add_mul] at this
          omega
/-- keys that are integers -/
def IM (ν : Type) (ve : ν → Value) : MapTy Int ν := ⟨fun n => .int .i64 n, ve, fun a b h => by simpa using h⟩
theorem IM.klaw {ν : Type} {ve : ν → Value} {P : Program} {k : TypeId} (hd : P.underlying k = some (.int .i64))
    (check : ∀ (W : World) (em : Bool) (x : Int), (Instr.checkKey em 10000 k (.int .i64 x)).run P W = .ok () W) : KLaw (IM ν ve) P k :=
  KLaw.of_now hd check (fun x y => by simp [IM, Instr.sameNow]; rfl) (fun x => by simp [IM, Instr.sameBits])
end Go.Own
