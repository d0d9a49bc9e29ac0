/- The law's own functions, walked: find, before, the document's comparison of two events. -/
import Derived.Test.YtkhphnidopbjjaaTm
import Derived.Test.YtkhphnidopbjjaaH1
import Derived.Deep.CutBlock
namespace Go.Hm
theorem row_th {w : World} {e : TypeId} {xs : List Th} {g off n cap : Nat} (h : Go.Own.RowAt w e (.slice (some ⟨g, off, none⟩) n cap) xs) {i : Nat} {x : Th} (hx : xs[i]? = some x) :
    w.cell? ⟨g, off + i * 4, none⟩ = some (.int .i64 x.run) ∧ w.cell? ⟨g, off + i * 4 + 1, none⟩ = some (.int .i64 x.kind) ∧ w.cell? ⟨g, off + i * 4 + 2, none⟩ = some (.int .i64 x.id) ∧
    w.cell? ⟨g, off + i * 4 + 3, none⟩ = some (.int .i64 x.due) :=
  ⟨h.cell hx (j := 0) (by decide), h.cell hx (j := 1) (by decide), h.cell hx (j := 2) (by decide), h.cell hx (j := 3) (by decide)⟩
theorem idxT_drop {l : List Th} {k : Nat} {x : Th} (h : l[k]? = some x) (key : Ky) : idxT key (l.drop k) k = if x.key = key then (k : Int) else idxT key (l.drop (k + 1)) (k + 1) := by
  obtain ⟨hk, rfl⟩ := List.getElem?_eq_some_iff.1 h
  rw [List.drop_eq_getElem_cons hk]
  rfl
theorem idxT_neg {key : Ky} : ∀ {l : List Th} {k : Nat}, l.any (fun y => decide (y.key = key)) = false → idxT key l k = -1
  | [], _, _ => rfl
  | x :: r, k, h => by
    simp only [List.any_cons, Bool.or_eq_false_iff, decide_eq_false_iff_not] at h
    rw [idxT, if_neg h.1, idxT_neg h.2]
theorem idxT_pos {key : Ky} : ∀ {l : List Th} {k : Nat}, l.any (fun y => decide (y.key = key)) = true → ∃ (i : Nat) (x : Th), idxT key l k = ((k + i : Nat) : Int) ∧ l[i]? = some x ∧ x.key = key
  | [], _, h => by simp at h
  | x :: r, k, h => by
    by_cases hx : x.key = key
    · exact ⟨0, x, by rw [idxT, if_pos hx]; simp, rfl, hx⟩
    · simp only [List.any_cons, Bool.or_eq_true, decide_eq_true_eq] at h
      obtain ⟨i, y, h1, h2, h3⟩ := idxT_pos (k := k + 1) (h.resolve_left hx)
      exact ⟨i + 1, y, by rw [idxT, if_neg hx, h1]; congr 1; omega, by simpa using h2, h3⟩
theorem eraseT_filter {l : List Th} (hn : l.Pairwise (fun a b => bef a b = true ∧ a.key ≠ b.key)) {i : Nat} {x : Th} (hx : l[i]? = some x) : l.take i ++ l.drop (i + 1) = l.filter (fun y => !decide (y.key = x.key)) := by
  induction l generalizing i with
  | nil => simp at hx
  | cons z r ih =>
    have h' := List.pairwise_cons.1 hn
    cases i with
    | zero =>
      simp at hx
      subst hx
      rw [List.filter_cons, if_neg (by simp)]
      refine (List.filter_eq_self.2 fun y hy => ?_).symm
      have := (h'.1 y hy).2
      simpa using fun e => this e.symm
    | succ i =>
      simp at hx
      rw [List.take_succ_cons, List.drop_succ_cons, List.cons_append, ih h'.2 hx, List.filter_cons, if_pos]
      have := (h'.1 x (List.mem_of_getElem? hx)).2
      simpa using this
end Go.Hm
namespace Go.Proofs.Ytkhphnidopbjjaa
open Go.RowKit Go.Own Go.Own.MapTy Go.Hm
open Go.Own.Cells (sz enc)
theorem elemTh : ElemOf Th Try.prog 66 110 32 := elem_mk Try.underlying66 (z := .agg #[.int .i64 0, .int .i64 0, .int .i64 0, .int .i64 0]) (n := 4) (by kernel_rfl) rfl rfl
theorem elemFr : ElemOf Fr Try.prog 82 87 136 := elem_mk Try.underlying82 (z := .agg #[.int .i64 0, .int .i64 0, .int .i64 0, .int .i64 0, .int .i64 0, .int .i64 0, .string .empty, .string .empty, .int .i64 0, .int .i64 0, .string .empty, .slice none 0 0]) (n := 12) (by kernel_rfl) rfl rfl
--[[find
set_option maxHeartbeats 1000000 in
theorem find_th (a b c : Int) (v : Value) (l : List Th) (w : World) (H : RowAt w 110 v l) (hn : l.length ≤ 100) :
    Calls Try.prog 34 #[v, .int .i64 a, .int .i64 b, .int .i64 c] w fun e w' => e = .returned (.int .i64 (idxT ⟨a, b, c⟩ l 0)) ∧ Below w.heap.size w w' := by
  obtain ⟨ad, cap, rfl⟩ := H.slice
  have HR := Lib.hid H
  clear H
  go_enter Try.func34, Try.ntmps34
  go_wp2_with fail
  go_loopw [13] (fun v wr => ∃ k : Nat, v = .int .i64 k ∧ k ≤ l.length ∧ Below w.heap.size w wr ∧ idxT ⟨a, b, c⟩ (l.drop k) k = idxT ⟨a, b, c⟩ l 0) (fun v _ => l.length - (intOf v).toNat)
  case atStart => exact ⟨0, rfl, Nat.zero_le _, Below.refl _ _, by simp⟩
  case round =>
    obtain ⟨k, rfl, hk, hB, hI⟩ := hrel
    have hb := hB.size
    by_cases hkn : k < l.length
    · obtain ⟨x, hx⟩ := elem_at hkn
      have hR := HR.out.below hB
      obtain ⟨g, off, rfl, hg⟩ := hR.addr hx
      obtain ⟨x0, x1, x2, x3⟩ := row_th hR hx
      have hk0 : (0 : Int) ≤ (k : Int) := by omega
      have hk1 : (k : Int) < (l.length : Int) := by omega
      rw [idxT_drop hx] at hI
      have HI := Lib.hid hI
      clear hI hx hR
      by_cases e1 : x.run = a
      · by_cases e2 : x.kind = b
        · by_cases e3 : x.id = c
          · rw [e1] at x0; rw [e2] at x1; rw [e3] at x2
            go_wp2_with fail
            go_ret
            exact ⟨ret_i64 (by rw [← HI.out, if_pos (by rw [← e1, ← e2, ← e3]; rfl)]), hB.alloc hb _⟩
          · rw [e1] at x0; rw [e2] at x1
            have t3 : (x.id == c) = false := beq_eq_false_iff_ne.2 e3
            go_wp2_with fail
            go_roundw
            case rel => exact ⟨k + 1, by simp, hkn, hB.alloc hb _, by rw [← HI.out, if_neg (fun h => e3 (congrArg Ky.id h))]⟩
            case measure => simp [intOf]; omega
        · rw [e1] at x0
          have t2 : (x.kind == b) = false := beq_eq_false_iff_ne.2 e2
          go_wp2_with fail
          go_roundw
          case rel => exact ⟨k + 1, by simp, hkn, hB.alloc hb _, by rw [← HI.out, if_neg (fun h => e2 (congrArg Ky.kind h))]⟩
          case measure => simp [intOf]; omega
      · have t1 : (x.run == a) = false := beq_eq_false_iff_ne.2 e1
        go_wp2_with fail
        go_roundw
        case rel => exact ⟨k + 1, by simp, hkn, hB.alloc hb _, by rw [← HI.out, if_neg (fun h => e1 (congrArg Ky.run h))]⟩
        case measure => simp [intOf]; omega
    · obtain rfl : k = l.length := by omega
      rw [List.drop_length] at hI
      have HI := Lib.hid hI
      clear hI
      go_wp2_with fail
      go_ret
      exact ⟨ret_i64 (by rw [← HI.out]; rfl), hB⟩
--]]find
--[[before
set_option maxHeartbeats 1000000 in
theorem before_any (x y : Th) (r : Bool) (hr : bef x y = r) (w : World) :
    Calls Try.prog 50 #[.agg #[.int .i64 x.run, .int .i64 x.kind, .int .i64 x.id, .int .i64 x.due], .agg #[.int .i64 y.run, .int .i64 y.kind, .int .i64 y.id, .int .i64 y.due]] w fun e w' => e = .returned (.bool r) ∧ Below w.heap.size w w' := by
  have BB := ((Below.refl w.heap.size w).alloc (Nat.le_refl _) (.cells #[.int .i64 x.run, .int .i64 x.kind, .int .i64 x.id, .int .i64 x.due] 110)).alloc (by simp) (.cells #[.int .i64 y.run, .int .i64 y.kind, .int .i64 y.id, .int .i64 y.due] 110)
  by_cases h1 : x.due = y.due
  · by_cases h2 : x.run = y.run
    · by_cases h3 : x.kind = y.kind
      · have t1 : (x.due == y.due) = true := beq_iff_eq.2 h1
        have t2 : (x.run == y.run) = true := beq_iff_eq.2 h2
        have t3 : (x.kind == y.kind) = true := beq_iff_eq.2 h3
        obtain rfl : r = decide (x.id < y.id) := by rw [← hr]; simp [bef, h1, h2, h3]
        clear hr h1 h2 h3
        go_enter Try.func50, Try.ntmps50
        go_wp2_with fail
        go_ret
        exact ⟨rfl, BB⟩
      · have t1 : (x.due == y.due) = true := beq_iff_eq.2 h1
        have t2 : (x.run == y.run) = true := beq_iff_eq.2 h2
        have t3 : (x.kind == y.kind) = false := beq_eq_false_iff_ne.2 h3
        obtain rfl : r = decide (x.kind < y.kind) := by rw [← hr]; simp [bef, h1, h2, h3]
        clear hr h1 h2 h3
        go_enter Try.func50, Try.ntmps50
        go_wp2_with fail
        go_ret
        exact ⟨rfl, BB⟩
    · have t1 : (x.due == y.due) = true := beq_iff_eq.2 h1
      have t2 : (x.run == y.run) = false := beq_eq_false_iff_ne.2 h2
      obtain rfl : r = decide (x.run < y.run) := by rw [← hr]; simp [bef, h1, h2]
      clear hr h1 h2
      go_enter Try.func50, Try.ntmps50
      go_wp2_with fail
      go_ret
      exact ⟨rfl, BB⟩
  · have t1 : (x.due == y.due) = false := beq_eq_false_iff_ne.2 h1
    obtain rfl : r = decide (x.due < y.due) := by rw [← hr]; simp [bef, h1]
    clear hr h1
    go_enter Try.func50, Try.ntmps50
    go_wp2_with fail
    go_ret
    exact ⟨rfl, BB⟩
--]]before
--[[compare
set_option maxHeartbeats 1000000 in
theorem compare_nil (w : World) :
    Calls Try.prog 52 #[.agg #[.int .i64 0, .int .i64 0, .string .empty, .slice none 0 0], .agg #[.int .i64 0, .int .i64 0, .string .empty, .slice none 0 0]] w fun e w' => e = .returned (.int .i64 0) ∧ Below w.heap.size w w' := by
  go_enter Try.func52, Try.ntmps52
  go_wp2_with fail
  go_ret
  exact ⟨rfl, ((Below.refl _ _).alloc (Nat.le_refl _) _).alloc (by simp) _⟩
--]]compare
--[[same
set_option maxRecDepth 100000 in
set_option maxHeartbeats 4000000 in
theorem same_true (t k a : Int) (w : World) :
    Calls Try.prog 38 #[.agg #[.int .i64 0, .int .i64 t, .int .i64 k, .int .i64 a, .int .i64 0, .string .empty, .string .empty, .int .i64 0, .int .i64 0, .string .empty, .slice none 0 0], .agg #[.int .i64 0, .int .i64 t, .int .i64 k, .int .i64 a, .int .i64 0, .string .empty, .string .empty, .int .i64 0, .int .i64 0, .string .empty, .slice none 0 0]] w fun e w' => e = .returned (.bool true) ∧ Below w.heap.size w w' := by
  go_enter Try.func38, Try.ntmps38
  go_wp2_with (go_at_call 52; refine (compare_nil _).mono ?_; rintro e w1 ⟨rfl, hB⟩)
  go_ret
  exact ⟨rfl, ((((Below.refl _ _).alloc (Nat.le_refl _) _).alloc (by simp) _)).trans (hB.mono (by simp; omega))⟩
--]]same
end Go.Proofs.Ytkhphnidopbjjaa
