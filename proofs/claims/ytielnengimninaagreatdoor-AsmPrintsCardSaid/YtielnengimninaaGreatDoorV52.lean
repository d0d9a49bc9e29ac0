/- when two values are the same: plain. -/
import Derived.Test.YtielnengimninaaGreatDoorV44
namespace Go.Va
open Go.Own Go.RowKit Go.Own.MapTy
theorem compareBytes_zero : ∀ (a b : List UInt8), Lib.compareBytes a b = 0 ↔ a = b
  | [], [] => by simp [Lib.compareBytes]
  | [], _ :: _ => by simp [Lib.compareBytes]
  | _ :: _, [] => by simp [Lib.compareBytes]
  | a :: xs, b :: ys => by
    rw [Lib.compareBytes]
    by_cases h1 : a < b
    · rw [if_pos h1]
      refine ⟨fun h => by simp at h, fun h => ?_⟩
      obtain ⟨rfl, _⟩ := List.cons.inj h
      exact absurd h1 (UInt8.lt_irrefl _)
    · rw [if_neg h1]
      by_cases h2 : b < a
      · rw [if_pos h2]
        refine ⟨fun h => by simp at h, fun h => ?_⟩
        obtain ⟨rfl, _⟩ := List.cons.inj h
        exact absurd h2 (UInt8.lt_irrefl _)
      · rw [if_neg h2, compareBytes_zero xs ys]
        have e : a = b := UInt8.le_antisymm (UInt8.not_lt.1 h2) (UInt8.not_lt.1 h1)
        rw [e]
        simp
theorem cond_ne (b : Bool) : ¬ (bif b then (-1 : Int) else 1) = 0 := by cases b <;> decide
theorem bytes_inj {a b : ByteArray} : a.data.toList = b.data.toList ↔ a = b := ⟨fun h => ByteArray.ext (Array.toList_inj.1 h), fun h => by rw [h]⟩
theorem Val.ext4 {x y : Val} : x = y ↔ x.kind = y.kind ∧ x.num = y.num ∧ x.txt = y.txt ∧ x.list = y.list := by
  cases x; cases y
  simp [Val.kind, Val.num, Val.txt, Val.list]
theorem clone_kind (x : Val) : (cloneV x).kind = x.kind := by rw [cloneV_eq]; rfl
theorem clone_num (x : Val) : (cloneV x).num = bif x.kind == 1 then x.num else 0 := by rw [cloneV_eq]; rfl
theorem clone_txt (x : Val) : (cloneV x).txt = bif x.kind == 2 then x.txt else ⟨#[]⟩ := by rw [cloneV_eq]; rfl
theorem clone_list (x : Val) : (cloneV x).list = bif x.kind == 3 then x.list.map cloneV else [] := by rw [cloneV_eq, cloneL_map]; rfl
mutual
/-- two values are the same just where they are so in what their kind asks for -/
theorem cmp_zero : ∀ x y : Val, cmpV x y = 0 ↔ cloneV x = cloneV y
  | .mk k n s l, y => by
    rw [cmpV_eq, Val.ext4, clone_kind, clone_kind, clone_num, clone_num, clone_txt, clone_txt, clone_list, clone_list]
    show (bif k != y.kind then _ else bif k == 1 then (bif n != y.num then _ else _) else bif k == 2 then Lib.compareBytes s.data.toList _ else bif k == 3 then cmpV.cmpLs l y.list else 0) = 0 ↔ k = y.kind ∧ (bif k == 1 then n else 0) = _ ∧ (bif k == 2 then s else _) = _ ∧ (bif k == 3 then l.map cloneV else _) = _
    by_cases hk : k = y.kind
    · rw [← hk]
      have e0 : (k != k) = false := by simp
      rw [e0]
      by_cases h1 : k = 1
      · subst h1
        simp only [beq_self_eq_true, cond_true, cond_false, true_and, show ((1 : Int) == 2) = false from rfl, show ((1 : Int) == 3) = false from rfl, and_true]
        by_cases hn : n = y.num
        · rw [hn]; simp
        · have : (n != y.num) = true := by simpa using hn
          rw [this]
          simp only [cond_true, hn, iff_false]
          exact cond_ne _
      · have e1 : (k == 1) = false := by simpa using h1
        by_cases h2 : k = 2
        · subst h2
          simp only [beq_self_eq_true, cond_true, cond_false, true_and, show ((2 : Int) == 1) = false from rfl, show ((2 : Int) == 3) = false from rfl, and_true]
          rw [compareBytes_zero, bytes_inj]
        · have e2 : (k == 2) = false := by simpa using h2
          by_cases h3 : k = 3
          · subst h3
            simp only [beq_self_eq_true, cond_true, cond_false, true_and, show ((3 : Int) == 1) = false from rfl, show ((3 : Int) == 2) = false from rfl]
            exact cmpL_zero l y.list
          · have e3 : (k == 3) = false := by simpa using h3
            simp [e1, e2, e3]
    · have e0 : (k != y.kind) = true := by simpa using hk
      rw [e0]
      simp only [cond_true, hk, false_and, iff_false]
      exact cond_ne _
theorem cmpL_zero : ∀ xs ys : List Val, cmpV.cmpLs xs ys = 0 ↔ xs.map cloneV = ys.map cloneV
  | [], [] => by rw [cmpL_nil]; simp
  | [], y :: s => by rw [cmpL_nil]; simp
  | x :: r, [] => by rw [cmpL_one]; simp
  | x :: r, y :: s => by
    have h1 := cmp_zero x y
    have h2 := cmpL_zero r s
    rw [cmpL_cons, List.map_cons, List.map_cons]
    by_cases h : cmpV x y = 0
    · have e : (cmpV x y != 0) = false := by simpa using h
      rw [e, cond_false, h2, h1.1 h]
      simp
    · have e : (cmpV x y != 0) = true := by simpa using h
      rw [e, cond_true]
      refine ⟨fun hh => absurd hh h, fun hh => absurd (h1.2 ?_) h⟩
      exact (List.cons.inj hh).1
end
mutual
theorem clone_clone : ∀ x : Val, cloneV (cloneV x) = cloneV x
  | .mk k n s l => by
    have h := clone_cloneL l
    rw [Val.ext4, clone_kind, clone_num, clone_txt, clone_list, clone_kind, clone_num, clone_txt, clone_list]
    show k = k ∧ (bif k == 1 then (bif k == 1 then n else 0) else 0) = (bif k == 1 then n else 0) ∧ (bif k == 2 then (bif k == 2 then s else _) else _) = (bif k == 2 then s else _) ∧ (bif k == 3 then (bif k == 3 then l.map cloneV else []).map cloneV else []) = bif k == 3 then l.map cloneV else []
    refine ⟨rfl, by cases (k == 1) <;> rfl, by cases (k == 2) <;> rfl, ?_⟩
    cases (k == 3)
    · rfl
    · exact h
theorem clone_cloneL : ∀ l : List Val, (l.map cloneV).map cloneV = l.map cloneV
  | [] => rfl
  | x :: r => by
    have h1 := clone_clone x
    have h2 := clone_cloneL r
    rw [List.map_cons, List.map_cons, h1, h2]
end
theorem cmp_refl (x : Val) : cmpV x x = 0 := (cmp_zero x x).2 rfl
theorem cmp_clone (x y : Val) : cmpV (cloneV x) (cloneV y) = 0 ↔ cmpV x y = 0 := by rw [cmp_zero, cmp_zero, clone_clone, clone_clone]
mutual
theorem bytes_clone : ∀ x : Val, bytesV (cloneV x) = bytesV x
  | .mk k n s l => by
    have h := bytes_cloneL l
    rw [bytesV_eq, bytesV_eq (.mk k n s l), clone_kind, clone_num, clone_txt, clone_list]
    show _ :: (bif k == 1 then numB (zigL (bif k == 1 then n else 0)) else bif k == 2 then textB (bif k == 2 then s else _).data.toList else bif k == 3 then numB (bif k == 3 then l.map cloneV else []).length ++ bytesV.bytesL (bif k == 3 then l.map cloneV else []) else []) = _ :: (bif k == 1 then numB (zigL n) else bif k == 2 then textB s.data.toList else bif k == 3 then numB l.length ++ bytesV.bytesL l else [])
    congr 1
    cases h1 : (k == 1)
    · cases h2 : (k == 2)
      · cases h3 : (k == 3)
        · rfl
        · simp only [cond_true, cond_false, List.length_map]; rw [h]
      · rfl
    · rfl
theorem bytes_cloneL : ∀ l : List Val, bytesV.bytesL (l.map cloneV) = bytesV.bytesL l
  | [] => rfl
  | x :: r => by
    have h1 := bytes_clone x
    have h2 := bytes_cloneL r
    rw [List.map_cons, bytesL_cons, bytesL_cons, h1, h2]
end
end Go.Va
