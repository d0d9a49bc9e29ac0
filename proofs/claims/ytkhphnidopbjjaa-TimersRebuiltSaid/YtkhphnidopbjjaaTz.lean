/- The timers' queue: an event, on the heap's things in order: plain lists. -/
import Derived.Test.YtkhphnidopbjjaaHm7
import Derived.Test.YtkhphnidopbjjaaT1
namespace Go.Hm
open Go.Own Go.Own.MapTy
/-- a thing put, a thing canceled: what is then, the number that was given last, the answer -/
def putZ (sq : Int) (Z : List It) (k : Ky) (d : Int) : List It × Int × Int := if Z.any (fun x => decide (x.key = k)) then (Z, sq, 5) else (insIt ⟨k.run, k.kind, k.id, d, sq + 1⟩ Z, sq + 1, 0)
def cancelZ (sq : Int) (Z : List It) (k : Ky) : List It × Int × Int := if Z.any (fun x => decide (x.key = k)) then (Z.filter (fun x => !decide (x.key = k)), sq, 0) else (Z, sq, 4)
/-- an event -/
def applyZ (sq : Int) (Z : List It) (run : Int) (e : Ev) : List It × Int × Int :=
  if e.kind = 1 then (if 0 < e.a then putZ sq Z ⟨run, 2, 0⟩ (satI e.time e.a) else (Z, sq, 0))
  else if e.kind = 11 then putZ sq Z ⟨run, 1, e.a⟩ e.b
  else if e.kind = 12 ∨ e.kind = 13 then cancelZ sq Z ⟨run, 1, e.a⟩
  else if 16 ≤ e.kind ∧ e.kind ≤ 21 then (Z.filter (fun x => !(x.run == run)), sq, 0)
  else (Z, sq, 0)
theorem any_key {Z : List It} {k : Ky} : Z.any (fun x => decide (x.key = k)) = true ↔ ∃ (i : Nat) (x : It), Z[i]? = some x ∧ x.key = k := by
  simp only [List.any_eq_true, decide_eq_true_eq]
  constructor
  · rintro ⟨x, hx, h⟩
    obtain ⟨i, hi, rfl⟩ := List.getElem_of_mem hx
    exact ⟨i, _, List.getElem?_eq_getElem hi, h⟩
  · rintro ⟨i, x, hx, h⟩
    exact ⟨x, List.mem_of_getElem? hx, h⟩
theorem Ref.nokey {s : Hp} {Z : List It} (h : Ref s Z) {k : Ky} (hk : ¬ Z.any (fun x => decide (x.key = k)) = true) : get s.M k = none :=
  h.get_none fun i x hx e => hk (any_key.2 ⟨i, x, hx, e⟩)
theorem Ref.keys {s : Hp} {Z : List It} (h : Ref s Z) : (Z.map It.key).Nodup := (h.perm.map It.key).nodup_iff.2 h.good.idx.nodup
theorem erase_filter {Z : List It} (hn : (Z.map It.key).Nodup) {i : Nat} {x : It} (hx : Z[i]? = some x) : Z.eraseIdx i = Z.filter (fun y => !decide (y.key = x.key)) := by
  induction Z generalizing i with
  | nil => simp at hx
  | cons z r ih =>
    rw [List.map_cons, List.nodup_cons] at hn
    cases i with
    | zero =>
      simp at hx
      subst hx
      rw [List.eraseIdx_zero, List.tail_cons, List.filter_cons, if_neg (by simp)]
      refine (List.filter_eq_self.2 fun y hy => ?_).symm
      have : y.key ≠ z.key := fun e => hn.1 (e ▸ List.mem_map.2 ⟨y, hy, rfl⟩)
      simpa using this
    | succ i =>
      simp at hx
      rw [List.eraseIdx_cons_succ, List.filter_cons, if_pos, ih hn.2 hx]
      have : z.key ≠ x.key := fun e => hn.1 (e ▸ List.mem_map.2 ⟨x, List.mem_of_getElem? hx, rfl⟩)
      simpa using this
end Go.Hm
