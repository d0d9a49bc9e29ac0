/- The heap's things that are due, as plain Lean. -/
import Derived.Test.YtkhphnidopbjjaaHm
namespace Go.Hm
open Go.Own Go.Own.MapTy

/-- how many places are looked at from one on -/
def dueT (n i : Nat) : Nat := if i < n then 1 + dueT n (2 * i + 1) + dueT n (2 * i + 2) else 1
termination_by n - i
decreasing_by all_goals omega
theorem dueT_in {n i : Nat} (h : i < n) : dueT n i = 1 + dueT n (2 * i + 1) + dueT n (2 * i + 2) := by rw [dueT, if_pos h]
theorem dueT_pos (n i : Nat) : 0 < dueT n i := by rw [dueT]; split <;> omega
def todoT (n : Nat) (l : List Nat) : Nat := (l.map (dueT n)).sum
theorem todoT_cons (n i : Nat) (r : List Nat) : todoT n (i :: r) = dueT n i + todoT n r := by simp [todoT]
theorem todoT_two (n a b : Nat) (r : List Nat) : todoT n (r ++ [a, b]) = todoT n r + dueT n a + dueT n b := by simp [todoT]; omega
def dueGo (L : List It) (now : Int) : Nat → List Nat → List It → List It
  | 0, _, out => out
  | _ + 1, [], out => out
  | f + 1, i :: r, out => if i < L.length ∧ (L.getD i default).due ≤ now then dueGo L now f (r ++ [2 * i + 1, 2 * i + 2]) (out ++ [L.getD i default]) else dueGo L now f r out
/-- those that are due, in the order in which they are met -/
def dueL (s : Hp) (now : Int) : List It := dueGo s.L now (todoT s.L.length [0]) [0] []
theorem dueGo_nil (L : List It) (now : Int) (f : Nat) (out : List It) : dueGo L now f [] out = out := by cases f <;> rfl
theorem dueGo_in {L : List It} {now : Int} {f i : Nat} {r : List Nat} {out : List It} {x : It} (hx : L[i]? = some x) (hd : x.due ≤ now) : dueGo L now (f + 1) (i :: r) out = dueGo L now f (r ++ [2 * i + 1, 2 * i + 2]) (out ++ [x]) := by
  rw [dueGo, getD_of hx, if_pos ⟨(List.getElem?_eq_some_iff.1 hx).1, hd⟩]
theorem dueGo_late {L : List It} {now : Int} {f i : Nat} {r : List Nat} {out : List It} {x : It} (hx : L[i]? = some x) (hd : ¬ x.due ≤ now) : dueGo L now (f + 1) (i :: r) out = dueGo L now f r out := by
  rw [dueGo, getD_of hx, if_neg (fun h => hd h.2)]
theorem dueGo_out {L : List It} {now : Int} {f i : Nat} {r : List Nat} {out : List It} (hi : ¬ i < L.length) : dueGo L now (f + 1) (i :: r) out = dueGo L now f r out := by
  rw [dueGo, if_neg (fun h => hi h.1)]
theorem dueT_le (n : Nat) : ∀ (m i : Nat), n ≤ m + i → i ≤ 2 * n + 1 → (i + 1) * dueT n i + (i + 1) ≤ 4 * n + 4 := by
  intro m
  induction m with
  | zero =>
    intro i h1 h2
    rw [dueT, if_neg (by omega)]
    omega
  | succ m ih =>
    intro i h1 h2
    by_cases hi : i < n
    · rw [dueT_in hi]
      have ha := ih (2 * i + 1) (by omega) (by omega)
      have hb := ih (2 * i + 2) (by omega) (by omega)
      generalize dueT n (2 * i + 1) = a at *
      generalize dueT n (2 * i + 2) = b at *
      have e1 : (2 * i + 1 + 1) * a = 2 * ((i + 1) * a) := by rw [← Nat.mul_assoc]; congr 1
      have e2 : (2 * i + 2 + 1) * b = 2 * ((i + 1) * b) + b := by
        rw [show 2 * i + 2 + 1 = 2 * (i + 1) + 1 from by omega, Nat.add_mul, Nat.one_mul, Nat.mul_assoc]
      have e3 : (i + 1) * (1 + a + b) = (i + 1) + (i + 1) * a + (i + 1) * b := by rw [Nat.mul_add, Nat.mul_add, Nat.mul_one]
      rw [e1] at ha
      rw [e2] at hb
      rw [e3]
      generalize (i + 1) * a = p at *
      generalize (i + 1) * b = q at *
      omega
    · rw [dueT, if_neg hi]
      omega
theorem todoT_zero (n : Nat) : todoT n [0] ≤ 4 * n + 3 := by
  have := dueT_le n n 0 (by omega) (by omega)
  simp [todoT]
  omega
theorem todoT_len (n : Nat) : ∀ l : List Nat, l.length ≤ todoT n l
  | [] => by simp [todoT]
  | i :: r => by rw [todoT_cons]; have := todoT_len n r; have := dueT_pos n i; simp; omega
end Go.Hm
