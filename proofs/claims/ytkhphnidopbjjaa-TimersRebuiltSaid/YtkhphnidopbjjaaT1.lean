/- The timers' small functions, walked: Saturate, Closes, compare. -/
import Derived.Test.YtkhphnidopbjjaaLib4
import Derived.Test.YtkhphnidopbjjaaHm7
namespace Go.Hm
/-- an event: its numbers, its strings, its value -/
structure Ev where
  id : Int
  time : Int
  kind : Int
  a : Int
  b : Int
  nm : ByteArray
  tx : ByteArray
  vk : Int
  vn : Int
  vs : ByteArray
  la : Option Addr
  ln : Nat
  lc : Nat
abbrev evCells (e : Ev) : Array Value := #[.int .i64 e.id, .int .i64 e.time, .int .i64 e.kind, .int .i64 e.a, .int .i64 e.b, .string e.nm, .string e.tx, .int .i64 e.vk, .int .i64 e.vn, .string e.vs, .slice e.la e.ln e.lc]
def satI (n t : Int) : Int := if n < 0 ∨ t < 0 then 0 else if 4611686018427387903 ≤ n ∨ 4611686018427387903 - n < t then 4611686018427387903 else n + t
/-- which of two is due first; of those that are due at one tick by the run, the kind and the number -/
def cmpT (a b : It) : Int := if cmpI a.due b.due ≠ 0 then cmpI a.due b.due else if cmpI a.run b.run ≠ 0 then cmpI a.run b.run else if cmpI a.kind b.kind ≠ 0 then cmpI a.kind b.kind else cmpI a.id b.id
end Go.Hm
namespace Go.Proofs.Ytkhphnidopbjjaa
open Go.RowKit Go.Own Go.Own.MapTy Go.Hm
open Go.Own.Cells (sz enc)
set_option maxHeartbeats 1000000 in
theorem sat_any (n t : Int) (w : World) :
    Calls Try.prog 48 #[.int .i64 n, .int .i64 t] w fun e w' => e = .returned (.int .i64 (satI n t)) ∧ w = w' := by
  unfold satI
  by_cases h1 : n < 0
  · rw [if_pos (.inl h1)]
    go_enter Try.func48, Try.ntmps48
    go_wp2_with fail
    go_ret
    exact ⟨rfl, rfl⟩
  · by_cases h2 : t < 0
    · rw [if_pos (.inr h2)]
      go_enter Try.func48, Try.ntmps48
      go_wp2_with fail
      go_ret
      exact ⟨rfl, rfl⟩
    · rw [if_neg (by omega)]
      by_cases h3 : 4611686018427387903 ≤ n
      · rw [if_pos (.inl h3)]
        go_enter Try.func48, Try.ntmps48
        go_wp2_with fail
        go_ret
        exact ⟨rfl, rfl⟩
      · by_cases h4 : 4611686018427387903 - n < t
        · rw [if_pos (.inr h4)]
          go_enter Try.func48, Try.ntmps48
          go_wp2_with fail
          go_ret
          exact ⟨rfl, rfl⟩
        · rw [if_neg (by omega)]
          go_enter Try.func48, Try.ntmps48
          go_wp2_with fail
          go_ret
          exact ⟨rfl, rfl⟩
set_option maxHeartbeats 1000000 in
theorem closes_yes (v : Ev) (w : World) (h1 : 16 ≤ v.kind) (h2 : v.kind ≤ 21) :
    Calls Try.prog 49 #[.agg (evCells v)] w fun e w' => e = .returned (.bool true) ∧ Below w.heap.size w w' := by
  go_enter Try.func49, Try.ntmps49
  go_wp2_with fail
  go_ret
  exact ⟨rfl, (Below.refl _ _).alloc (Nat.le_refl _) _⟩
set_option maxHeartbeats 1000000 in
theorem closes_no (v : Ev) (w : World) (h1 : ¬ (16 ≤ v.kind ∧ v.kind ≤ 21)) :
    Calls Try.prog 49 #[.agg (evCells v)] w fun e w' => e = .returned (.bool false) ∧ Below w.heap.size w w' := by
  by_cases h2 : 16 ≤ v.kind
  · have h3 : ¬ v.kind ≤ 21 := by omega
    clear h1
    go_enter Try.func49, Try.ntmps49
    go_wp2_with fail
    go_ret
    exact ⟨rfl, (Below.refl _ _).alloc (Nat.le_refl _) _⟩
  · clear h1
    go_enter Try.func49, Try.ntmps49
    go_wp2_with fail
    go_ret
    exact ⟨rfl, (Below.refl _ _).alloc (Nat.le_refl _) _⟩
end Go.Proofs.Ytkhphnidopbjjaa
