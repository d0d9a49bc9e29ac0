/- The document's answer for the heap (foliotref16), walked: Find. -/
import Derived.Test.YtkhphnidopbjjaaH10
namespace Go.Hm
open Go.Own
/-- a thing of the document's -/
structure RIt where
  run : Int
  kind : Int
  id : Int
  due : Int
  seq : Int
deriving DecidableEq, Inhabited
def rEnc (x : RIt) : List Value := [.int .i64 x.run, .int .i64 x.kind, .int .i64 x.id, .int .i64 x.due, .int .i64 x.seq]
instance : Cells RIt where
  sz := 5
  enc := rEnc
  len := fun _ => rfl
  one := by
    intro x v hv
    simp [rEnc] at hv
    rcases hv with rfl | rfl | rfl | rfl | rfl <;> rfl
theorem row_rit {w : World} {e : TypeId} {xs : List RIt} {g off n cap : Nat} (h : RowAt w e (.slice (some ⟨g, off, none⟩) n cap) xs) {i : Nat} {x : RIt} (hx : xs[i]? = some x) :
    w.cell? ⟨g, off + i * 5, none⟩ = some (.int .i64 x.run) ∧ w.cell? ⟨g, off + i * 5 + 1, none⟩ = some (.int .i64 x.kind) ∧ w.cell? ⟨g, off + i * 5 + 2, none⟩ = some (.int .i64 x.id) ∧
    w.cell? ⟨g, off + i * 5 + 3, none⟩ = some (.int .i64 x.due) ∧ w.cell? ⟨g, off + i * 5 + 4, none⟩ = some (.int .i64 x.seq) :=
  ⟨h.cell hx (j := 0) (by decide), h.cell hx (j := 1) (by decide), h.cell hx (j := 2) (by decide), h.cell hx (j := 3) (by decide), h.cell hx (j := 4) (by decide)⟩
/-- is it the thing of that key? -/
def RIt.is (x : RIt) (a b c : Int) : Prop := x.run = a ∧ x.kind = b ∧ x.id = c
/-- Find's answer, told -/
def FindAt (q : List RIt) (a b c : Int) (r : Int) : Prop :=
  (∃ (i : Nat) (x : RIt), r = i ∧ q[i]? = some x ∧ x.is a b c ∧ ∀ j y, j < i → q[j]? = some y → ¬ y.is a b c) ∨ (r = -1 ∧ ∀ (j : Nat) y, q[j]? = some y → ¬ y.is a b c)
end Go.Hm
namespace Go.Proofs.Ytkhphnidopbjjaa
open Go.RowKit Go.Own Go.Own.MapTy Go.Hm
open Go.Own.Cells (sz enc)

set_option maxHeartbeats 1000000 in
theorem find_any (a b c : Int) (v : Value) (q : List RIt) (sq : Int) (w : World) (H : RowAt w 57 v q) (hn : q.length ≤ 16384) :
    Calls Try.prog 20 #[.agg #[v, .int .i64 sq], .int .i64 a, .int .i64 b, .int .i64 c] w fun e w' => ∃ r, e = .returned (.int .i64 r) ∧ FindAt q a b c r ∧ Below w.heap.size w w' := by
  obtain ⟨ad, cap, rfl⟩ := H.slice
  have HR := Lib.hid H
  clear H
  go_enter Try.func20, Try.ntmps20
  go_wp2_with fail
  obtain ⟨w0, hw0⟩ : ∃ w0, w0 = w.alloc (.cells #[.slice ad q.length cap, .int .i64 sq] 49) := ⟨_, rfl⟩
  rw [← hw0]
  have hB : Below w.heap.size w w0 := by rw [hw0]; exact (Below.refl _ _).alloc (Nat.le_refl _) _
  have hbx : w0.cell? ⟨w.heap.size, 0, none⟩ = some (.slice ad q.length cap) := by rw [hw0, cell_of_heap (heap_alloc_new w _)]; rfl
  have H0 := Lib.hid (HR.out.keep (Keeps.of_below hB) (fun _ _ h => h))
  clear hw0
  go_loopw [9] (fun v wr => ∃ k : Nat, v = .int .i64 k ∧ k ≤ q.length ∧ wr = w0 ∧ ∀ j y, j < k → q[j]? = some y → ¬ y.is a b c) (fun v _ => q.length - (intOf v).toNat)
  case atStart => exact ⟨0, rfl, Nat.zero_le _, rfl, fun j y h => by omega⟩
  case round =>
    obtain ⟨k, rfl, hk, rfl, hno⟩ := hrel
    have HN := Lib.hid hno
    clear hno
    by_cases hkn : k < q.length
    · have hx : q[k]? = some q[k] := by simp [hkn]
      generalize q[k] = x at hx
      have hR := H0.out
      obtain ⟨g, off, rfl⟩ : ∃ g off, ad = some ⟨g, off, none⟩ := by
        rcases hR with ⟨_, h⟩ | ⟨g, off, cap', _, h, _⟩
        · rw [h] at hkn; cases hkn
        · simp only [Value.slice.injEq] at h; exact ⟨g, off, h.1⟩
      obtain ⟨x0, x1, x2, _, _⟩ := row_rit hR hx
      have hk0 : (0 : Int) ≤ (k : Int) := by omega
      have hk1 : (k : Int) < (q.length : Int) := by omega
      have NX : ¬ x.is a b c → ∀ j y, j < k + 1 → q[j]? = some y → ¬ y.is a b c := by
        intro h j y hj hy
        rcases Nat.lt_or_ge j k with h' | h'
        · exact HN.out j y h' hy
        · have : j = k := by omega
          subst this
          rw [hx] at hy
          cases hy
          exact h
      have HX := Lib.hid hx
      have NXX := Lib.hid NX
      clear hx NX hR
      by_cases e1 : x.run = a
      · by_cases e2 : x.kind = b
        · by_cases e3 : x.id = c
          · rw [e1] at x0; rw [e2] at x1; rw [e3] at x2
            go_wp2_with fail
            go_ret
            exact ⟨k, rfl, .inl ⟨k, x, rfl, HX.out, ⟨e1, e2, e3⟩, HN.out⟩, hB⟩
          · rw [e1] at x0; rw [e2] at x1
            have t3 : (x.id == c) = false := beq_eq_false_iff_ne.2 e3
            go_wp2_with fail
            go_roundw
            case rel => exact ⟨k + 1, by simp, hkn, by trivial, NXX.out (fun h => e3 h.2.2)⟩
            case measure => simp [intOf]; omega
        · rw [e1] at x0
          have t2 : (x.kind == b) = false := beq_eq_false_iff_ne.2 e2
          go_wp2_with fail
          go_roundw
          case rel => exact ⟨k + 1, by simp, hkn, by trivial, NXX.out (fun h => e2 h.2.1)⟩
          case measure => simp [intOf]; omega
      · have t1 : (x.run == a) = false := beq_eq_false_iff_ne.2 e1
        go_wp2_with fail
        go_roundw
        case rel => exact ⟨k + 1, by simp, hkn, by trivial, NXX.out (fun h => e1 h.1)⟩
        case measure => simp [intOf]; omega
    · obtain rfl : k = q.length := by omega
      go_wp2_with fail
      go_ret
      exact ⟨-1, rfl, .inr ⟨rfl, fun j y hy => HN.out j y (List.getElem?_eq_some_iff.1 hy).1 hy⟩, hB⟩
end Go.Proofs.Ytkhphnidopbjjaa
