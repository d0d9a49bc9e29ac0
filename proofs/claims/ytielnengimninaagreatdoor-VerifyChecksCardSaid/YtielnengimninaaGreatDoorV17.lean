/- verify.takes, rests, follow, walked. -/
import Derived.Test.YtielnengimninaaGreatDoorV15
namespace Go.Va
open Go.Own Go.RowKit
instance : Cells Nat where
  sz := 1
  enc := fun n => [.int .i64 (n : Int)]
  len := fun _ => rfl
  one := by
    intro x v hv
    simp at hv
    subst hv
    rfl
/-- how many values an instruction takes -/
def takesL (c : In) : Int := bif c.op == 29 then c.a else (ofL c.op).1.i
/-- may an instruction wait, or is the run over with it? -/
def restsL (c : In) : Bool := (ofL c.op).1.blocks || (ofL c.op).1.ends
/-- the instructions that may follow one -/
def followN (c : In) (k : Nat) : List Nat :=
  bif (ofL c.op).1.ends then [] else bif c.op == 11 then [c.a.toNat] else bif (ofL c.op).1.flow then [k + 1, c.a.toNat] else [k + 1]
end Go.Va
namespace Go.Proofs.YtielnengimninaaGreatDoor
open Go.RowKit Go.Own Go.Own.MapTy Go.Va Go.Sort
open Go.Own.Cells (sz enc)
theorem of_rule (op : Int) (inf : Inf) (ok : Bool) (h : ofL op = (inf, ok)) (W : World) : Calls Tryz.prog 21 #[.int .i64 op] W (fun e w' => e = .returned (.tuple #[.agg #[.string inf.name, .int .i64 inf.operand, .int .i64 inf.i, .int .i64 inf.o, .bool inf.blocks, .bool inf.ends, .bool inf.flow], .bool ok]) ∧ Below W.heap.size W w') := by
  have := of_any op W
  rw [h] at this
  exact this
--[[takes
set_option maxRecDepth 100000 in
set_option maxHeartbeats 8000000 in
theorem takes_any (op a : Int) (W : World) : Calls Tryz.prog 105 #[.agg #[.int .i64 op, .int .i64 a]] W fun e w' => e = .returned (.int .i64 (takesL ⟨op, a⟩)) ∧ Below W.heap.size W w' := by
  obtain ⟨inf, ok, hof⟩ : ∃ inf ok, ofL op = (inf, ok) := ⟨_, _, rfl⟩
  have OF := Lib.hid (of_rule op inf ok hof)
  have hr : takesL ⟨op, a⟩ = bif op == 29 then a else inf.i := by unfold takesL; rw [hof]
  rw [hr]
  clear hr hof
  go_enter Tryz.func105, Tryz.ntmps105
  cases h29 : (op == 29) with
  | true =>
    go_wp2_with fail
    go_ret
    exact ⟨rfl, (Below.refl _ _).alloc (Nat.le_refl _) _⟩
  | false =>
    go_wp2_with fail
    refine (OF.out _).mono ?_
    rintro e w5 ⟨rfl, hB5⟩
    have B5 := Lib.hid (show Below W.heap.size W w5 from ((Below.refl _ _).alloc (Nat.le_refl _) _).trans (hB5.mono (by simp)))
    clear hB5
    go_wp2_with fail
    go_ret
    exact ⟨rfl, B5.out.alloc B5.out.size _⟩
--]]takes
--[[rests
set_option maxRecDepth 100000 in
set_option maxHeartbeats 8000000 in
theorem rests_any (op a : Int) (W : World) : Calls Tryz.prog 80 #[.agg #[.int .i64 op, .int .i64 a]] W fun e w' => e = .returned (.bool (restsL ⟨op, a⟩)) ∧ Below W.heap.size W w' := by
  obtain ⟨inf, ok, hof⟩ : ∃ inf ok, ofL op = (inf, ok) := ⟨_, _, rfl⟩
  have OF := Lib.hid (of_rule op inf ok hof)
  have hr : restsL ⟨op, a⟩ = (inf.blocks || inf.ends) := by unfold restsL; rw [hof]
  rw [hr]
  clear hr hof
  go_enter Tryz.func80, Tryz.ntmps80
  go_wp2_with fail
  refine (OF.out _).mono ?_
  rintro e w5 ⟨rfl, hB5⟩
  have B5 := Lib.hid (show Below W.heap.size W w5 from ((Below.refl _ _).alloc (Nat.le_refl _) _).trans (hB5.mono (by simp)))
  clear hB5
  cases hb : inf.blocks with
  | true =>
    go_wp2_with fail
    go_ret
    exact ⟨by rw [hb]; rfl, B5.out.alloc B5.out.size _⟩
  | false =>
    go_wp2_with fail
    go_ret
    exact ⟨by rw [hb]; rfl, B5.out.alloc B5.out.size _⟩
--]]rests
--[[follow
set_option maxRecDepth 100000 in
set_option maxHeartbeats 8000000 in
theorem follow_any {F : Nat → Prop} {W : World} {ad : Option Addr} {n cap : Nat} {code : List In} (H : RdF F W (.slice ad n cap) code) (k : Nat) (c : In) (hc : code[k]? = some c) (ha : 0 ≤ c.a) (hk : k < 65536) :
    Calls Tryz.prog 81 #[.slice ad n cap, .int .i64 k] W fun e w' => ∃ v, e = .returned v ∧ RowAt w' 3 v (followN c k) ∧ (∀ g, v.ownBlock = some g → W.heap.size ≤ g) ∧ Below W.heap.size W w' := by
  obtain ⟨rfl, hmx, g, off, had, hel⟩ := H.elems
  obtain ⟨hFg, hg, hcs⟩ := hel k c hc
  have had := had.resolve_right (fun e => by rw [e] at hc; simp at hc)
  subst had
  have m0 := hcs 0 _ rfl
  have m1 := hcs 1 _ rfl
  rw [show off + (k * sz In + 0) = off + k * 2 from rfl] at m0
  rw [show off + (k * sz In + 1) = off + k * 2 + 1 from rfl] at m1
  have hkn : (k : Int) < code.length := by have := (List.getElem?_eq_some_iff.1 hc).1; omega
  have hw1 : IntKind.i64.wrap ((k : Int) + 1) = (k : Int) + 1 := IntWalk.i64_in _ (by omega)
  obtain ⟨op, a⟩ := c
  obtain ⟨inf, ok, hof⟩ : ∃ inf ok, ofL op = (inf, ok) := ⟨_, _, rfl⟩
  have OF := Lib.hid (of_rule op inf ok hof)
  have hr : followN ⟨op, a⟩ k = bif inf.ends then [] else bif op == 11 then [a.toNat] else bif inf.flow then [k + 1, a.toNat] else [k + 1] := by unfold followN; rw [hof]
  rw [hr]
  dsimp only at ha m0 m1
  obtain ⟨an, rfl⟩ : ∃ an : Nat, a = an := ⟨a.toNat, by omega⟩
  rw [Int.toNat_natCast]
  clear hr hof hel hcs H hc
  go_enter Tryz.func81, Tryz.ntmps81
  go_wp2_with fail
  refine (OF.out _).mono ?_
  rintro e w5 ⟨rfl, hB5⟩
  have i0 : w5.cell? ⟨W.heap.size, 0, none⟩ = some (.int .i64 op) := by rw [hB5.cell (p := ⟨W.heap.size, 0, none⟩) (by simp), cell_of_heap (heap_alloc_new _ _)]; rfl
  have i1 : w5.cell? ⟨W.heap.size, 1, none⟩ = some (.int .i64 an) := by rw [hB5.cell (p := ⟨W.heap.size, 1, none⟩) (by simp), cell_of_heap (heap_alloc_new _ _)]; rfl
  have lt5 : W.heap.size < w5.heap.size := by have := hB5.size; simp at this; omega
  have B5 : Below W.heap.size W w5 := ((Below.refl _ _).alloc (Nat.le_refl _) (.cells #[.int .i64 op, .int .i64 an] 45)).trans (hB5.mono (by simp))
  have B6 := Lib.hid (B5.alloc B5.size (.cells #[.string inf.name, .int .i64 inf.operand, .int .i64 inf.i, .int .i64 inf.o, .bool inf.blocks, .bool inf.ends, .bool inf.flow] 47))
  clear hB5 B5 OF
  cases h1 : inf.ends with
  | true =>
    rw [h1] at B6
    go_wp2_with fail
    go_ret
    exact ⟨_, rfl, by simp only [h1, cond_true]; exact RowAt.nil _ _, fun g h => (by cases h), B6.out⟩
  | false =>
    rw [h1] at B6
    cases h2 : (op == 11) with
    | true =>
      go_wp2_with fail
      go_ret
      exact ⟨_, rfl, by simp only [h1, h2, cond_true, cond_false]; exact RowAt.made heap_new2 rfl rfl (by decide), own_lit (by omega), B6.out.alloc (by simp; omega) _⟩
    | false =>
      cases h3 : inf.flow with
      | true =>
        rw [h3] at B6
        go_wp2_with fail
        go_ret
        exact ⟨_, rfl, by simp only [h1, h2, h3, cond_true, cond_false]; exact RowAt.made heap_new2 rfl rfl (by decide), own_lit (by omega), B6.out.alloc (by simp; omega) _⟩
      | false =>
        rw [h3] at B6
        go_wp2_with fail
        go_ret
        exact ⟨_, rfl, by simp only [h1, h2, h3, cond_false]; exact RowAt.made heap_new2 rfl rfl (by decide), own_lit (by omega), B6.out.alloc (by simp; omega) _⟩
--]]follow
end Go.Proofs.YtielnengimninaaGreatDoor
