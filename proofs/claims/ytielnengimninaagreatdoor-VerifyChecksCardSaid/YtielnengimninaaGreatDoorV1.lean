/- image.Of, waits, Find, most: walked. -/
import Derived.Test.YtielnengimninaaGreatDoorRows
import Derived.Test.YtielnengimninaaGreatDoorVl
import Derived.Deep.CutBlock
import Derived.RangeFuncRecord
namespace Go.Va
/-- what an instruction needs and does -/
structure Inf where
  name : ByteArray
  operand : Int
  i : Int
  o : Int
  blocks : Bool
  ends : Bool
  flow : Bool
def Inf.cells (x : Inf) : Array Value := #[.string x.name, .int .i64 x.operand, .int .i64 x.i, .int .i64 x.o, .bool x.blocks, .bool x.ends, .bool x.flow]
def waitsL (op : Int) : Inf × Bool :=
  bif op == 17 then (⟨⟨#[116, 105, 109, 101, 114]⟩, 0, 1, 1, false, false, false⟩, true) else
  bif op == 18 then (⟨⟨#[119, 97, 105, 116]⟩, 0, 1, 1, true, false, false⟩, true) else
  bif op == 19 then (⟨⟨#[99, 97, 110, 99, 101, 108]⟩, 0, 1, 1, false, false, false⟩, true) else
  bif op == 20 then (⟨⟨#[99, 97, 108, 108]⟩, 2, 2, 1, false, false, false⟩, true) else
  bif op == 21 then (⟨⟨#[106, 111, 105, 110]⟩, 0, 1, 2, true, false, false⟩, true) else
  bif op == 22 then (⟨⟨#[115, 105, 103, 110, 97, 108]⟩, 2, 0, 1, true, false, false⟩, true) else
  bif op == 23 then (⟨⟨#[112, 111, 108, 108]⟩, 2, 0, 2, false, false, false⟩, true) else
  bif op == 24 then (⟨⟨#[97, 115, 107, 101, 100]⟩, 0, 0, 1, false, false, false⟩, true) else
  bif op == 25 then (⟨⟨#[114, 101, 116, 117, 114, 110]⟩, 0, 1, 0, false, true, false⟩, true) else
  bif op == 26 then (⟨⟨#[102, 97, 105, 108]⟩, 2, 0, 0, false, true, false⟩, true) else
  bif op == 27 then (⟨⟨#[97, 103, 97, 105, 110]⟩, 0, 1, 0, false, true, false⟩, true) else
  bif op == 28 then (⟨⟨#[101, 105, 116, 104, 101, 114]⟩, 2, 1, 2, true, false, false⟩, true) else
  bif op == 29 then (⟨⟨#[112, 97, 99, 107]⟩, 5, 0, 1, false, false, false⟩, true) else
  bif op == 30 then (⟨⟨#[105, 116, 101, 109]⟩, 0, 2, 1, false, false, false⟩, true) else
  bif op == 31 then (⟨⟨#[115, 105, 122, 101]⟩, 0, 1, 1, false, false, false⟩, true) else
  bif op == 32 then (⟨⟨#[99, 97, 116]⟩, 0, 2, 1, false, false, false⟩, true) else
  (⟨⟨#[]⟩, 0, 0, 0, false, false, false⟩, false)
def ofL (op : Int) : Inf × Bool :=
  bif op == 0 then (⟨⟨#[110, 111, 112]⟩, 0, 0, 0, false, false, false⟩, true) else
  bif op == 1 then (⟨⟨#[112, 117, 115, 104]⟩, 1, 0, 1, false, false, false⟩, true) else
  bif op == 2 then (⟨⟨#[112, 111, 112]⟩, 0, 1, 0, false, false, false⟩, true) else
  bif op == 3 then (⟨⟨#[100, 117, 112]⟩, 0, 1, 2, false, false, false⟩, true) else
  bif op == 4 then (⟨⟨#[115, 119, 97, 112]⟩, 0, 2, 2, false, false, false⟩, true) else
  bif op == 5 then (⟨⟨#[97, 100, 100]⟩, 0, 2, 1, false, false, false⟩, true) else
  bif op == 6 then (⟨⟨#[115, 117, 98]⟩, 0, 2, 1, false, false, false⟩, true) else
  bif op == 7 then (⟨⟨#[109, 117, 108]⟩, 0, 2, 1, false, false, false⟩, true) else
  bif op == 8 then (⟨⟨#[115, 97, 109, 101]⟩, 0, 2, 1, false, false, false⟩, true) else
  bif op == 9 then (⟨⟨#[108, 101, 115, 115]⟩, 0, 2, 1, false, false, false⟩, true) else
  bif op == 10 then (⟨⟨#[110, 111, 116]⟩, 0, 1, 1, false, false, false⟩, true) else
  bif op == 11 then (⟨⟨#[106, 117, 109, 112]⟩, 4, 0, 0, false, false, true⟩, true) else
  bif op == 12 then (⟨⟨#[117, 110, 108, 101, 115, 115]⟩, 4, 1, 0, false, false, true⟩, true) else
  bif op == 13 then (⟨⟨#[108, 111, 97, 100]⟩, 3, 0, 1, false, false, false⟩, true) else
  bif op == 14 then (⟨⟨#[115, 116, 111, 114, 101]⟩, 3, 1, 0, false, false, false⟩, true) else
  bif op == 15 then (⟨⟨#[105, 110, 112, 117, 116]⟩, 0, 0, 1, false, false, false⟩, true) else
  bif op == 16 then (⟨⟨#[110, 111, 119]⟩, 0, 0, 1, false, false, false⟩, true) else
  waitsL op
end Go.Va
namespace Go.Proofs.YtielnengimninaaGreatDoor
open Go.RowKit Go.Own Go.Own.MapTy Go.Va
open Go.Own.Cells (sz enc)
--[[waits
set_option maxHeartbeats 4000000 in
theorem waits_any (op : Int) (w : World) : Calls Tryz.prog 46 #[.int .i64 op] w fun e w' => e = .returned (.tuple #[.agg (waitsL op).1.cells, .bool (waitsL op).2]) ∧ Below w.heap.size w w' := by
  go_enter Tryz.func46, Tryz.ntmps46
  go_wp2_with fail
  all_goals
    refine bodyPost_ret (v := .tuple #[.agg (waitsL op).1.cells, .bool (waitsL op).2]) ?_ rfl ⟨rfl, (Below.refl _ _).alloc (Nat.le_refl _) _⟩
    simp only [waitsL, *, cond_true, cond_false, Inf.cells]
    simp only [results, Tryz.results46]
    go_simp
--]]waits
--[[of
set_option maxHeartbeats 4000000 in
theorem of_any (op : Int) (w : World) : Calls Tryz.prog 21 #[.int .i64 op] w fun e w' => e = .returned (.tuple #[.agg (ofL op).1.cells, .bool (ofL op).2]) ∧ Below w.heap.size w w' := by
  go_enter Tryz.func21, Tryz.ntmps21
  go_wp2_with fail
  all_goals try
    refine bodyPost_ret (v := .tuple #[.agg (ofL op).1.cells, .bool (ofL op).2]) ?_ rfl ⟨rfl, (Below.refl _ _).alloc (Nat.le_refl _) _⟩
    simp only [ofL, *, cond_true, cond_false, Inf.cells]
    simp only [results, Tryz.results21]
    go_simp
  have e : ofL op = waitsL op := by simp only [ofL, *, cond_false]
  refine (waits_any op _).mono ?_
  rintro e w1 ⟨rfl, hB⟩
  generalize hp : waitsL op = p at *
  obtain ⟨x, b⟩ := p
  have hh : w1.heap[w.heap.size]? = some (.cells #[.string .empty, .int .i64 0, .int .i64 0, .int .i64 0, .bool false, .bool false, .bool false] 47) := by
    refine ((Keeps.of_below hB).block (S := fun _ => False) w.heap.size (by simp) (fun f => f)).trans (World.alloc_heap_new _ _)
  have c0 : w1.cell? ⟨w.heap.size, 0, none⟩ = some (.string .empty) := by rw [cell_of_heap hh]; rfl
  have c1 : w1.cell? ⟨w.heap.size, 1, none⟩ = some (.int .i64 0) := by rw [cell_of_heap hh]; rfl
  have c2 : w1.cell? ⟨w.heap.size, 2, none⟩ = some (.int .i64 0) := by rw [cell_of_heap hh]; rfl
  have c3 : w1.cell? ⟨w.heap.size, 3, none⟩ = some (.int .i64 0) := by rw [cell_of_heap hh]; rfl
  have c4 : w1.cell? ⟨w.heap.size, 4, none⟩ = some (.bool false) := by rw [cell_of_heap hh]; rfl
  have c5 : w1.cell? ⟨w.heap.size, 5, none⟩ = some (.bool false) := by rw [cell_of_heap hh]; rfl
  have c6 : w1.cell? ⟨w.heap.size, 6, none⟩ = some (.bool false) := by rw [cell_of_heap hh]; rfl
  have f0 : ∀ o, w1.frozen? ⟨w.heap.size, o, none⟩ = false := fun o => frozen_of_heap hh o
  simp only [Inf.cells]
  clear hh
  go_wp2_with fail
  refine bodyPost_ret (v := .tuple #[.agg (ofL op).1.cells, .bool (ofL op).2]) ?_ rfl ⟨rfl, ?_⟩
  · rw [e]
    simp only [results, Tryz.results21, Inf.cells]
    go_simp
  · have hB0 := ((Below.refl w.heap.size w).alloc (Nat.le_refl _) _).trans (hB.mono (by simp))
    exact ((((((hB0.setCell (Nat.le_refl _) _).setCell (Nat.le_refl _) _).setCell (Nat.le_refl _) _).setCell (Nat.le_refl _) _).setCell (Nat.le_refl _) _).setCell (Nat.le_refl _) _).setCell (Nat.le_refl _) _
--]]of
--[[find
def findFrom (name : ByteArray) : Nat → Nat → Option Nat
  | 0, _ => none
  | n + 1, k => bif (ofL k).2 && (ofL k).1.name.data.toList == name.data.toList then some k else findFrom name n (k + 1)
/-- the instruction of a name -/
def findL (name : ByteArray) : Option Nat := findFrom name 33 0
def findV (r : Option Nat) : Value := .tuple #[.int .i64 (r.getD 0 : Nat), .bool r.isSome]
set_option maxHeartbeats 4000000 in
theorem find_op (name : ByteArray) (w : World) : Calls Tryz.prog 91 #[.string name] w fun e w' => e = .returned (findV (findL name)) ∧ Below w.heap.size w w' := by
  go_enter Tryz.func91, Tryz.ntmps91
  go_wp2_with fail
  go_loopw [7] (fun v7 wr => ∃ k : Nat, v7 = .int .i64 k ∧ k ≤ 33 ∧ Below w.heap.size w wr ∧ findFrom name (33 - k) k = findL name) (fun v7 _ => 33 - (intOf v7).toNat)
  case atStart => exact ⟨0, rfl, Nat.zero_le _, Below.refl _ _, rfl⟩
  case round =>
    obtain ⟨k, rfl, hk, hB, hf⟩ := hrel
    by_cases hkn : k < 33
    · have e0 : ((k : Int) < 33) := by omega
      have OF := Lib.hid (of_any k wr)
      have HB := Lib.hid (And.intro hB hf)
      clear hB hf
      go_wp2_with fail
      refine OF.out.mono ?_
      rintro e w1 ⟨rfl, hB1⟩
      have hh := Lib.hid hB1
      clear hB1
      generalize hp : ofL k = p
      obtain ⟨x, b⟩ := p
      simp only [Inf.cells]
      have hst : findFrom name (33 - k) k = bif b && x.name.toList == name.toList then some k else findFrom name (33 - (k + 1)) (k + 1) := by
        have e1 : 33 - k = (33 - (k + 1)) + 1 := by omega
        rw [e1, findFrom, hp, ByteArray.toList_eq, ByteArray.toList_eq]
      have hst := Lib.hid hst
      clear hp
      cases b <;> cases hn : x.name.toList == name.toList
      all_goals go_wp2_with fail
      all_goals have hB := hh.out.mono HB.out.1.size
      all_goals have hB2 := (HB.out.1.trans hB).alloc (Nat.le_trans HB.out.1.size hh.out.size) (.cells #[.string x.name, .int .i64 x.operand, .int .i64 x.i, .int .i64 x.o, .bool x.blocks, .bool x.ends, .bool x.flow] 47)
      all_goals try
        refine ⟨⟨k + 1, by simp, by omega, hB2, ?_⟩, by simp [intOf]; omega⟩
        rw [← HB.out.2, hst.out, hn]
        rfl
      refine bodyPost_ret (v := findV (findL name)) ?_ rfl ⟨rfl, hB2⟩
      rw [← HB.out.2, hst.out, hn]
      simp only [results, Tryz.results91, findV]
      go_simp
    · obtain rfl : k = 33 := by omega
      have HB := Lib.hid (And.intro hB hf)
      clear hB hf
      go_wp2_with fail
      refine bodyPost_ret (v := findV (findL name)) ?_ rfl ⟨rfl, HB.out.1⟩
      rw [← HB.out.2, show 33 - 33 = 0 from rfl, findFrom]
      simp only [results, Tryz.results91, findV]
      go_simp
--]]find
end Go.Proofs.YtielnengimninaaGreatDoor
