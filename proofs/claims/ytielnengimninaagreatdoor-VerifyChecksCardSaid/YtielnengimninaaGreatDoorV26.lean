/- the guard of the laws of verify: two programs. -/
import Derived.Test.YtielnengimninaaGreatDoorV25
namespace Go.Proofs.YtielnengimninaaGreatDoor
open Go.RowKit Go.Own Go.Own.MapTy Go.Va Go.Sort
open Go.Own.Cells (sz enc)
def text2 : ByteArray := ⟨#[108, 49, 58, 10, 32, 32, 110, 111, 112, 10, 32, 32, 106, 117, 109, 112, 32, 108, 49, 10]⟩
def img2 : Img := ⟨[⟨0, 0⟩, ⟨11, 0⟩], [], [], 0⟩
--[[a2
theorem asm2 : asmL text2 = (img2, 0, 0) := by kernel_rfl
--]]a2
--[[a3
theorem chk1 : checkG img1 = (⟨[0, 1, 0], 1, 3⟩, -1, 0) := by kernel_rfl
--]]a3
--[[a4
theorem chk2 : checkG img2 = (noFa, 0, 133) := by kernel_rfl
--]]a4
--[[asks
set_option maxRecDepth 100000 in
set_option maxHeartbeats 8000000 in
theorem asks_true {N : Nat} (w : World) (G : Gl Tryz.prog N w) : Calls Tryz.prog 13 #[] w fun e w' => e = .returned (.bool true) ∧ Below w.heap.size w w' := by
  have HG := Lib.hid G
  clear G
  have PA := Lib.hid (fun W (G : Gl Tryz.prog N W) => asm1 ▸ asm_any text1 W G)
  have PB := Lib.hid (fun W (G : Gl Tryz.prog N W) => asm2 ▸ asm_any text2 W G)
  go_enter Tryz.func13, Tryz.ntmps13
  go_wp2_with fail
  refine (PA.out _ HG.out).mono ?_
  rintro e w1 ⟨i1, rfl, hI1, hB1⟩
  have hp1 := hI1.pl
  obtain ⟨l1, l2, l3⟩ := hI1.lens
  obtain ⟨ca, cn, cc, ka, kn, kc, na, nn, nc, pl⟩ := i1
  dsimp only at hp1 l1 l2 l3
  have CA := Lib.hid (fun W (K : Below w1.heap.size w1 W) => chk1 ▸ vcheck_any _ _ img1 W (hI1.keep (S := fun _ => False) (Keeps.of_below K) (fun _ _ f => f)) (by intro x hx; cases hx) _ rfl)
  have H1 := Lib.hid hB1
  clear hp1 l1 l2 l3 hI1 hB1 PA
  go_wp2_with fail
  refine (CA.out _ (by exact ((Below.refl _ _).alloc (Nat.le_refl _) _).alloc (by simp) _)).mono ?_
  rintro e w2 ⟨v1, rfl, H2⟩
  obtain ⟨va, vc, rfl⟩ := H2.out.1.slice
  dsimp only [List.length_cons, List.length_nil] at H2 ⊢
  go_wp2_with fail
  obtain ⟨W3, hW3⟩ : ∃ W3, W3 = (w2.alloc (.cells #[.slice va 3 vc, .int .i64 1, .int .i64 3] 31)).alloc (.cells #[.int .i64 (-1), .int .i64 0] 34) := ⟨_, rfl⟩
  have b3 : W3.heap[w2.heap.size]? = some (.cells #[.slice va 3 vc, .int .i64 1, .int .i64 3] 31 (0, 0)) := by rw [hW3]; exact heap_lt2
  have b4 : W3.heap[w2.heap.size + 1]? = some (.cells #[.int .i64 (-1), .int .i64 0] 34 (0, 0)) := by rw [hW3]; exact heap_new2
  have B3 : Below w2.heap.size w2 W3 := by rw [hW3]; exact ((Below.refl _ _).alloc (Nat.le_refl _) _).alloc (by simp) _
  have BA : Below w.heap.size w w2 := (H1.out.alloc H1.out.size _).alloc (by have := H1.out.size; simp; omega) _ |>.trans (H2.out.2.2.mono (by have := H1.out.size; simp; omega))
  have BW3 := BA.trans (B3.mono BA.size)
  have RV := H2.out.1.below B3
  rw [← hW3]
  have H3 := Lib.hid (And.intro b3 (And.intro b4 (And.intro BW3 RV)))
  clear hW3 b3 b4 B3 BA BW3 RV CA H2
  refine (PB.out _ (HG.out.below H3.out.2.2.1)).mono ?_
  rintro e w5 ⟨i2, rfl, hI2, hB5⟩
  obtain ⟨ca, cn, cc, ka, kn, kc, na, nn, nc, pl⟩ := i2
  have CB := Lib.hid (fun W (K : Below w5.heap.size w5 W) => chk2 ▸ vcheck_any _ _ img2 W (hI2.keep (S := fun _ => False) (Keeps.of_below K) (fun _ _ f => f)) (by intro x hx; cases hx) _ rfl)
  have H5 := Lib.hid hB5
  clear hI2 hB5 PB
  dsimp only
  go_wp2_with fail
  refine (CB.out _ (by exact ((Below.refl _ _).alloc (Nat.le_refl _) _).alloc (by simp) _)).mono ?_
  rintro e w6 ⟨v2, rfl, H6⟩
  obtain ⟨xa, xc, rfl⟩ := H6.out.1.slice
  dsimp only [noFa, List.length_nil] at H6 ⊢
  have B56 : Below w5.heap.size w5 w6 := (((Below.refl _ _).alloc (Nat.le_refl _) _).alloc (by simp) _).trans (H6.out.2.2.mono (by simp; omega))
  have B36 := H5.out.trans (B56.mono H5.out.size)
  have b3 := (B36.block w2.heap.size (lt_of_heap H3.out.1)).trans H3.out.1
  have b4 := (B36.block (w2.heap.size + 1) (lt_of_heap H3.out.2.1)).trans H3.out.2.1
  have l3 := lt_of_heap b3
  have l4 := lt_of_heap b4
  have RV := H3.out.2.2.2.below B36
  obtain ⟨g, off, rfl, hg⟩ := RV.addr (i := 1) (x := 1) rfl
  have y1 := row_int RV (i := 1) (x := 1) rfl
  have qa : ∀ o, w6.cell? ⟨w2.heap.size, o, none⟩ = (#[.slice (some ⟨g, off, none⟩) 3 vc, .int .i64 1, .int .i64 3] : Array Value)[o]? := fun o => by rw [cell_of_heap b3]
  have qb : ∀ o, w6.cell? ⟨w2.heap.size + 1, o, none⟩ = (#[.int .i64 (-1), .int .i64 0] : Array Value)[o]? := fun o => by rw [cell_of_heap b4]
  have p0 := qa 0
  have p1 := qa 1
  have p2 := qa 2
  have p3 := qb 0
  have p4 := qb 1
  simp only [List.getElem?_toArray, List.getElem?_cons_zero, List.getElem?_cons_succ] at p0 p1 p2 p3 p4
  have RE := Lib.hid (fun W (K : Below w6.heap.size w6 W) => reached_any _ [0, 1, 0] 1 3 W (RV.below K))
  have BW := Lib.hid (H3.out.2.2.1.trans (B36.mono H3.out.2.2.1.size))
  clear qa qb RV b3 b4 B36 B56 CB H6 H3 H5 H1
  go_wp2_with fail
  refine (RE.out _ (by exact ((Below.refl _ _).alloc (Nat.le_refl _) _).alloc (by simp) _)).mono ?_
  rintro e w7 ⟨rfl, hB7⟩
  have b8 := (hB7.block (w6.heap.size + 1) (by simp)).trans (heap_new2 (w := w6) (X := .cells #[.slice xa 0 xc, .int .i64 0, .int .i64 0] 31) (Y := .cells #[.int .i64 0, .int .i64 133] 34))
  have x0 : w7.cell? ⟨w6.heap.size + 1, 0, none⟩ = some (.int .i64 0) := by rw [cell_of_heap b8]; rfl
  have x1 : w7.cell? ⟨w6.heap.size + 1, 1, none⟩ = some (.int .i64 133) := by rw [cell_of_heap b8]; rfl
  have l8 := lt_of_heap b8
  have B67 : Below w6.heap.size w6 w7 := (((Below.refl _ _).alloc (Nat.le_refl _) _).alloc (by simp) _).trans (hB7.mono (by simp; omega))
  have p0 := (B67.cell (p := ⟨w2.heap.size, 0, none⟩) l3).trans p0
  have p3 := (B67.cell (p := ⟨w2.heap.size + 1, 0, none⟩) l4).trans p3
  have p4 := (B67.cell (p := ⟨w2.heap.size + 1, 1, none⟩) l4).trans p4
  have p1 := (B67.cell (p := ⟨w2.heap.size, 1, none⟩) l3).trans p1
  have p2 := (B67.cell (p := ⟨w2.heap.size, 2, none⟩) l3).trans p2
  have y1 := (B67.cell (p := ⟨g, off + 1, none⟩) hg).trans y1
  have l3 := Nat.lt_of_lt_of_le l3 B67.size
  have l4 := Nat.lt_of_lt_of_le l4 B67.size
  have hg := Nat.lt_of_lt_of_le hg B67.size
  have BZ := Lib.hid (BW.out.trans (B67.mono BW.out.size))
  have hre : ((reachL [0, 1, 0] : Nat) : Int) = 3 := rfl
  rw [hre]
  clear b8 B67 hB7 RE BW hre
  go_wp2_with fail
  go_ret
  exact ⟨rfl, BZ.out⟩
--]]asks
end Go.Proofs.YtielnengimninaaGreatDoor
