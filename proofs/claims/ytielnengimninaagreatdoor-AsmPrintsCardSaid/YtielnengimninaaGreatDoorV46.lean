/- the guard of the laws of asm: a program is read, printed and made tidy. -/
import Derived.Test.YtielnengimninaaGreatDoorV45
import Derived.Test.YtielnengimninaaGreatDoorVA
namespace Go.Proofs.YtielnengimninaaGreatDoor
open Go.RowKit Go.Own Go.Own.MapTy Go.Va Go.Sort
open Go.Own.Cells (sz enc)
def text3 : ByteArray := ⟨#[115, 116, 97, 114, 116, 58, 10, 32, 32, 115, 105, 103, 110, 97, 108, 32, 34, 103, 111, 34, 10, 32, 32, 112, 111, 112, 10, 32, 32, 106, 117, 109, 112, 32, 115, 116, 97, 114, 116, 10]⟩
--[[a1
theorem asm3 : asmL text3 = (img1, 0, 0) := by kernel_rfl
--]]a1
--[[a2
theorem prt1 : asmP img1 = (text1, 0) := by kernel_rfl
--]]a2
--[[a3
theorem tdy1 : tidyP img1 = (img1, 0) := by kernel_rfl
--]]a3
theorem tidy_any
    (F : Nat → Prop) (w : World) (i : IC) (p : Img) (H : IAt F w i p) (hw : ∀ x ∈ p.consts, x.wf)
    (q : Img × Int) (hq : tidyP p = q) :
    Calls Tryz.prog 30 #[.agg #[.slice i.ca i.cn i.cc, .slice i.ka i.kn i.kc, .slice i.na i.nn i.nc, .int .i64 i.pl]] w (TdPost w q) := by
  subst hq
  unfold tidyP
  cases h : (imgL p != 0) with
  | true => exact tidy_bad F w i p H hw _ rfl h
  | false => exact tidy_good F w i p H hw (by simpa using h) _ rfl
--[[reads
set_option maxRecDepth 100000 in
set_option maxHeartbeats 8000000 in
theorem reads_true {N : Nat} (w : World) (G : Gl Tryz.prog N w) : Calls Tryz.prog 23 #[] w fun e w' => e = .returned (.bool true) ∧ Below w.heap.size w w' := by
  have HG := Lib.hid G
  clear G
  have PA := Lib.hid (fun W (G : Gl Tryz.prog N W) => asm3 ▸ asm_any text3 W G)
  go_enter Tryz.func23, Tryz.ntmps23
  go_wp2_with fail
  refine (PA.out _ HG.out).mono ?_
  rintro e w1 ⟨i1, rfl, hI1, hB1⟩
  have hp1 := hI1.pl
  obtain ⟨l1, l2, l3⟩ := hI1.lens
  obtain ⟨ca, cn, cc, ka, kn, kc, na, nn, nc, pl⟩ := i1
  dsimp only at hp1 l1 l2 l3
  obtain rfl : cn = 3 := l1
  obtain rfl : kn = 0 := l2
  obtain rfl : nn = 1 := l3
  obtain rfl : pl = 0 := hp1
  have CP := Lib.hid (fun W (K : Below w1.heap.size w1 W) (G : Gl Tryz.prog N W) => prt1 ▸ print_prog _ W _ img1 (hI1.keep (S := fun _ => False) (Keeps.of_below K) (fun _ _ f => f)) G (by intro x hx; cases hx))
  have CT := Lib.hid (fun W (K : Below w1.heap.size w1 W) => tidy_any _ W _ img1 (hI1.keep (S := fun _ => False) (Keeps.of_below K) (fun _ _ f => f)) (by intro x hx; cases hx) _ tdy1)
  obtain ⟨g, off, ha, _, hg, hcs⟩ := hI1.code.at_ (i := 2) (x := ⟨11, 0⟩) rfl
  have y0 := hcs 0 _ rfl
  dsimp only at ha
  subst ha
  obtain ⟨w2, hw2⟩ : ∃ w2, w2 = (w1.alloc (.cells #[.slice (some ⟨g, off, none⟩) 3 cc, .slice ka 0 kc, .slice na 1 nc, .int .i64 0] 26)).alloc (.cells #[.int .i64 0, .int .i64 0] 52) := ⟨_, rfl⟩
  have B2 : Below w1.heap.size w1 w2 := by rw [hw2]; exact ((Below.refl _ _).alloc (Nat.le_refl _) _).alloc (by simp) _
  have b2 : w2.heap[w1.heap.size]? = some (.cells #[.slice (some ⟨g, off, none⟩) 3 cc, .slice ka 0 kc, .slice na 1 nc, .int .i64 0] 26 (0, 0)) := by rw [hw2]; exact heap_lt2
  have b3 : w2.heap[w1.heap.size + 1]? = some (.cells #[.int .i64 0, .int .i64 0] 52 (0, 0)) := by rw [hw2]; exact heap_new2
  have HB := Lib.hid (hB1.trans (B2.mono hB1.size))
  have H2 := Lib.hid (And.intro B2 (And.intro b2 (And.intro b3 (And.intro y0 hg))))
  clear hI1 hB1 PA hcs b2 b3 B2 y0 hg
  go_wp2_with fail
  rw [← hw2]
  clear hw2
  refine (CP.out _ H2.out.1 (HG.out.below HB.out)).mono ?_
  rintro e w3 ⟨rfl, hB3⟩
  have B13 := H2.out.1.trans (hB3.mono H2.out.1.size)
  have H3 := Lib.hid (And.intro B13 (And.intro ((hB3.block _ (lt_of_heap H2.out.2.1)).trans H2.out.2.1) (And.intro ((hB3.block _ (lt_of_heap H2.out.2.2.1)).trans H2.out.2.2.1) hB3)))
  have q0 : ∀ o, w3.cell? ⟨w1.heap.size, o, none⟩ = (#[.slice (some ⟨g, off, none⟩) 3 cc, .slice ka 0 kc, .slice na 1 nc, .int .i64 0] : Array Value)[o]? := fun o => by rw [cell_of_heap H3.out.2.1]
  have p0 := q0 0
  have p1 := q0 1
  have p2 := q0 2
  have p3 := q0 3
  simp only [List.getElem?_toArray, List.getElem?_cons_zero, List.getElem?_cons_succ] at p0 p1 p2 p3
  have lt3 := lt_of_heap H3.out.2.1
  clear q0 hB3 B13 CP
  go_wp2_with fail
  refine (CT.out _ H3.out.1).mono ?_
  rintro e w4 ⟨⟨da, dn, dc, ea, en, ec, fa, fn, fc, pm⟩, rfl, H4⟩
  dsimp only [IC.cells]
  have B4 := H4.out.2
  have B24 := H3.out.2.2.2.trans (B4.mono H3.out.2.2.2.size)
  have B14 := H3.out.1.trans (B4.mono H3.out.1.size)
  have x0 := (B4.block _ (lt_of_heap H3.out.2.1)).trans H3.out.2.1
  have x1 := (B4.block _ (lt_of_heap H3.out.2.2.1)).trans H3.out.2.2.1
  have q0 : ∀ o, w4.cell? ⟨w1.heap.size, o, none⟩ = (#[.slice (some ⟨g, off, none⟩) 3 cc, .slice ka 0 kc, .slice na 1 nc, .int .i64 0] : Array Value)[o]? := fun o => by rw [cell_of_heap x0]
  have q1 : ∀ o, w4.cell? ⟨w1.heap.size + 1, o, none⟩ = (#[.int .i64 0, .int .i64 0] : Array Value)[o]? := fun o => by rw [cell_of_heap x1]
  have r0 := q0 0
  have r2 := q0 2
  have s0 := q1 0
  have s1 := q1 1
  simp only [List.getElem?_toArray, List.getElem?_cons_zero, List.getElem?_cons_succ] at r0 r2 s0 s1
  have y0 := (B14.cell (p := ⟨g, _, none⟩) H2.out.2.2.2.2).trans H2.out.2.2.2.1
  rw [show off + (2 * sz In + 0) = off + 4 from rfl] at y0
  have hg := Nat.lt_of_lt_of_le H2.out.2.2.2.2 B14.size
  have lt0 := lt_of_heap x0
  have lt1 := lt_of_heap x1
  have l4 := H4.out.1.lens.1
  dsimp only at l4
  obtain rfl : dn = 3 := l4
  have BZ := Lib.hid (HB.out.trans (B24.mono HB.out.size))
  clear p0 p1 p2 p3 x0 x1 q0 q1 B4 B14 B24 CT H4 H3 H2 lt3
  go_wp2_with fail
  go_ret
  exact ⟨by simp [ByteArray.toList_eq, text1], BZ.out.alloc BZ.out.size _⟩
--]]reads
end Go.Proofs.YtielnengimninaaGreatDoor
