/- The heap's methods, walked: Right. -/
import Derived.Test.YtkhphnidopbjjaaH5
import Derived.Test.YtkhphnidopbjjaaLib2
namespace Go.Proofs.Ytkhphnidopbjjaa
open Go.RowKit Go.Own Go.Own.MapTy Go.Hm
open Go.Own.Cells (sz enc)

/-- it is a heap, and each stands where it is found -/
structure RightOK (s : Hp) : Prop where
  up : ∀ i x y, 0 < i → s.L[i]? = some x → s.L[(i - 1) / 2]? = some y → cmpIt y x ≤ 0
  at_ : ∀ (i : Nat) x, s.L[i]? = some x → MapTy.get s.M x.key = some (i : Int)
  len : s.M.length = s.L.length

def RightRel (w : World) (n : Nat) (v : Value) (wr : World) : Prop := ∃ k : Nat, v = .int .i64 k ∧ k ≤ n ∧ Below w.heap.size w wr

set_option maxHeartbeats 2000000 in
theorem right_some (hb g off cap mb : Nat) (T : TypeId) (s : Hp) (w : World) (H : HX w hb g off cap mb T s) (hr : RightOK s) (hcap : s.L.length ≤ 16384) :
    Calls Try.prog 17 #[.pointer (some ⟨hb, 0, none⟩)] w fun e w' => e = .returned (.bool true) ∧ Below w.heap.size w w' := by
  obtain ⟨c0, c1, c2, b0, b1, b2, hn⟩ := H.facts
  clear c2
  go_enter Try.func17, Try.ntmps17
  go_wp2_with fail
  go_loopw [10] (RightRel w s.L.length) (fun v _ => s.L.length - (intOf v).toNat)
  case atStart => exact ⟨0, rfl, by omega, Below.refl _ _⟩
  case round =>
    obtain ⟨k, rfl, hk, hB⟩ := hrel
    have kk : Keeps (fun _ => False) w wr := Keeps.of_below hB
    have H' := H.keep kk id id id
    have hsw := hB.size
    clear c0 c1 b0 b1 b2
    obtain ⟨c0, c1, c2, b0, b1, b2, hn'⟩ := H'.facts
    clear c2
    by_cases hkn : k < s.L.length
    · have hx : s.L[k]? = some s.L[k] := by simp [hkn]
      generalize s.L[k] = x at hx
      obtain ⟨x0, x1, x2, x3, x4⟩ := row_cells H'.row hx
      have hlook := H'.map.lookS klaw Try.underlying25 (z := .int .i64 0) (fun W => by kernel_rfl) x.key false
      rw [hr.at_ k x hx] at hlook
      replace hlook : ∀ W : World, Same wr mb W → (Instr.lookup 25 (.map (some mb)) (.agg #[.int .i64 x.run, .int .i64 x.kind, .int .i64 x.id]) false).run Try.prog W = .ok (.int .i64 k) W := hlook
      have HXX := Lib.hid hx
      clear hx
      by_cases hk0 : 0 < k
      · obtain ⟨p, hp, hpk⟩ : ∃ p : Nat, p = (k - 1) / 2 ∧ p < k := ⟨(k - 1) / 2, rfl, by omega⟩
        have hy : s.L[p]? = some s.L[p] := by simp
        generalize s.L[p] = y at hy
        obtain ⟨y0, y1, y2, y3, y4⟩ := row_cells H'.row hy
        have hle : cmpIt y x ≤ 0 := hr.up k x y hk0 HXX.out (hp ▸ hy)
        have hgd : decide ((0 : Int) < cmpIt y x) = false := decide_eq_false (by omega)
        have hpI : ((k : Int) - 1) / 2 = (p : Int) := by omega
        have t1 : (0 : Int) ≤ (p : Int) := by omega
        have t2 : (p : Int) < (s.L.length : Int) := by omega
        have t3 : (0 : Int) ≤ (k : Int) - 1 := by omega
        have t4 : IntKind.i64.wrap ((k : Int) - 1) = (k : Int) - 1 := IntWalk.i64_in _ (by omega)
        have t5 : ((k : Int) - 1).tdiv 2 = (p : Int) := by rw [Int.tdiv_eq_ediv_of_nonneg (by omega)]; omega
        have t6 : IntKind.i64.wrap (p : Int) = (p : Int) := IntWalk.i64_in _ (by omega)
        have HP := Lib.hid hp
        have HY := Lib.hid hy
        clear hp hy
        go_wp2_with fail
        obtain ⟨w1, hw1⟩ : ∃ w1, w1 = wr.alloc (.cells #[.int .i64 x.run, .int .i64 x.kind, .int .i64 x.id, .int .i64 x.due, .int .u64 x.seq] 35) := ⟨_, rfl⟩
        rw [← hw1]
        have k1 : Keeps (fun _ => False) wr w1 := by rw [hw1]; exact (Keeps.refl _ wr).alloc _
        have B1 : Below w.heap.size w w1 := by rw [hw1]; exact hB.alloc hsw _
        have hX : ItAt w1 wr.heap.size x := ⟨_, by rw [hw1]; exact heap_alloc_new wr _⟩
        have sm : Same wr mb w1 := k1.same b2 id (same_refl _ _)
        have H1 := H'.keep k1 id id id
        clear hw1 c0 c1 b0 b1 b2 x0 x1 x2 x3 x4 hB hsw kk H' k1 y0 y1 y2 y3 y4
        obtain ⟨c0, c1, c2, b0, b1, b2, hn'⟩ := H1.facts
        clear c2
        obtain ⟨x0, x1, x2, x3, x4, xb⟩ := hX.facts
        obtain ⟨y0, y1, y2, y3, y4⟩ := row_cells H1.row HY.out
        go_region_held3 (fun W => W.cell? ⟨hb, 0, none⟩ = some (.slice (some ⟨g, off, none⟩) s.L.length cap) ∧ W.cell? ⟨hb, 1, none⟩ = some (.map (some mb)) ∧ W.cell? ⟨g, off + p * 5, none⟩ = some (.int .i64 y.run) ∧ W.cell? ⟨g, off + p * 5 + 1, none⟩ = some (.int .i64 y.kind) ∧
          W.cell? ⟨g, off + p * 5 + 2, none⟩ = some (.int .i64 y.id) ∧ W.cell? ⟨g, off + p * 5 + 3, none⟩ = some (.int .i64 y.due) ∧ W.cell? ⟨g, off + p * 5 + 4, none⟩ = some (.int .u64 y.seq) ∧
          W.cell? ⟨wr.heap.size, 0, none⟩ = some (.int .i64 x.run) ∧ W.cell? ⟨wr.heap.size, 1, none⟩ = some (.int .i64 x.kind) ∧ W.cell? ⟨wr.heap.size, 2, none⟩ = some (.int .i64 x.id) ∧ W.cell? ⟨wr.heap.size, 3, none⟩ = some (.int .i64 x.due) ∧ W.cell? ⟨wr.heap.size, 4, none⟩ = some (.int .u64 x.seq) ∧ Same wr mb W)
          (first | exact ⟨c0, c1, y0, y1, y2, y3, y4, x0, x1, x2, x3, x4, sm⟩ | exact ⟨(hb1.cell b0).trans c0, (hb1.cell b0).trans c1, (hb1.cell b1).trans y0, (hb1.cell b1).trans y1, (hb1.cell b1).trans y2, (hb1.cell b1).trans y3, (hb1.cell b1).trans y4, (hb1.cell xb).trans x0, (hb1.cell xb).trans x1, (hb1.cell xb).trans x2, (hb1.cell xb).trans x3, (hb1.cell xb).trans x4, same_below hb1 b2 sm⟩)
          ((go_at_call 44; refine (compare_any y x _).mono ?_; rintro e w2 ⟨rfl, hb1⟩))
        go_wp2_with fail
        go_roundw
        case rel => exact ⟨k + 1, by go_num, by omega, B1.drew.trans (hb1.mono (by simpa using B1.size))⟩
        case measure => simp [intOf]; omega
      · go_wp2_with fail
        obtain ⟨w1, hw1⟩ : ∃ w1, w1 = wr.alloc (.cells #[.int .i64 x.run, .int .i64 x.kind, .int .i64 x.id, .int .i64 x.due, .int .u64 x.seq] 35) := ⟨_, rfl⟩
        rw [← hw1]
        have k1 : Keeps (fun _ => False) wr w1 := by rw [hw1]; exact (Keeps.refl _ wr).alloc _
        have B1 : Below w.heap.size w w1 := by rw [hw1]; exact hB.alloc hsw _
        have hX : ItAt w1 wr.heap.size x := ⟨_, by rw [hw1]; exact heap_alloc_new wr _⟩
        have sm : Same wr mb w1 := k1.same b2 id (same_refl _ _)
        have H1 := H'.keep k1 id id id
        clear hw1 c0 c1 b0 b1 b2 x0 x1 x2 x3 x4 hB hsw kk H' k1
        obtain ⟨c0, c1, c2, b0, b1, b2, hn'⟩ := H1.facts
        clear c2
        obtain ⟨x0, x1, x2, x3, x4, xb⟩ := hX.facts
        have hk1 : decide ((0 : Int) < (k : Int)) = false := decide_eq_false (by omega)
        go_quiet (fail)
        go_wp2_with fail
        go_roundw
        case rel => exact ⟨k + 1, by go_num, by omega, B1.trans ⟨rfl, rfl, rfl, Nat.le_refl _, fun _ _ => rfl⟩⟩
        case measure => simp [intOf]; omega
    · have hkn' : k = s.L.length := by omega
      have hlen := H'.map.size Try.underlying25 3 wr.drew rfl
      rw [hr.len] at hlen
      go_wp2_with fail
      go_region
      all_goals
        go_wp2_with fail
        go_ret
        exact ⟨by simp, hB.drew⟩
end Go.Proofs.Ytkhphnidopbjjaa
