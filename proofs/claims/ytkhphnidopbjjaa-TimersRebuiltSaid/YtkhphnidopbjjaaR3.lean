/- The document's answer for the heap (foliotref16), walked: Drop. -/
import Derived.Test.YtkhphnidopbjjaaR2
namespace Go.Proofs.Ytkhphnidopbjjaa
open Go.RowKit Go.Own Go.Own.MapTy Go.Hm
open Go.Own.Cells (sz enc)
def notOf (r : Int) (q : List RIt) : List RIt := q.filter (fun x => !(x.run == r))
def DoRel (w : World) (qv : Value) (q : List RIt) (sq r : Int) (v7 v6 : Value) (wr : World) : Prop :=
  ∃ k : Nat, v7 = .int .i64 k ∧ k ≤ q.length ∧ RowAt wr 57 v6 (notOf r (q.take k)) ∧ Below w.heap.size w wr ∧ (∀ g, v6.ownBlock = some g → w.heap.size + 2 ≤ g) ∧
    wr.heap[w.heap.size]? = some (.cells #[qv, .int .i64 sq] 49 (0, 0)) ∧ wr.heap[w.heap.size + 1]? = some (.cells #[.slice none 0 0, .int .i64 0] 49 (0, 0))

set_option maxHeartbeats 2000000 in
theorem rdrop_any (r : Int) (v : Value) (q : List RIt) (sq : Int) (w : World) (H : RowAt w 57 v q) (hn : q.length ≤ 16384) :
    Calls Try.prog 28 #[.agg #[v, .int .i64 sq], .int .i64 r] w fun e w' => ∃ v', e = .returned (.tuple #[.agg #[v', .int .i64 sq], .int .i64 ((q.length - (notOf r q).length : Nat) : Int)]) ∧ RowAt w' 57 v' (notOf r q) ∧ Below w.heap.size w w' ∧ ∀ g, v'.ownBlock = some g → w.heap.size ≤ g := by
  obtain ⟨ad, cap, rfl⟩ := H.slice
  have HR := Lib.hid H
  clear H
  go_enter Try.func28, Try.ntmps28
  go_wp2_with fail
  go_loopw [7, 6] (fun v7 v6 wr => DoRel w (.slice ad q.length cap) q sq r v7 v6 wr) (fun v7 _ _ => q.length - (intOf v7).toNat)
  case atStart =>
    refine ⟨0, rfl, Nat.zero_le _, RowAt.nil _ _, ((Below.refl _ _).alloc (Nat.le_refl _) _).alloc (by simp) _, fun g h => by simp [Value.ownBlock] at h, ?_, ?_⟩
    · rw [Below.heap_alloc _ _ _ (by simp)]; exact heap_alloc_new w _
    · have := heap_alloc_new (w.alloc (.cells #[.slice ad q.length cap, .int .i64 sq] 49)) (.cells #[.slice none 0 0, .int .i64 0] 49)
      rw [show (w.alloc (.cells #[.slice ad q.length cap, .int .i64 sq] 49)).heap.size = w.heap.size + 1 by simp] at this
      exact this
  case round =>
    obtain ⟨k, rfl, hk, hR, hB, hf, b0, b1⟩ := hrel
    have c0 : wr.cell? ⟨w.heap.size, 0, none⟩ = some (.slice ad q.length cap) := by rw [cell_of_heap b0]; rfl
    have c1 : wr.cell? ⟨w.heap.size, 1, none⟩ = some (.int .i64 sq) := by rw [cell_of_heap b0]; rfl
    have hs0 := lt_of_heap b0
    have hs1 := lt_of_heap b1
    by_cases hkn : k < q.length
    · have hx : q[k]? = some q[k] := by simp [hkn]
      generalize q[k] = x at hx
      have ht : q.take (k + 1) = q.take k ++ [x] := by rw [List.take_add_one, hx]; rfl
      have H' := HR.out.keep (Keeps.of_below hB) (fun _ _ h => h)
      obtain ⟨g, off, rfl⟩ : ∃ g off, ad = some ⟨g, off, none⟩ := by
        rcases H' with ⟨_, h⟩ | ⟨g, off, cap', _, h, _⟩
        · rw [h] at hkn; cases hkn
        · simp only [Value.slice.injEq] at h; exact ⟨g, off, h.1⟩
      obtain ⟨x0, x1, x2, x3, x4⟩ := row_rit H' hx
      have hgl : g < wr.heap.size := H'.lt (g := g) rfl
      have hk0 : (0 : Int) ≤ (k : Int) := by omega
      have hkI : (k : Int) < (q.length : Int) := by omega
      by_cases ha : x.run = r
      · have hw' : notOf r (q.take (k + 1)) = notOf r (q.take k) := by
          unfold notOf
          rw [ht, List.filter_append]
          simp [ha]
        have HW := Lib.hid hw'
        have RB := Lib.hid (And.intro hR (And.intro b0 b1))
        clear hw' ht hx hR b0 b1 H'
        subst ha
        go_wp2_with fail
        go_roundw
        case rel => exact ⟨k + 1, by simp, hkn, by rw [HW.out]; exact RB.out.1, hB, hf, RB.out.2.1, RB.out.2.2⟩
        case measure => simp [intOf]; omega
      · have hw' : notOf r (q.take (k + 1)) = notOf r (q.take k) ++ [x] := by
          unfold notOf
          rw [ht, List.filter_append]
          simp [ha]
        have ha' : (x.run == r) = false := beq_eq_false_iff_ne.2 ha
        obtain ⟨i0, hi0, hz0, hz1, hz2⟩ := info_parts info57
        have HI := Lib.hid (And.intro hi0 (And.intro hz0 (And.intro hz1 hz2)))
        have hol : (notOf r (q.take k)).length ≤ 16384 := by
          have := List.length_filter_le (fun x : RIt => !(x.run == r)) (q.take k)
          rw [List.length_take] at this
          unfold notOf
          omega
        obtain ⟨out, hout⟩ : ∃ out, out = notOf r (q.take k) := ⟨_, rfl⟩
        rw [← hout] at hR hw' hol
        obtain ⟨a5, p5, rfl⟩ := hR.slice
        have HW := Lib.hid hw'
        have RB := Lib.hid (And.intro hR (And.intro b0 b1))
        clear hw' ht hx hR b0 b1 hi0 hz0 hz1 hz2 hout H'
        go_wp2_with (refine wpList_append (α := RIt) rfl (.tmp 24) (.tmp 30) 47 rfl 57 i0 _ 40 Try.underlying47 HI.out.1 HI.out.2.1 HI.out.2.2.1 HI.out.2.2.2 rfl (.slice a5 out.length p5) out rfl (RB.out.1.frame (fun g h => Below.heap_alloc _ _ _ (RB.out.1.lt h))) ⟨wr.heap.size, 0, none⟩ 1 1 [x] rfl rfl (news_rit (x := x) (heap_alloc_new wr _)) (by omega) (by unfold maxLen; omega) ?_; intro v1 w1 hr1 hg1 hf1)
        go_roundw
        case rel =>
          have KA : Keeps (fun j => (Value.slice a5 out.length p5).ownBlock = some j) wr w1 := ((Keeps.refl (fun j => (Value.slice a5 out.length p5).ownBlock = some j) wr).alloc _).comp (Keeps.of_grown hg1 (fun k h => h))
          refine ⟨k + 1, by simp, hkn, by rw [HW.out]; exact hr1, hB.trans (KA.below hB.size (fun j hj h => by have := hf j h; omega)), fun g' h => ?_, ?_, ?_⟩
          · rcases hf1 g' h with h | h
            · exact hf g' h
            · simp at h; omega
          · rw [KA.block _ hs0 (fun h => by have := hf _ h; omega)]; exact RB.out.2.1
          · rw [KA.block _ hs1 (fun h => by have := hf _ h; omega)]; exact RB.out.2.2
        case measure => simp [intOf]; omega
    · obtain rfl : k = q.length := by omega
      rw [List.take_length] at hR
      have hol : (notOf r q).length ≤ q.length := List.length_filter_le _ _
      obtain ⟨out, hout⟩ : ∃ out, out = notOf r q := ⟨_, rfl⟩
      rw [← hout] at hR hol
      have HO := Lib.hid hout
      clear hout
      obtain ⟨a5, p5, rfl⟩ := hR.slice
      have d0 : wr.cell? ⟨w.heap.size + 1, 0, none⟩ = some (.slice none 0 0) := by rw [cell_of_heap b1]; rfl
      have d1 : wr.cell? ⟨w.heap.size + 1, 1, none⟩ = some (.int .i64 0) := by rw [cell_of_heap b1]; rfl
      have f0 : wr.frozen? ⟨w.heap.size, 0, none⟩ = false := by simp [World.frozen?, b0]
      have f1 : wr.frozen? ⟨w.heap.size + 1, 0, none⟩ = false := by simp [World.frozen?, b1]
      have f2 : wr.frozen? ⟨w.heap.size + 1, 1, none⟩ = false := by simp [World.frozen?, b1]
      have RB := Lib.hid hR
      have hsub : IntKind.i64.wrap ((q.length : Int) - (out.length : Int)) = ((q.length - out.length : Nat) : Int) := by
        rw [IntWalk.i64_in _ (by omega)]
        omega
      clear hR b0 b1
      go_wp2_with fail
      have KF : Keeps (fun j => j = w.heap.size ∨ j = w.heap.size + 1) wr (((wr.setCell ⟨w.heap.size, 0, none⟩ (.slice a5 out.length p5)).setCell ⟨w.heap.size + 1, 0, none⟩ (.slice a5 out.length p5)).setCell ⟨w.heap.size + 1, 1, none⟩ (.int .i64 sq)) :=
        (((Keeps.refl (fun j => j = w.heap.size ∨ j = w.heap.size + 1) wr).setCell (p := ⟨w.heap.size, 0, none⟩) (.inl (.inl rfl)) _).setCell (p := ⟨w.heap.size + 1, 0, none⟩) (.inl (.inr rfl)) _).setCell (p := ⟨w.heap.size + 1, 1, none⟩) (.inl (.inr rfl)) _
      refine bodyPost_ret (v := .tuple #[.agg #[.slice a5 out.length p5, .int .i64 sq], .int .i64 ((q.length - out.length : Nat) : Int)]) (by simp only [results, Try.results28]; go_simp) rfl ⟨_, by rw [← HO.out], ?_, ?_, fun g h => by have := hf g h; omega⟩
      · rw [← HO.out]
        exact RB.out.keep KF (fun g h e => by have := hf g h; omega)
      · exact hB.trans (KF.below hB.size (fun j hj h => by omega))
end Go.Proofs.Ytkhphnidopbjjaa
