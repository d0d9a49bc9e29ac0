/- The document's answer for the heap (foliotref16), walked: Without. -/
import Derived.Test.YtkhphnidopbjjaaR1
namespace Go.Hm
/-- the list without the thing at a place (at -1: all) -/
def woutR (at_ : Int) : Nat → List RIt → List RIt
  | _, [] => []
  | k, x :: r => if (k : Int) = at_ then woutR at_ (k + 1) r else x :: woutR at_ (k + 1) r
theorem woutR_append (at_ : Int) : ∀ (k : Nat) (l r : List RIt), woutR at_ k (l ++ r) = woutR at_ k l ++ woutR at_ (k + l.length) r
  | k, [], r => by simp [woutR]
  | k, x :: l, r => by
    simp only [List.cons_append, woutR, woutR_append at_ (k + 1) l r, List.length_cons]
    rw [show k + 1 + l.length = k + (l.length + 1) by omega]
    split <;> simp
theorem woutR_len (at_ : Int) : ∀ (k : Nat) (l : List RIt), (woutR at_ k l).length ≤ l.length
  | _, [] => by simp [woutR]
  | k, x :: l => by
    have := woutR_len at_ (k + 1) l
    simp only [woutR]
    split <;> simp <;> omega
end Go.Hm
namespace Go.Proofs.Ytkhphnidopbjjaa
open Go.RowKit Go.Own Go.Own.MapTy Go.Hm
open Go.Own.Cells (sz enc)
theorem info57 : (Try.prog.info? 57).map (fun i => (i.zero, i.size, i.bytes)) = some (some (.agg #[.int .i64 0, .int .i64 0, .int .i64 0, .int .i64 0, .int .i64 0]), 5, 40) := by kernel_rfl
theorem news_rit {W : World} {b : Nat} {x : RIt} {e : TypeId} {fr : Nat × Nat} (h : W.heap[b]? = some (.cells #[.int .i64 x.run, .int .i64 x.kind, .int .i64 x.id, .int .i64 x.due, .int .i64 x.seq] e fr)) :
    ∀ j u, ([x].flatMap enc)[j]? = some u → W.cell? ((⟨b, 0, none⟩ : Addr).add j) = some u := by
  intro j u hu
  rw [Addr.add_lit, cell_of_heap h, Nat.zero_add]
  simp [enc, rEnc] at hu ⊢
  exact hu
/-- between two rounds: what was copied, and the two boxes -/
def WoRel (w : World) (qv : Value) (q : List RIt) (sq at_ : Int) (v6 v5 : Value) (wr : World) : Prop :=
  ∃ k : Nat, v6 = .int .i64 k ∧ k ≤ q.length ∧ RowAt wr 57 v5 (woutR at_ 0 (q.take k)) ∧ Below w.heap.size w wr ∧ (∀ g, v5.ownBlock = some g → w.heap.size + 2 ≤ g) ∧
    wr.heap[w.heap.size]? = some (.cells #[qv, .int .i64 sq] 49 (0, 0)) ∧ wr.heap[w.heap.size + 1]? = some (.cells #[.slice none 0 0, .int .i64 0] 49 (0, 0))

set_option maxHeartbeats 2000000 in
theorem without_any (at_ : Int) (v : Value) (q : List RIt) (sq : Int) (w : World) (H : RowAt w 57 v q) (hn : q.length ≤ 16384) :
    Calls Try.prog 24 #[.agg #[v, .int .i64 sq], .int .i64 at_] w fun e w' => ∃ v', e = .returned (.agg #[v', .int .i64 sq]) ∧ RowAt w' 57 v' (woutR at_ 0 q) ∧ Below w.heap.size w w' ∧ ∀ g, v'.ownBlock = some g → w.heap.size ≤ g := by
  obtain ⟨ad, cap, rfl⟩ := H.slice
  have HR := Lib.hid H
  clear H
  go_enter Try.func24, Try.ntmps24
  go_wp2_with fail
  go_loopw [6, 5] (fun v6 v5 wr => WoRel w (.slice ad q.length cap) q sq at_ v6 v5 wr) (fun v6 _ _ => q.length - (intOf v6).toNat)
  case atStart =>
    refine ⟨0, rfl, Nat.zero_le _, RowAt.nil _ _, ((Below.refl _ _).alloc (Nat.le_refl _) _).alloc (by simp) _, fun g h => by simp [Value.ownBlock] at h, ?_, ?_⟩
    · rw [Below.heap_alloc _ _ _ (by simp)]; exact heap_alloc_new w _
    · have := heap_alloc_new (w.alloc (.cells #[.slice ad q.length cap, .int .i64 sq] 49)) (.cells #[.slice none 0 0, .int .i64 0] 49)
      rw [show (w.alloc (.cells #[.slice ad q.length cap, .int .i64 sq] 49)).heap.size = w.heap.size + 1 by simp] at this
      exact this
  case round =>
    obtain ⟨k, rfl, hk, hR, hB, hf, b0, b1⟩ := hrel
    have c0 : wr.cell? ⟨w.heap.size, 0, none⟩ = some (.slice ad q.length cap) := by rw [cell_of_heap b0]; rfl
    have c1 : wr.cell? ⟨w.heap.size, 1, none⟩ = some (.int .i64 sq) := by rw [cell_of_heap b0]; rfl
    have hs0 := lt_of_heap b0
    have hs1 := lt_of_heap b1
    by_cases hkn : k < q.length
    · have hx : q[k]? = some q[k] := by simp [hkn]
      generalize q[k] = x at hx
      have ht : q.take (k + 1) = q.take k ++ [x] := by rw [List.take_add_one, hx]; rfl
      have hw' : woutR at_ 0 (q.take (k + 1)) = woutR at_ 0 (q.take k) ++ (if (k : Int) = at_ then [] else [x]) := by
        rw [ht, woutR_append, List.length_take, Nat.min_eq_left hk, Nat.zero_add]
        simp only [woutR]
      by_cases ha : (k : Int) = at_
      · rw [if_pos ha, List.append_nil] at hw'
        have HW := Lib.hid hw'
        have RB := Lib.hid (And.intro hR (And.intro b0 b1))
        clear hw' ht hx hR b0 b1
        subst ha
        go_wp2_with fail
        go_roundw
        case rel => exact ⟨k + 1, by simp, hkn, by rw [HW.out]; exact RB.out.1, hB, hf, RB.out.2.1, RB.out.2.2⟩
        case measure => simp [intOf]; omega
      · rw [if_neg ha] at hw'
        have H' := HR.out.keep (Keeps.of_below hB) (fun _ _ h => h)
        obtain ⟨g, off, rfl⟩ : ∃ g off, ad = some ⟨g, off, none⟩ := by
          rcases H' with ⟨_, h⟩ | ⟨g, off, cap', _, h, _⟩
          · rw [h] at hkn; cases hkn
          · simp only [Value.slice.injEq] at h; exact ⟨g, off, h.1⟩
        obtain ⟨x0, x1, x2, x3, x4⟩ := row_rit H' hx
        have hgl : g < wr.heap.size := H'.lt (g := g) rfl
        have ha' : ((k : Int) == at_) = false := beq_eq_false_iff_ne.2 ha
        obtain ⟨i0, hi0, hz0, hz1, hz2⟩ := info_parts info57
        have HI := Lib.hid (And.intro hi0 (And.intro hz0 (And.intro hz1 hz2)))
        have hol := woutR_len at_ 0 (q.take k)
        rw [List.length_take] at hol
        obtain ⟨out, hout⟩ : ∃ out, out = woutR at_ 0 (q.take k) := ⟨_, rfl⟩
        rw [← hout] at hR hw' hol
        obtain ⟨a5, p5, rfl⟩ := hR.slice
        have HW := Lib.hid hw'
        have RB := Lib.hid (And.intro hR (And.intro b0 b1))
        clear hw' ht hx hR b0 b1 hi0 hz0 hz1 hz2 hout H'
        have hk0 : (0 : Int) ≤ (k : Int) := by omega
        have hkI : (k : Int) < (q.length : Int) := by omega
        go_wp2_with (refine wpList_append (α := RIt) rfl (.tmp 17) (.tmp 23) 47 rfl 57 i0 _ 40 Try.underlying47 HI.out.1 HI.out.2.1 HI.out.2.2.1 HI.out.2.2.2 rfl (.slice a5 out.length p5) out rfl (RB.out.1.frame (fun g h => Below.heap_alloc _ _ _ (RB.out.1.lt h))) ⟨wr.heap.size, 0, none⟩ 1 1 [x] rfl rfl (news_rit (x := x) (heap_alloc_new wr _)) (by omega) (by unfold maxLen; omega) ?_; intro v1 w1 hr1 hg1 hf1)
        go_roundw
        case rel =>
          have KA : Keeps (fun j => (Value.slice a5 out.length p5).ownBlock = some j) wr w1 := ((Keeps.refl (fun j => (Value.slice a5 out.length p5).ownBlock = some j) wr).alloc _).comp (Keeps.of_grown hg1 (fun k h => h))
          refine ⟨k + 1, by simp, hkn, by rw [HW.out]; exact hr1, hB.trans (KA.below hB.size (fun j hj h => by have := hf j h; omega)), fun g' h => ?_, ?_, ?_⟩
          · rcases hf1 g' h with h | h
            · exact hf g' h
            · simp at h; omega
          · rw [KA.block _ hs0 (fun h => by have := hf _ h; omega)]; exact RB.out.2.1
          · rw [KA.block _ hs1 (fun h => by have := hf _ h; omega)]; exact RB.out.2.2
        case measure => simp [intOf]; omega
    · obtain rfl : k = q.length := by omega
      rw [List.take_length] at hR
      obtain ⟨out, hout⟩ : ∃ out, out = woutR at_ 0 q := ⟨_, rfl⟩
      rw [← hout] at hR
      have HO := Lib.hid hout
      clear hout
      obtain ⟨a5, p5, rfl⟩ := hR.slice
      have d0 : wr.cell? ⟨w.heap.size + 1, 0, none⟩ = some (.slice none 0 0) := by rw [cell_of_heap b1]; rfl
      have d1 : wr.cell? ⟨w.heap.size + 1, 1, none⟩ = some (.int .i64 0) := by rw [cell_of_heap b1]; rfl
      have f0 : wr.frozen? ⟨w.heap.size, 0, none⟩ = false := by simp [World.frozen?, b0]
      have f1 : wr.frozen? ⟨w.heap.size + 1, 0, none⟩ = false := by simp [World.frozen?, b1]
      have f2 : wr.frozen? ⟨w.heap.size + 1, 1, none⟩ = false := by simp [World.frozen?, b1]
      have RB := Lib.hid hR
      clear hR b0 b1
      go_wp2_with fail
      have KF : Keeps (fun j => j = w.heap.size ∨ j = w.heap.size + 1) wr (((wr.setCell ⟨w.heap.size, 0, none⟩ (.slice a5 out.length p5)).setCell ⟨w.heap.size + 1, 0, none⟩ (.slice a5 out.length p5)).setCell ⟨w.heap.size + 1, 1, none⟩ (.int .i64 sq)) :=
        (((Keeps.refl (fun j => j = w.heap.size ∨ j = w.heap.size + 1) wr).setCell (p := ⟨w.heap.size, 0, none⟩) (.inl (.inl rfl)) _).setCell (p := ⟨w.heap.size + 1, 0, none⟩) (.inl (.inr rfl)) _).setCell (p := ⟨w.heap.size + 1, 1, none⟩) (.inl (.inr rfl)) _
      refine bodyPost_ret (v := .agg #[.slice a5 out.length p5, .int .i64 sq]) (by simp only [results, Try.results24]; go_simp) rfl ⟨_, rfl, ?_, ?_, fun g h => by have := hf g h; omega⟩
      · rw [← HO.out]
        exact RB.out.keep KF (fun g h e => by have := hf g h; omega)
      · exact hB.trans (KF.below hB.size (fun j hj h => by omega))
end Go.Proofs.Ytkhphnidopbjjaa
