/- The document's answer for the heap (foliotref16), walked: Put. -/
import Derived.Test.YtkhphnidopbjjaaR3
namespace Go.Hm
/-- a thing put in, behind those that are due no later -/
def insR (x : RIt) : List RIt → List RIt
  | [] => [x]
  | y :: r => if x.due < y.due then x :: y :: r else y :: insR x r
theorem insR_none (x : RIt) : ∀ l : List RIt, (∀ y ∈ l, ¬ x.due < y.due) → insR x l = l ++ [x]
  | [], _ => rfl
  | y :: r, h => by simp only [insR, if_neg (h y (by simp)), List.cons_append]; rw [insR_none x r (fun z hz => h z (by simp [hz]))]
theorem insR_some (x : RIt) : ∀ (l r : List RIt), (∃ y ∈ l, x.due < y.due) → insR x (l ++ r) = insR x l ++ r
  | [], _, h => by obtain ⟨y, hy, _⟩ := h; cases hy
  | y :: l, r, h => by
    by_cases hy : x.due < y.due
    · simp [insR, hy]
    · simp only [List.cons_append, insR, if_neg hy]
      rw [insR_some x l r (by
        obtain ⟨z, hz, h'⟩ := h
        rcases List.mem_cons.1 hz with rfl | hz
        · exact absurd h' hy
        · exact ⟨z, hz, h'⟩)]
theorem insR_here (x y : RIt) (h : x.due < y.due) : ∀ l : List RIt, (∀ y ∈ l, ¬ x.due < y.due) → insR x (l ++ [y]) = l ++ [x] ++ [y]
  | [], _ => by simp [insR, h]
  | z :: l, hz => by
    simp only [List.cons_append, insR, if_neg (hz z (by simp))]
    rw [insR_here x y h l (fun a ha => hz a (by simp [ha]))]
theorem insR_len (x : RIt) : ∀ l : List RIt, (insR x l).length = l.length + 1
  | [] => rfl
  | y :: l => by
    simp only [insR]
    split
    · simp
    · simp [insR_len x l]
end Go.Hm
namespace Go.Proofs.Ytkhphnidopbjjaa
open Go.RowKit Go.Own Go.Own.MapTy Go.Hm
open Go.Own.Cells (sz enc)

set_option maxHeartbeats 2000000 in
theorem rput_old (a b c d : Int) (v : Value) (q : List RIt) (sq : Int) (w : World) (H : RowAt w 57 v q) (hn : q.length ≤ 16384) (hi : ∃ (i : Nat) (x : RIt), q[i]? = some x ∧ x.is a b c) :
    Calls Try.prog 21 #[.agg #[v, .int .i64 sq], .int .i64 a, .int .i64 b, .int .i64 c, .int .i64 d] w fun e w' => e = .returned (.tuple #[.agg #[v, .int .i64 sq], .int .i64 5]) ∧ Below w.heap.size w w' := by
  obtain ⟨ad, cap, rfl⟩ := H.slice
  have HR := Lib.hid H
  have HI := Lib.hid hi
  clear H hi
  go_enter Try.func21, Try.ntmps21
  go_wp2_with fail
  obtain ⟨w0, hw0⟩ : ∃ w0, w0 = ((w.alloc (.cells #[.slice ad q.length cap, .int .i64 sq] 49)).alloc (.cells #[.slice none 0 0, .int .i64 0] 49)) := ⟨_, rfl⟩
  rw [← hw0]
  have hB : Below w.heap.size w w0 := by rw [hw0]; exact ((Below.refl _ _).alloc (Nat.le_refl _) _).alloc (by simp) _
  have b0 : w0.heap[w.heap.size]? = some (.cells #[.slice ad q.length cap, .int .i64 sq] 49 (0, 0)) := by
    rw [hw0, Below.heap_alloc _ _ _ (by simp)]; exact heap_alloc_new w _
  have b1 : w0.heap[w.heap.size + 1]? = some (.cells #[.slice none 0 0, .int .i64 0] 49 (0, 0)) := by
    rw [hw0, show w.heap.size + 1 = (w.alloc (.cells #[.slice ad q.length cap, .int .i64 sq] 49)).heap.size by simp]
    exact heap_alloc_new _ _
  clear hw0
  refine (find_any a b c _ q sq w0 (HR.out.keep (Keeps.of_below hB) (fun _ _ h => h)) (by omega)).mono ?_
  rintro e w1 ⟨r, rfl, hF, hB1⟩
  have hr0 : 0 ≤ r := by
    rcases hF with ⟨i, x, rfl, _⟩ | ⟨_, h⟩
    · omega
    · obtain ⟨i, x, h1, h2⟩ := HI.out
      exact absurd h2 (h i x h1)
  have hs0 := lt_of_heap b0
  have hs1 := lt_of_heap b1
  have c0 : w1.heap[w.heap.size]? = _ := (hB1.block _ hs0).trans b0
  have c1 : w1.heap[w.heap.size + 1]? = _ := (hB1.block _ hs1).trans b1
  have d0 : w1.cell? ⟨w.heap.size, 0, none⟩ = some (.slice ad q.length cap) := by rw [cell_of_heap c0]; rfl
  have d1 : w1.cell? ⟨w.heap.size, 1, none⟩ = some (.int .i64 sq) := by rw [cell_of_heap c0]; rfl
  have d2 : w1.cell? ⟨w.heap.size + 1, 0, none⟩ = some (.slice none 0 0) := by rw [cell_of_heap c1]; rfl
  have d3 : w1.cell? ⟨w.heap.size + 1, 1, none⟩ = some (.int .i64 0) := by rw [cell_of_heap c1]; rfl
  have f1 : w1.frozen? ⟨w.heap.size + 1, 0, none⟩ = false := by simp [World.frozen?, c1]
  have f2 : w1.frozen? ⟨w.heap.size + 1, 1, none⟩ = false := by simp [World.frozen?, c1]
  have hB2 := hB.trans (hB1.mono hB.size)
  clear b0 b1 c0 c1 hF
  go_wp2_with fail
  exact bodyPost_ret (v := .tuple #[.agg #[.slice ad q.length cap, .int .i64 sq], .int .i64 5]) (by simp only [results, Try.results21]; go_simp) rfl ⟨rfl, (hB2.setCell (p := ⟨w.heap.size + 1, 0, none⟩) (by simp) _).setCell (p := ⟨w.heap.size + 1, 1, none⟩) (by simp) _⟩

/-- what is known when Find has said that there is no such thing -/
theorem rput_head (a b c : Int) {q : List RIt} {r : Int} (hF : FindAt q a b c r) (hi : ∀ (i : Nat) (x : RIt), q[i]? = some x → ¬ x.is a b c) : r = -1 := by
  rcases hF with ⟨i, x, _, h1, h2, _⟩ | ⟨h, _⟩
  · exact absurd h2 (hi i x h1)
  · exact h

set_option maxRecDepth 100000 in
set_option maxHeartbeats 2000000 in
theorem rput_full (a b c d : Int) (v : Value) (q : List RIt) (sq : Int) (w : World) (H : RowAt w 57 v q) (hn : q.length = 16384) (hi : ∀ (i : Nat) (x : RIt), q[i]? = some x → ¬ x.is a b c) :
    Calls Try.prog 21 #[.agg #[v, .int .i64 sq], .int .i64 a, .int .i64 b, .int .i64 c, .int .i64 d] w fun e w' => e = .returned (.tuple #[.agg #[v, .int .i64 sq], .int .i64 3]) ∧ Below w.heap.size w w' := by
  obtain ⟨ad, cap, rfl⟩ := H.slice
  have HR := Lib.hid H
  have HI := Lib.hid hi
  have hn1 : q.length ≤ 16384 := by omega
  have hn2 : 16384 ≤ q.length := by omega
  clear H hi hn
  go_enter Try.func21, Try.ntmps21
  go_wp2_with fail
  obtain ⟨w0, hw0⟩ : ∃ w0, w0 = ((w.alloc (.cells #[.slice ad q.length cap, .int .i64 sq] 49)).alloc (.cells #[.slice none 0 0, .int .i64 0] 49)) := ⟨_, rfl⟩
  rw [← hw0]
  have hB : Below w.heap.size w w0 := by rw [hw0]; exact ((Below.refl _ _).alloc (Nat.le_refl _) _).alloc (by simp) _
  have b0 : w0.heap[w.heap.size]? = some (.cells #[.slice ad q.length cap, .int .i64 sq] 49 (0, 0)) := by
    rw [hw0, Below.heap_alloc _ _ _ (by simp)]; exact heap_alloc_new w _
  have b1 : w0.heap[w.heap.size + 1]? = some (.cells #[.slice none 0 0, .int .i64 0] 49 (0, 0)) := by
    rw [hw0, show w.heap.size + 1 = (w.alloc (.cells #[.slice ad q.length cap, .int .i64 sq] 49)).heap.size by simp]
    exact heap_alloc_new _ _
  clear hw0
  refine (find_any a b c _ q sq w0 (HR.out.keep (Keeps.of_below hB) (fun _ _ h => h)) hn1).mono ?_
  rintro e w1 ⟨r, rfl, hF, hB1⟩
  obtain rfl : r = -1 := rput_head a b c hF HI.out
  have hs0 := lt_of_heap b0
  have hs1 := lt_of_heap b1
  have c0 : w1.heap[w.heap.size]? = _ := (hB1.block _ hs0).trans b0
  have c1 : w1.heap[w.heap.size + 1]? = _ := (hB1.block _ hs1).trans b1
  have d0 : w1.cell? ⟨w.heap.size, 0, none⟩ = some (.slice ad q.length cap) := by rw [cell_of_heap c0]; rfl
  have d1 : w1.cell? ⟨w.heap.size, 1, none⟩ = some (.int .i64 sq) := by rw [cell_of_heap c0]; rfl
  have d2 : w1.cell? ⟨w.heap.size + 1, 0, none⟩ = some (.slice none 0 0) := by rw [cell_of_heap c1]; rfl
  have d3 : w1.cell? ⟨w.heap.size + 1, 1, none⟩ = some (.int .i64 0) := by rw [cell_of_heap c1]; rfl
  have f1 : w1.frozen? ⟨w.heap.size + 1, 0, none⟩ = false := by simp [World.frozen?, c1]
  have f2 : w1.frozen? ⟨w.heap.size + 1, 1, none⟩ = false := by simp [World.frozen?, c1]
  have hB2 := hB.trans (hB1.mono hB.size)
  clear b0 b1 c0 c1 hF
  go_wp2_with fail
  exact bodyPost_ret (v := .tuple #[.agg #[.slice ad q.length cap, .int .i64 sq], .int .i64 3]) (by simp only [results, Try.results21]; go_simp) rfl ⟨rfl, (hB2.setCell (p := ⟨w.heap.size + 1, 0, none⟩) (by simp) _).setCell (p := ⟨w.heap.size + 1, 1, none⟩) (by simp) _⟩

/-- between two rounds of Put's loop: B is the new thing's box -/
def PuRel (w : World) (qv : Value) (q : List RIt) (sq : Int) (x : RIt) (B : Nat) (v15 v13 v14 : Value) (wr : World) : Prop :=
  ∃ (k : Nat) (p : Bool) (out : List RIt), v15 = .int .i64 k ∧ v14 = .bool p ∧ k ≤ q.length ∧
    (if p then (∃ y ∈ q.take k, x.due < y.due) ∧ out = insR x (q.take k) else (∀ y ∈ q.take k, ¬ x.due < y.due) ∧ out = q.take k) ∧
    RowAt wr 57 v13 out ∧ Below w.heap.size w wr ∧ (∀ g, v13.ownBlock = some g → B + 1 ≤ g) ∧
    wr.heap[w.heap.size]? = some (.cells #[qv, .int .i64 sq] 49 (0, 0)) ∧ wr.heap[w.heap.size + 1]? = some (.cells #[.slice none 0 0, .int .i64 0] 49 (0, 0)) ∧
    wr.heap[B]? = some (.cells #[.int .i64 x.run, .int .i64 x.kind, .int .i64 x.id, .int .i64 x.due, .int .i64 x.seq] 57 (0, 0))
/-- appends onto the copy, nothing else turned -/
theorem pu_step {w wr w1 : World} {qv : Value} {q : List RIt} {sq : Int} {x : RIt} {B k : Nat} {p : Bool} {v1 : Value} {out : List RIt}
    (hk : k ≤ q.length) (hp : if p then (∃ y ∈ q.take k, x.due < y.due) ∧ out = insR x (q.take k) else (∀ y ∈ q.take k, ¬ x.due < y.due) ∧ out = q.take k)
    (hr1 : RowAt w1 57 v1 out) (hB : Below w.heap.size w wr) (hwB : w.heap.size + 1 < B)
    (K : Keeps (fun j => B + 1 ≤ j) wr w1) (hf1 : ∀ g, v1.ownBlock = some g → B + 1 ≤ g)
    (b0 : wr.heap[w.heap.size]? = some (.cells #[qv, .int .i64 sq] 49 (0, 0))) (b1 : wr.heap[w.heap.size + 1]? = some (.cells #[.slice none 0 0, .int .i64 0] 49 (0, 0)))
    (b2 : wr.heap[B]? = some (.cells #[.int .i64 x.run, .int .i64 x.kind, .int .i64 x.id, .int .i64 x.due, .int .i64 x.seq] 57 (0, 0))) :
    PuRel w qv q sq x B (.int .i64 k) v1 (.bool p) w1 := by
  have h2 := lt_of_heap b2
  refine ⟨k, p, out, rfl, rfl, hk, hp, hr1, hB.trans (K.below hB.size (fun j hj h => by omega)), hf1, ?_, ?_, ?_⟩
  · rw [K.block _ (by omega) (by omega)]; exact b0
  · rw [K.block _ (by omega) (by omega)]; exact b1
  · rw [K.block _ h2 (by omega)]; exact b2
/-- what an append onto v makes lies behind B -/
theorem pu_fresh {wr w1 : World} {v v1 : Value} {B : Nat} {X : Obj} (hl : B < wr.heap.size) (hf : ∀ g, v.ownBlock = some g → B + 1 ≤ g) (hg : (wr.alloc X).grownBy w1 v.ownBlock)
    (hf1 : ∀ g, v1.ownBlock = some g → v.ownBlock = some g ∨ ((wr.alloc X).heap.size ≤ g ∧ g < w1.heap.size)) : Keeps (fun j => B + 1 ≤ j) wr w1 ∧ (∀ g, v1.ownBlock = some g → B + 1 ≤ g) ∧ B < w1.heap.size := by
  have K : Keeps (fun j => B + 1 ≤ j) wr w1 := ((Keeps.refl (fun j => B + 1 ≤ j) wr).alloc X).comp ((Keeps.of_grown hg (fun k h => h)).mono (fun j _ h => hf j h))
  refine ⟨K, fun g h => ?_, by have := K.size; omega⟩
  rcases hf1 g h with h | h
  · exact hf g h
  · simp at h; omega

theorem pu_two {wr w1 w2 : World} {v v1 : Value} {B : Nat} {X : Obj} (h1 : Keeps (fun j => B + 1 ≤ j) wr w1 ∧ (∀ g, v.ownBlock = some g → B + 1 ≤ g) ∧ B < w1.heap.size) (hg : (w1.alloc X).grownBy w2 v.ownBlock)
    (hf1 : ∀ g, v1.ownBlock = some g → v.ownBlock = some g ∨ ((w1.alloc X).heap.size ≤ g ∧ g < w2.heap.size)) : Keeps (fun j => B + 1 ≤ j) wr w2 ∧ (∀ g, v1.ownBlock = some g → B + 1 ≤ g) := by
  obtain ⟨K, h2, _⟩ := pu_fresh h1.2.2 h1.2.1 hg hf1
  exact ⟨h1.1.comp K, h2⟩

set_option maxRecDepth 100000 in
set_option maxHeartbeats 4000000 in
theorem rput_new (x : RIt) (v : Value) (q : List RIt) (sq : Int) (w : World) (H : RowAt w 57 v q) (hn : q.length < 16384) (hi : ∀ (i : Nat) (y : RIt), q[i]? = some y → ¬ y.is x.run x.kind x.id) (hxs : x.seq = sq + 1) (hq0 : 0 ≤ sq) (hq1 : sq ≤ 60000) :
    Calls Try.prog 21 #[.agg #[v, .int .i64 sq], .int .i64 x.run, .int .i64 x.kind, .int .i64 x.id, .int .i64 x.due] w fun e w' => ∃ v', e = .returned (.tuple #[.agg #[v', .int .i64 x.seq], .int .i64 0]) ∧ RowAt w' 57 v' (insR x q) ∧ Below w.heap.size w w' ∧ ∀ g, v'.ownBlock = some g → w.heap.size ≤ g := by
  obtain ⟨ad, cap, rfl⟩ := H.slice
  have HR := Lib.hid H
  have HI := Lib.hid hi
  have hn1 : q.length ≤ 16384 := by omega
  obtain ⟨i0, hi0, hz0, hz1, hz2⟩ := info_parts info57
  have HI0 := Lib.hid (And.intro hi0 (And.intro hz0 (And.intro hz1 hz2)))
  have HXS := Lib.hid hxs
  clear hxs
  clear H hi hi0 hz0 hz1 hz2
  go_enter Try.func21, Try.ntmps21
  go_wp2_with fail
  obtain ⟨w0, hw0⟩ : ∃ w0, w0 = ((w.alloc (.cells #[.slice ad q.length cap, .int .i64 sq] 49)).alloc (.cells #[.slice none 0 0, .int .i64 0] 49)) := ⟨_, rfl⟩
  rw [← hw0]
  have hB : Below w.heap.size w w0 := by rw [hw0]; exact ((Below.refl _ _).alloc (Nat.le_refl _) _).alloc (by simp) _
  have b0 : w0.heap[w.heap.size]? = some (.cells #[.slice ad q.length cap, .int .i64 sq] 49 (0, 0)) := by
    rw [hw0, Below.heap_alloc _ _ _ (by simp)]; exact heap_alloc_new w _
  have b1 : w0.heap[w.heap.size + 1]? = some (.cells #[.slice none 0 0, .int .i64 0] 49 (0, 0)) := by
    rw [hw0, show w.heap.size + 1 = (w.alloc (.cells #[.slice ad q.length cap, .int .i64 sq] 49)).heap.size by simp]
    exact heap_alloc_new _ _
  clear hw0
  refine (find_any x.run x.kind x.id _ q sq w0 (HR.out.keep (Keeps.of_below hB) (fun _ _ h => h)) hn1).mono ?_
  rintro e w1 ⟨r, rfl, hF, hB1⟩
  obtain rfl : r = -1 := rput_head x.run x.kind x.id hF HI.out
  have hs0 := lt_of_heap b0
  have hs1 := lt_of_heap b1
  have c0 : w1.heap[w.heap.size]? = _ := (hB1.block _ hs0).trans b0
  have c1 : w1.heap[w.heap.size + 1]? = _ := (hB1.block _ hs1).trans b1
  have d0 : w1.cell? ⟨w.heap.size, 0, none⟩ = some (.slice ad q.length cap) := by rw [cell_of_heap c0]; rfl
  have d1 : w1.cell? ⟨w.heap.size, 1, none⟩ = some (.int .i64 sq) := by rw [cell_of_heap c0]; rfl
  have f1 : w1.frozen? ⟨w.heap.size, 1, none⟩ = false := by simp [World.frozen?, c0]
  have hB2 := hB.trans (hB1.mono hB.size)
  have hs1' : w.heap.size + 1 < w1.heap.size := lt_of_heap c1
  have C0 := Lib.hid c0
  have C1 := Lib.hid c1
  clear b0 b1 c0 c1 hF hs0 hs1
  go_wp2_with fail
  rw [← HXS.out]
  go_loopw [15, 13, 14] (fun v15 v13 v14 wr => PuRel w (.slice ad q.length cap) q x.seq x w1.heap.size v15 v13 v14 wr) (fun v15 _ _ _ => q.length - (intOf v15).toNat)
  case atStart =>
    refine ⟨0, false, [], rfl, rfl, Nat.zero_le _, by simp, RowAt.nil _ _, (hB2.setCell (p := ⟨w.heap.size, 1, none⟩) (by simp) _).alloc (by simp; omega) _, fun g h => by simp [Value.ownBlock] at h, ?_, ?_, ?_⟩
    · rw [Below.heap_alloc _ _ _ (by simp [World.setCell]; omega)]
      simp [World.setCell, Array.getElem?_modify, C0.out]
    · rw [Below.heap_alloc _ _ _ (by simp [World.setCell]; omega), Below.heap_setCell _ _ _ _ (by simp)]
      exact C1.out
    · rw [show w1.heap.size = (w1.setCell ⟨w.heap.size, 1, none⟩ (.int .i64 x.seq)).heap.size by simp [World.setCell]]
      exact heap_alloc_new _ _
  case round =>
    obtain ⟨k, p, out, rfl, rfl, hk, hp, hR, hBr, hf, b0, b1, b2⟩ := hrel
    have c0 : wr.cell? ⟨w.heap.size, 0, none⟩ = some (.slice ad q.length cap) := by rw [cell_of_heap b0]; rfl
    have c1 : wr.cell? ⟨w.heap.size, 1, none⟩ = some (.int .i64 x.seq) := by rw [cell_of_heap b0]; rfl
    have i0' : wr.cell? ⟨w1.heap.size, 0, none⟩ = some (.int .i64 x.run) := by rw [cell_of_heap b2]; rfl
    have i1' : wr.cell? ⟨w1.heap.size, 1, none⟩ = some (.int .i64 x.kind) := by rw [cell_of_heap b2]; rfl
    have i2' : wr.cell? ⟨w1.heap.size, 2, none⟩ = some (.int .i64 x.id) := by rw [cell_of_heap b2]; rfl
    have i3' : wr.cell? ⟨w1.heap.size, 3, none⟩ = some (.int .i64 x.due) := by rw [cell_of_heap b2]; rfl
    have i4' : wr.cell? ⟨w1.heap.size, 4, none⟩ = some (.int .i64 x.seq) := by rw [cell_of_heap b2]; rfl
    have l0 := lt_of_heap b0
    have l1 := lt_of_heap b1
    have l2 := lt_of_heap b2
    have hol : out.length ≤ 16384 := by
      have ht : (q.take k).length ≤ k := List.length_take_le _ _
      cases p
      · rw [if_neg (by simp)] at hp; rw [hp.2]; omega
      · rw [if_pos rfl] at hp; rw [hp.2, insR_len]; omega
    obtain ⟨a5, p5, rfl⟩ := hR.slice
    by_cases hkn : k < q.length
    · have hy : q[k]? = some q[k] := by simp [hkn]
      generalize q[k] = y at hy
      have ht : q.take (k + 1) = q.take k ++ [y] := by rw [List.take_add_one, hy]; rfl
      have H' := HR.out.keep (Keeps.of_below hBr) (fun _ _ h => h)
      obtain ⟨g, off, rfl⟩ : ∃ g off, ad = some ⟨g, off, none⟩ := by
        rcases H' with ⟨_, h⟩ | ⟨g, off, cap', _, h, _⟩
        · rw [h] at hkn; cases hkn
        · simp only [Value.slice.injEq] at h; exact ⟨g, off, h.1⟩
      obtain ⟨x0, x1, x2, x3, x4⟩ := row_rit H' hy
      have hgl : g < w.heap.size := HR.out.lt (g := g) rfl
      have hglr : g < wr.heap.size := by have := hBr.size; omega
      have hgf : ¬ (Value.slice a5 out.length p5).ownBlock = some g := fun h => by have := hf g h; omega
      have hk0 : (0 : Int) ≤ (k : Int) := by omega
      have hkI : (k : Int) < (q.length : Int) := by omega
      have RB := Lib.hid (And.intro hR (And.intro b0 (And.intro b1 b2)))
      have HF := Lib.hid hf
      have HYD := Lib.hid ht
      clear ht hy H' hR b0 b1 b2 hf
      cases p
      · rw [if_neg (by simp)] at hp
        obtain ⟨hp1, hp2⟩ := hp
        by_cases hd : x.due < y.due
        ·
          have HPP := Lib.hid (show (if true = true then (∃ z ∈ q.take (k + 1), x.due < z.due) ∧ out ++ [x] ++ [y] = insR x (q.take (k + 1)) else (∀ z ∈ q.take (k + 1), ¬ x.due < z.due) ∧ out ++ [x] ++ [y] = q.take (k + 1)) by
            rw [if_pos rfl, HYD.out, hp2]
            exact ⟨⟨y, by simp, hd⟩, (insR_here x y hd _ hp1).symm⟩)
          clear hp1 hp2
          go_wp2_with (first | (at_builtin; refine wpList_append (α := RIt) rfl (.tmp 58) (.tmp 60) 47 rfl 57 i0 _ 40 Try.underlying47 HI0.out.1 HI0.out.2.1 HI0.out.2.2.1 HI0.out.2.2.2 rfl (Value.slice a5 out.length p5) (out) rfl (RB.out.1.frame (fun g h => Below.heap_alloc _ _ _ (RB.out.1.lt h))) ⟨wr.heap.size, 0, none⟩ 1 1 [x] rfl rfl (news_rit (x := x) (heap_alloc_new wr _)) (by omega) (by unfold maxLen; omega) ?_; intro v1 w2 hr1 hg1 hf1; have KA : Keeps (fun j => (Value.slice a5 out.length p5).ownBlock = some j) wr w2 := ((Keeps.refl (fun j => (Value.slice a5 out.length p5).ownBlock = some j) wr).alloc _).comp (Keeps.of_grown hg1 (fun k h => h)); obtain ⟨a1, q1, hv1⟩ := hr1.slice; obtain ⟨n1, hn1⟩ : ∃ n, n = (out ++ [x]).length := ⟨_, rfl⟩; rw [← hn1] at hv1; subst hv1; have HN1 := Lib.hid hn1; have hn1' : n1 ≤ 16385 := (by rw [hn1, List.length_append]; exact Nat.succ_le_succ hol); have R2 := Lib.hid (And.intro hr1 (pu_fresh l2 HF.out hg1 hf1)); have y0' := (KA.cell (p := ⟨g, off + k * 5, none⟩) hglr hgf).trans x0; have y1' := (KA.cell (p := ⟨g, off + k * 5 + 1, none⟩) hglr hgf).trans x1; have y2' := (KA.cell (p := ⟨g, off + k * 5 + 2, none⟩) hglr hgf).trans x2; have y3' := (KA.cell (p := ⟨g, off + k * 5 + 3, none⟩) hglr hgf).trans x3; have y4' := (KA.cell (p := ⟨g, off + k * 5 + 4, none⟩) hglr hgf).trans x4; have z0' := (KA.cell (p := ⟨w.heap.size, 0, none⟩) l0 (fun h => by have := HF.out w.heap.size h; omega)).trans c0; clear hr1 hg1 hf1 hn1 KA) | (at_builtin; refine wpList_append (α := RIt) rfl (.tmp 62) (.tmp 68) 47 rfl 57 i0 _ 40 Try.underlying47 HI0.out.1 HI0.out.2.1 HI0.out.2.2.1 HI0.out.2.2.2 rfl (Value.slice a1 n1 q1) (out ++ [x]) rfl (R2.out.1.frame (fun g h => Below.heap_alloc _ _ _ (R2.out.1.lt h))) ⟨w2.heap.size, 0, none⟩ 1 1 [y] rfl rfl (news_rit (x := y) (heap_alloc_new w2 _)) (by rw [List.length_append]; simp only [List.length_cons, List.length_nil]; omega) (by unfold maxLen; rw [List.length_append]; simp only [List.length_cons, List.length_nil]; omega) ?_; intro v2 w3 hr2 hg2 hf2; have RZ := Lib.hid (And.intro hr2 (pu_two R2.out.2 hg2 hf2)); clear hr2 hg2 hf2))
          go_roundw
          case rel => exact pu_step hkn HPP.out RZ.out.1 hBr hs1' RZ.out.2.1 RZ.out.2.2 RB.out.2.1 RB.out.2.2.1 RB.out.2.2.2
          case measure => simp [intOf]; omega
        ·
          have HPP := Lib.hid (show (if false = true then (∃ z ∈ q.take (k + 1), x.due < z.due) ∧ out ++ [y] = insR x (q.take (k + 1)) else (∀ z ∈ q.take (k + 1), ¬ x.due < z.due) ∧ out ++ [y] = q.take (k + 1)) by
            rw [if_neg (by simp), HYD.out, hp2]
            exact ⟨fun z hz => by rcases List.mem_append.1 hz with h | h; exact hp1 z h; simp at h; subst h; exact hd, rfl⟩)
          clear hp1 hp2
          go_wp2_with (at_builtin; refine wpList_append (α := RIt) rfl (.tmp 62) (.tmp 68) 47 rfl 57 i0 _ 40 Try.underlying47 HI0.out.1 HI0.out.2.1 HI0.out.2.2.1 HI0.out.2.2.2 rfl (Value.slice a5 out.length p5) (out) rfl (RB.out.1.frame (fun g h => Below.heap_alloc _ _ _ (RB.out.1.lt h))) ⟨wr.heap.size, 0, none⟩ 1 1 [y] rfl rfl (news_rit (x := y) (heap_alloc_new wr _)) (by omega) (by unfold maxLen; omega) ?_; intro v1 w2 hr1 hg1 hf1)
          go_roundw
          case rel => obtain ⟨P1, P2, P3⟩ := pu_fresh l2 HF.out hg1 hf1; exact pu_step hkn HPP.out hr1 hBr hs1' P1 P2 RB.out.2.1 RB.out.2.2.1 RB.out.2.2.2
          case measure => simp [intOf]; omega
      ·
        rw [if_pos rfl] at hp
        obtain ⟨hp1, hp2⟩ := hp
        have HPP := Lib.hid (show (if true = true then (∃ z ∈ q.take (k + 1), x.due < z.due) ∧ out ++ [y] = insR x (q.take (k + 1)) else (∀ z ∈ q.take (k + 1), ¬ x.due < z.due) ∧ out ++ [y] = q.take (k + 1)) by
          rw [if_pos rfl, HYD.out, hp2, insR_some x _ _ hp1]
          exact ⟨by obtain ⟨z, hz, h⟩ := hp1; exact ⟨z, by simp [hz], h⟩, rfl⟩)
        clear hp1 hp2
        go_wp2_with (at_builtin; refine wpList_append (α := RIt) rfl (.tmp 62) (.tmp 68) 47 rfl 57 i0 _ 40 Try.underlying47 HI0.out.1 HI0.out.2.1 HI0.out.2.2.1 HI0.out.2.2.2 rfl (Value.slice a5 out.length p5) (out) rfl (RB.out.1.frame (fun g h => Below.heap_alloc _ _ _ (RB.out.1.lt h))) ⟨wr.heap.size, 0, none⟩ 1 1 [y] rfl rfl (news_rit (x := y) (heap_alloc_new wr _)) (by omega) (by unfold maxLen; omega) ?_; intro v1 w2 hr1 hg1 hf1)
        go_roundw
        case rel => obtain ⟨P1, P2, P3⟩ := pu_fresh l2 HF.out hg1 hf1; exact pu_step hkn HPP.out hr1 hBr hs1' P1 P2 RB.out.2.1 RB.out.2.2.1 RB.out.2.2.2
        case measure => simp [intOf]; omega
    · obtain rfl : k = q.length := by omega
      rw [List.take_length] at hp
      have d0 : wr.cell? ⟨w.heap.size + 1, 0, none⟩ = some (.slice none 0 0) := by rw [cell_of_heap b1]; rfl
      have d1 : wr.cell? ⟨w.heap.size + 1, 1, none⟩ = some (.int .i64 0) := by rw [cell_of_heap b1]; rfl
      have f0 : wr.frozen? ⟨w.heap.size, 0, none⟩ = false := by simp [World.frozen?, b0]
      have f1 : wr.frozen? ⟨w.heap.size + 1, 0, none⟩ = false := by simp [World.frozen?, b1]
      have f2 : wr.frozen? ⟨w.heap.size + 1, 1, none⟩ = false := by simp [World.frozen?, b1]
      have hno : ∀ j, j ≤ w1.heap.size → ¬ (Value.slice a5 out.length p5).ownBlock = some j := fun j hj h => by have := hf j h; omega
      have RB := Lib.hid (And.intro hR hno)
      have HF := Lib.hid hf
      clear hR b0 b1 b2 hno hf
      have KF : ∀ (w3 : World) (v3 : Value), Keeps (fun j => j = w.heap.size ∨ j = w.heap.size + 1) w3 (((w3.setCell ⟨w.heap.size, 0, none⟩ v3).setCell ⟨w.heap.size + 1, 0, none⟩ v3).setCell ⟨w.heap.size + 1, 1, none⟩ (.int .i64 x.seq)) := fun w3 v3 =>
        (((Keeps.refl (fun j => j = w.heap.size ∨ j = w.heap.size + 1) w3).setCell (p := ⟨w.heap.size, 0, none⟩) (.inl (.inl rfl)) _).setCell (p := ⟨w.heap.size + 1, 0, none⟩) (.inl (.inr rfl)) _).setCell (p := ⟨w.heap.size + 1, 1, none⟩) (.inl (.inr rfl)) _
      have HKF := Lib.hid KF
      clear KF
      cases p
      ·
        rw [if_neg (by simp)] at hp
        obtain ⟨hp1, hp2⟩ := hp
        have HO := Lib.hid (show out ++ [x] = insR x q by rw [hp2, insR_none x q hp1])
        clear hp1 hp2
        go_wp2_with (at_builtin; refine wpList_append (α := RIt) rfl (.tmp 72) (.tmp 74) 47 rfl 57 i0 _ 40 Try.underlying47 HI0.out.1 HI0.out.2.1 HI0.out.2.2.1 HI0.out.2.2.2 rfl (Value.slice a5 out.length p5) (out) rfl (RB.out.1.frame (fun g h => Below.heap_alloc _ _ _ (RB.out.1.lt h))) ⟨wr.heap.size, 0, none⟩ 1 1 [x] rfl rfl (news_rit (x := x) (heap_alloc_new wr _)) (by omega) (by unfold maxLen; omega) ?_; intro v1 w2 hr1 hg1 hf1; have KA : Keeps (fun j => (Value.slice a5 out.length p5).ownBlock = some j) wr w2 := ((Keeps.refl (fun j => (Value.slice a5 out.length p5).ownBlock = some j) wr).alloc _).comp (Keeps.of_grown hg1 (fun k h => h)); obtain ⟨a1, q1, hv1⟩ := hr1.slice; obtain ⟨n1, hn1⟩ : ∃ n, n = (out ++ [x]).length := ⟨_, rfl⟩; rw [← hn1] at hv1; subst hv1; have R2 := Lib.hid (And.intro hr1 (pu_fresh l2 HF.out hg1 hf1)); have y0 := (KA.cell (p := ⟨w.heap.size, 0, none⟩) l0 (RB.out.2 _ (by simp; omega))).trans c0; have y1 := (KA.cell (p := ⟨w.heap.size, 1, none⟩) l0 (RB.out.2 _ (by simp; omega))).trans c1; have y2 := (KA.cell (p := ⟨w.heap.size + 1, 0, none⟩) l1 (RB.out.2 _ (by simp; omega))).trans d0; have y3 := (KA.cell (p := ⟨w.heap.size + 1, 1, none⟩) l1 (RB.out.2 _ (by simp; omega))).trans d1; have g0 := (KA.frozen (p := ⟨w.heap.size, 0, none⟩) l0 (RB.out.2 _ (by simp; omega))).trans f0; have g1 := (KA.frozen (p := ⟨w.heap.size + 1, 0, none⟩) l1 (RB.out.2 _ (by simp; omega))).trans f1; have g2 := (KA.frozen (p := ⟨w.heap.size + 1, 1, none⟩) l1 (RB.out.2 _ (by simp; omega))).trans f2; clear hr1 hg1 hf1 hn1 KA)
        refine bodyPost_ret (v := .tuple #[.agg #[.slice a1 n1 q1, .int .i64 x.seq], .int .i64 0]) (by simp only [results, Try.results21]; go_simp) rfl ⟨_, rfl, ?_, ?_, ?_⟩
        · rw [← HO.out]
          exact R2.out.1.keep (HKF.out w2 _) (fun g h e => by have := R2.out.2.2.1 g h; omega)
        · exact (hBr.trans (R2.out.2.1.below hBr.size (fun j hj h => by omega))).trans ((HKF.out w2 _).below (Nat.le_trans hBr.size R2.out.2.1.size) (fun j hj h => by omega))
        · exact fun g h => by have := R2.out.2.2.1 g h; omega
      ·
        rw [if_pos rfl] at hp
        obtain ⟨hp1, hp2⟩ := hp
        have HO := Lib.hid hp2
        clear hp1 hp2
        go_wp2_with fail
        refine bodyPost_ret (v := .tuple #[.agg #[.slice a5 out.length p5, .int .i64 x.seq], .int .i64 0]) (by simp only [results, Try.results21]; go_simp) rfl ⟨_, rfl, ?_, ?_, fun g h => by have := HF.out g h; omega⟩
        · rw [← HO.out]
          exact RB.out.1.keep (HKF.out wr _) (fun g h e => by have := HF.out g h; omega)
        · exact hBr.trans ((HKF.out wr _).below hBr.size (fun j hj h => by omega))
end Go.Proofs.Ytkhphnidopbjjaa
