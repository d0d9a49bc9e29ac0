/- The heap's methods, walked: Due, where one at most is due. -/
import Derived.Test.YtkhphnidopbjjaaH6
import Derived.Test.YtkhphnidopbjjaaHm2
namespace Go.Proofs.Ytkhphnidopbjjaa
open Go.RowKit Go.Own Go.Own.MapTy Go.Hm
open Go.Own.Cells (sz enc)

set_option maxHeartbeats 1000000 in
theorem ins_one (a : Option Addr) (cap : Nat) (f : Value) (w : World) :
    Calls Try.prog 65 #[.slice a 1 cap, .int .i64 0, .int .i64 1, f] w fun e w' => e = .returned (.tuple #[]) ∧ w = w' := by
  go_enter Try.func65, Try.ntmps65
  go_wp2
  refine wp_loop_rounds 1 ?_
  rw [rounds_succ]
  go_wp2
  go_end0
  exact ⟨rfl, rfl⟩
set_option maxRecDepth 100000 in
set_option maxHeartbeats 1000000 in
theorem len64_one (w : World) :
    Calls Try.prog 74 #[.int .u64 1] w fun e w' => e = .returned (.int .i64 1) ∧ w = w' := by
  go_enter Try.func74, Try.ntmps74
  go_wp2
  go_ret
  exact ⟨ret_i64 (by kernel_rfl), rfl⟩
set_option maxHeartbeats 1000000 in
theorem blen_one (w : World) :
    Calls Try.prog 60 #[.int .u64 1] w fun e w' => e = .returned (.int .i64 1) ∧ w = w' := by
  go_enter Try.func60, Try.ntmps60
  go_wp2_with (go_at_call 74; refine (len64_one _).mono ?_; rintro e w' ⟨rfl, rfl⟩)
  go_ret
  exact ⟨rfl, rfl⟩
set_option maxHeartbeats 1000000 in
theorem pdq_one (a : Option Addr) (cap : Nat) (f : Value) (w : World) :
    Calls Try.prog 59 #[.slice a 1 cap, .int .i64 0, .int .i64 1, .int .i64 1, f] w fun e w' => e = .returned (.tuple #[]) ∧ w = w' := by
  go_enter Try.func59, Try.ntmps59
  go_wp2_with fail
  refine wp_loop_rounds 1 ?_
  rw [rounds_succ]
  go_wp2_with (go_at_call 65; refine (ins_one _ _ _ _).mono ?_; rintro e w' ⟨rfl, rfl⟩)
  exact bodyPost_ret (v := .tuple #[]) (by simp [results, Try.results59]) rfl ⟨rfl, rfl⟩
set_option maxHeartbeats 1000000 in
theorem sort_one (a : Option Addr) (cap : Nat) (f : Value) (w : World) :
    Calls Try.prog 46 #[.slice a 1 cap, f] w fun e w' => e = .returned (.tuple #[]) ∧ w = w' := by
  go_enter Try.func46, Try.ntmps46
  go_wp2_with (first | (go_at_call 60; refine (blen_one _).mono ?_; rintro e w' ⟨rfl, rfl⟩) | (go_at_call 59; refine (pdq_one _ _ _ _).mono ?_; rintro e w' ⟨rfl, rfl⟩))
  go_end0
  exact ⟨rfl, rfl⟩

/-- the sort, by a function that compares, makes l' of l -/
def SortTo (F : FuncId) (l l' : List It) : Prop :=
  ∀ (a : Option Addr) (cap : Nat) (W : World), RowAt W 35 (.slice a l.length cap) l →
    Calls Try.prog 46 #[.slice a l.length cap, .func (.func F) #[] #[]] W fun e w' =>
      e = .returned (.tuple #[]) ∧ RowAt w' 35 (.slice a l.length cap) l' ∧ Keeps (fun j => (Value.slice a l.length cap).ownBlock = some j) W w'

theorem sortTo_one (F : FuncId) (x : It) : SortTo F [x] [x] := fun a cap W h =>
  (sort_one a cap _ W).mono fun _ _ ⟨he, hw⟩ => ⟨he, hw ▸ h, hw ▸ Keeps.refl _ W⟩

theorem info3 : (Try.prog.info? 3).map (fun i => (i.zero, i.size, i.bytes)) = some (some (.int .i64 0), 1, 8) := by kernel_rfl

/-- between two rounds of Due's loop -/
def DueRel (w : World) (s : Hp) (now : Int) (gk : Nat) (v5 v6 : Value) (wr : World) : Prop :=
  ∃ (todo : List Nat) (out : List It), todoT s.L.length todo ≤ gk ∧ dueGo s.L now gk todo out = dueL s now ∧ RowAt wr 35 v5 out ∧ RowAt wr 3 v6 (todo.map Int.ofNat) ∧
    Below w.heap.size w wr ∧ (∀ g, v5.ownBlock = some g → w.heap.size ≤ g ∧ v6.ownBlock ≠ some g) ∧ (∀ g, v6.ownBlock = some g → w.heap.size ≤ g) ∧ (∃ g off n cap, v6 = .slice (some ⟨g, off, none⟩) n cap) ∧ (∀ i ∈ todo, i ≤ 2 * s.L.length + 2) ∧ out.length + gk ≤ todoT s.L.length [0]

theorem due_step {w wr w1 w2 : World} {s : Hp} {now : Int} {gk i : Nat} {r : List Nat} {out : List It} {x : It} {v5 v1 v2 : Value} {g6 o6 n6 p6 : Nat} {X Y : Obj}
    (hin : i < s.L.length) (hx : s.L[i]? = some x) (hd : x.due ≤ now) (hT : dueT s.L.length i + todoT s.L.length r ≤ gk + 1) (hgo : dueGo s.L now (gk + 1) (i :: r) out = dueL s now) (hB : Below w.heap.size w wr)
    (hf5 : ∀ g, v5.ownBlock = some g → w.heap.size ≤ g ∧ (Value.slice (some ⟨g6, o6, none⟩) n6 p6).ownBlock ≠ some g) (hg6 : w.heap.size ≤ g6) (hl6 : g6 < wr.heap.size)
    (hg1 : (wr.alloc X).grownBy w1 v5.ownBlock) (hr1 : RowAt w1 35 v1 (out ++ [x])) (hf1 : ∀ g, v1.ownBlock = some g → v5.ownBlock = some g ∨ ((wr.alloc X).heap.size ≤ g ∧ g < w1.heap.size))
    (hg2 : (w1.alloc Y).grownBy w2 (some g6)) (hr2 : RowAt w2 3 v2 (r.map Int.ofNat ++ [2 * (i : Int) + 1, 2 * (i : Int) + 2])) (hf2 : ∀ g, v2.ownBlock = some g → g6 = g ∨ ((w1.alloc Y).heap.size ≤ g ∧ g < w2.heap.size))
    (hmax : ∀ j ∈ r, j ≤ 2 * s.L.length + 2) (hsum : out.length + (gk + 1) ≤ todoT s.L.length [0]) : DueRel w s now gk v1 v2 w2 := by
  have hw := hB.size
  have K1 : Keeps (fun j => v5.ownBlock = some j) wr w1 := ((Keeps.refl (fun j => v5.ownBlock = some j) wr).alloc X).comp (Keeps.of_grown hg1 (fun k h => h))
  have K2 : Keeps (fun j => j = g6) w1 w2 := ((Keeps.refl (fun j => j = g6) w1).alloc Y).comp (Keeps.of_grown hg2 (fun k h => by cases h; rfl))
  have hv1 : ∀ g, v1.ownBlock = some g → w.heap.size ≤ g ∧ g ≠ g6 := by
    intro g h
    rcases hf1 g h with h' | h'
    · have := hf5 g h'
      exact ⟨this.1, fun e => this.2 (by rw [e]; rfl)⟩
    · simp at h'
      exact ⟨by omega, by omega⟩
  refine ⟨r ++ [2 * i + 1, 2 * i + 2], out ++ [x], ?_, ?_, hr1.keep K2 (fun g h e => (hv1 g h).2 e), ?_, ?_, ?_, ?_, ?_, ?_, ?_⟩
  · rw [todoT_two]
    rw [dueT_in hin] at hT
    omega
  · rw [← hgo, dueGo_in hx hd]
  · rw [List.map_append]
    exact hr2
  · exact (hB.trans (K1.below hw (fun k hk e => by have := (hf5 k e).1; omega))).trans (K2.below (by have := K1.size; omega) (fun k hk e => by omega))
  · intro g h
    refine ⟨(hv1 g h).1, fun e => ?_⟩
    rcases hf2 g e with h' | h'
    · exact (hv1 g h).2 h'.symm
    · have := hr1.lt h
      simp at h'
      omega
  · intro g h
    rcases hf2 g h with h' | h'
    · omega
    · have := K1.size
      simp at h'
      omega
  · rcases hr2 with ⟨_, h⟩ | ⟨g, off, cap, cur, h, _⟩
    · simp at h
    · exact ⟨g, off, _, _, h⟩
  · intro j hj
    simp at hj
    rcases hj with hj | rfl | rfl
    · exact hmax j hj
    · omega
    · omega
  · simp; omega

set_option maxRecDepth 100000 in
set_option maxHeartbeats 2000000 in
theorem due_any (now : Int) (hb : Nat) (lv mv : Value) (T : TypeId) (s : Hp) (w : World) (H : HV w hb lv mv T s) (hcap : s.L.length ≤ 16384) (l' : List It) (hs : SortTo 44 (dueL s now) l') :
    Calls Try.prog 27 #[.pointer (some ⟨hb, 0, none⟩), .int .i64 now] w fun e w' => ∃ v, e = .returned v ∧ RowAt w' 35 v l' ∧ Below w.heap.size w w' ∧ ∀ g, v.ownBlock = some g → w.heap.size ≤ g := by
  obtain ⟨a, cap, rfl⟩ := H.row.slice
  obtain ⟨c0, c1, b0, hn⟩ := H.facts
  clear c1
  go_enter Try.func27, Try.ntmps27
  go_wp2
  go_loopg [5, 6] (todoT s.L.length [0]) (fun gk v5 v6 wr => DueRel w s now gk v5 v6 wr)
  case atStart =>
    refine ⟨[0], [], Nat.le_refl _, rfl, RowAt.nil _ _, ?_, ?_, by simp [Value.ownBlock], ?_, ⟨_, _, _, _, rfl⟩, by simp, by simp⟩
    · exact RowAt.made (heap_alloc_new w _) rfl rfl (by decide)
    · exact (Below.refl _ _).alloc (Nat.le_refl _) _
    · intro g h; simp [Value.ownBlock] at h; omega
  case round =>
    obtain ⟨todo, out, hT, hgo, r5, r6, hB, hf5, hf6, ⟨g6, o6, n6, p6, rfl⟩, hmax, hsum⟩ := hrel
    have hT0 := todoT_zero s.L.length
    have hlen := todoT_len s.L.length todo
    have kk : Keeps (fun _ => False) w wr := Keeps.of_below hB
    have H' := H.keep kk (fun _ _ h => h)
    have hsw := hB.size
    clear c0 b0
    obtain ⟨c0, c1, b0, hn⟩ := H'.facts
    clear c1
    obtain ⟨a5, p5, rfl⟩ := r5.slice
    have hn6 : n6 = todo.length := by
      rcases r6 with ⟨h, _⟩ | ⟨_, _, _, _, h, _⟩
      · cases h
      · cases h; simp
    subst hn6
    cases todo with
    | nil =>
      rw [dueGo_nil] at hgo
      subst hgo
      go_wp2_with fail
      refine (hs a5 p5 wr r5).mono ?_
      rintro e w1 ⟨rfl, r1, K1⟩
      go_wp2
      go_ret
      exact ⟨_, rfl, r1, hB.trans (K1.below hsw (fun k hk e => by have := (hf5 k e).1; omega)), fun g h => (hf5 g h).1⟩
    | cons i r =>
      obtain ⟨gk', rfl⟩ : ∃ gk', gk = gk' + 1 := ⟨gk - 1, by have := dueT_pos s.L.length i; rw [todoT_cons] at hT; omega⟩
      rw [todoT_cons] at hT
      have hi2 : i ≤ 2 * s.L.length + 2 := hmax i (by simp)
      have hr2' : ∀ j ∈ r, j ≤ 2 * s.L.length + 2 := fun j hj => hmax j (by simp [hj])
      simp only [List.map_cons, List.length_cons] at r6 hlen
      have t0 := row_int r6 (i := 0) (x := Int.ofNat i) rfl
      simp only [Nat.add_zero, Int.ofNat_eq_natCast] at t0
      obtain ⟨i0, hi0, hz0, hz1, hz2⟩ := info_parts info3
      obtain ⟨o6', hsl0, r6'⟩ := run_slice_from (P := Try.prog) (t := 106) Try.underlying106 hi0 hz1 r6 (k := 1) (by omega)
      have hsl : ∀ W : World, (Instr.slice 106 (.slice (some ⟨g6, o6, none⟩) (r.length + 1) p6) (some (.int .i64 1)) none none).run Try.prog W = .ok (.slice (some ⟨g6, o6', none⟩) r.length (p6 - 1)) W := hsl0
      replace r6' : RowAt wr 3 (.slice (some ⟨g6, o6', none⟩) r.length (p6 - 1)) (r.map Int.ofNat) := r6'
      have hg6 : w.heap.size ≤ g6 := hf6 g6 rfl
      have hrl : r.length ≤ 65540 := by have := todoT_len s.L.length r; omega
      have hol : out.length ≤ 65540 := by omega
      have hl6 : g6 < wr.heap.size := r6.lt rfl
      clear hsl0 hmax
      have HGO := Lib.hid hgo
      clear hgo
      by_cases hin : i < s.L.length
      · have hx : s.L[i]? = some s.L[i] := by simp [hin]
        generalize s.L[i] = x at hx
        rcases H'.row with ⟨_, h⟩ | ⟨g, off, cap', cur, hlv, hcur, _⟩
        · rw [h] at hin; cases hin
        cases hlv
        obtain ⟨e0, e1, e2, e3, e4⟩ := row_cells H'.row hx
        have HXX := Lib.hid hx
        clear hx hcur
        by_cases hd : x.due ≤ now
        · obtain ⟨i5, hi5, hz50, hz51, hz52⟩ := info_parts info35
          have HI := Lib.hid (And.intro hi0 (And.intro hz0 (And.intro hz1 hz2)))
          have HI5 := Lib.hid (And.intro hi5 (And.intro hz50 (And.intro hz51 hz52)))
          have R5 := Lib.hid r5
          have R6 := Lib.hid r6'
          clear hi0 hz0 hz1 hz2 hi5 hz50 hz51 hz52 r5 r6' r6 hf6 H' kk
          go_upto_region 8 with (refine wpList_append (α := It) rfl (.tmp 36) (.tmp 44) 24 rfl 35 i5 _ 40 Try.underlying24 HI5.out.1 HI5.out.2.1 HI5.out.2.2.1 HI5.out.2.2.2 rfl (.slice a5 out.length p5) out rfl (R5.out.frame (fun g h => Below.heap_alloc _ _ _ (R5.out.lt h))) ⟨wr.heap.size, 0, none⟩ 1 1 [x] rfl rfl (news_one (x := x) (heap_alloc_new wr _)) (by omega) (by unfold maxLen; omega) ?_; intro v1 w1 hr1 hg1 hf1; obtain ⟨a1, q1, rfl⟩ := hr1.slice; have K1 : Keeps (fun j => (Value.slice a5 out.length p5).ownBlock = some j) wr w1 := ((Keeps.refl (fun j => (Value.slice a5 out.length p5).ownBlock = some j) wr).alloc _).comp (Keeps.of_grown hg1 (fun k h => h)); have R6K := R6.out.keep K1 (fun g h e => (hf5 g e).2 h))
          go_wp2_with (refine wpList_append (α := Int) rfl (.tmp 46) (.tmp 53) 106 rfl 3 i0 _ 8 Try.underlying106 HI.out.1 HI.out.2.1 HI.out.2.2.1 HI.out.2.2.2 rfl (.slice (some ⟨g6, o6', none⟩) r.length (p6 - 1)) (r.map Int.ofNat) rfl (R6K.keep ((Keeps.refl (fun _ => False) w1).alloc _) (fun _ _ h => h)) ⟨w1.heap.size, 0, none⟩ 2 2 [2 * (i : Int) + 1, 2 * (i : Int) + 2] rfl rfl (news_ints (xs := [2 * (i : Int) + 1, 2 * (i : Int) + 2]) (heap_alloc_new w1 _)) (by simp; omega) (by unfold maxLen; simp; omega) ?_; intro v2 w2 hr2 hg2 hf2; obtain ⟨a2, q2, rfl⟩ := hr2.slice)
          go_roundg gk'
          case measure => omega
          case rel =>
            simp only [List.length_append, List.length_cons, List.length_nil, List.length_map, Nat.zero_add] at hr1 hr2 hf1 hf2
            exact due_step hin HXX.out hd hT HGO.out hB hf5 hg6 hl6 hg1 hr1 hf1 hg2 hr2 (fun g h => (hf2 g h).imp (fun e => by simpa [Value.ownBlock] using e) id) hr2' hsum
        · go_wp2_with fail
          go_roundg gk'
          case measure => omega
          case rel =>
            have hp := dueT_pos s.L.length i
            exact ⟨r, out, by omega, by rw [← HGO.out, dueGo_late HXX.out (by omega)], r5, r6', hB, hf5, fun g h => by cases h; exact hg6, ⟨_, _, _, _, rfl⟩, hr2', by omega⟩
      · go_wp2_with fail
        go_roundg gk'
        case measure => omega
        case rel =>
          have hp := dueT_pos s.L.length i
          exact ⟨r, out, by omega, by rw [← HGO.out, dueGo_out (by omega)], r5, r6', hB, hf5, fun g h => by cases h; exact hg6, ⟨_, _, _, _, rfl⟩, hr2', by omega⟩
end Go.Proofs.Ytkhphnidopbjjaa
