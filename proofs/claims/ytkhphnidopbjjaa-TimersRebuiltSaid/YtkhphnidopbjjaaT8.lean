/- The timers' queue in a caller's hands; two queues alike; the law's guard. -/
import Derived.Test.YtkhphnidopbjjaaT7
namespace Go.Hm
theorem putZ_bounds (sq : Int) (Z : List It) (k : Ky) (d : Int) : sq ≤ (putZ sq Z k d).2.1 ∧ (putZ sq Z k d).2.1 ≤ sq + 1 ∧ (putZ sq Z k d).1.length ≤ Z.length + 1 := by
  unfold putZ
  split
  · exact ⟨Int.le_refl _, by show sq ≤ sq + 1; omega, by show Z.length ≤ _; omega⟩
  · refine ⟨by show sq ≤ sq + 1; omega, Int.le_refl _, ?_⟩
    have := (insIt_perm ⟨k.run, k.kind, k.id, d, sq + 1⟩ Z).length_eq
    rw [List.length_cons] at this
    show (insIt _ Z).length ≤ _
    omega
theorem applyZ_bounds (sq : Int) (Z : List It) (run : Int) (e : Ev) : sq ≤ (applyZ sq Z run e).2.1 ∧ (applyZ sq Z run e).2.1 ≤ sq + 1 ∧ (applyZ sq Z run e).1.length ≤ Z.length + 1 := by
  unfold applyZ
  split
  · split
    · exact putZ_bounds _ _ _ _
    · exact ⟨Int.le_refl _, by show sq ≤ sq + 1; omega, by show Z.length ≤ _; omega⟩
  · split
    · exact putZ_bounds _ _ _ _
    · split
      · unfold cancelZ
        split
        · refine ⟨Int.le_refl _, by show sq ≤ sq + 1; omega, ?_⟩
          have := List.length_filter_le (fun x : It => !decide (x.key = ⟨run, 1, e.a⟩)) Z
          show (Z.filter _).length ≤ _
          omega
        · exact ⟨Int.le_refl _, by show sq ≤ sq + 1; omega, by show Z.length ≤ _; omega⟩
      · split
        · refine ⟨Int.le_refl _, by show sq ≤ sq + 1; omega, ?_⟩
          have := List.length_filter_le (fun x : It => !(x.run == run)) Z
          show (Z.filter _).length ≤ _
          omega
        · exact ⟨Int.le_refl _, by show sq ≤ sq + 1; omega, by show Z.length ≤ _; omega⟩
end Go.Hm
namespace Go.Proofs.Ytkhphnidopbjjaa
open Go.RowKit Go.Own Go.Own.MapTy Go.Hm
open Go.Own.Cells (sz enc)
/-- the queue at block hb: the document's list is l; at most n events were told -/
structure QM (w0 : World) (hb : Nat) (lv mv : Value) (s : Hp) (Z : List It) (l : List Th) (n : Nat) (wr : World) : Prop where
  below : Below w0.heap.size w0 wr
  hv : HV wr hb lv mv 65 s
  ref : Ref s Z
  tr : TRef Z l
  fw : ∀ j, foot hb lv mv j → w0.heap.size ≤ j
  s0 : 0 ≤ s.seq
  s1 : s.seq ≤ n
  len : Z.length ≤ n
def Q1 (w0 : World) (hb : Nat) (l : List Th) (n : Nat) (wr : World) : Prop := ∃ lv mv s Z, QM w0 hb lv mv s Z l n wr
section
variable {w0 wr w2 : World} {hb : Nat} {lv mv : Value} {s : Hp} {Z : List It} {l : List Th} {n : Nat}
theorem QM.old (h : QM w0 hb lv mv s Z l n wr) (K : Below wr.heap.size wr w2) : QM w0 hb lv mv s Z l n w2 :=
  ⟨h.below.trans (K.mono h.below.size), h.hv.keep (Keeps.of_below K) (fun _ _ f => f), h.ref, h.tr, h.fw, h.s0, h.s1, h.len⟩
theorem QM.keep {S : Nat → Prop} (h : QM w0 hb lv mv s Z l n wr) (K : Keeps S wr w2) (hS : ∀ j, S j → w0.heap.size ≤ j) (hf : ∀ j, foot hb lv mv j → ¬ S j) : QM w0 hb lv mv s Z l n w2 :=
  ⟨h.below.trans (K.below h.below.size (fun j hj f => by have := hS j f; omega)), h.hv.keep K hf, h.ref, h.tr, h.fw, h.s0, h.s1, h.len⟩
theorem QM.hl (h : QM w0 hb lv mv s Z l n wr) : l.length ≤ n := by rw [h.tr.len]; exact h.len
theorem QM.b0 (h : QM w0 hb lv mv s Z l n wr) : hb < wr.heap.size := lt_of_heap h.hv.h
theorem QM.zero (hw : Below w0.heap.size w0 wr) : QM w0 wr.heap.size (.slice none 0 0) (.map none) ⟨[], [], 0⟩ [] [] 0 (wr.alloc (.cells #[.slice none 0 0, .map none, .int .u64 0] 65)) := by
  refine ⟨hw.alloc hw.size _, HV.zero wr _, Ref.zero, TRef.nil, ?_, Int.le_refl _, Int.le_refl _, Nat.le_refl _⟩
  rintro j (h | h | h)
  · rw [h]; exact hw.size
  · simp [Value.ownBlock] at h
  · simp at h
/-- what Apply leaves, in a caller's hands -/
structure ApRel (w0 : World) (hb : Nat) (lv mv : Value) (l : List Th) (n : Nat) (run : Int) (v : Ev) (wr : World) (e : Ending) (w2 : World) (lv' mv' : Value) : Prop where
  ret : e = .returned (.int .i64 (applyL l run v).2)
  q : ∃ s' Z', QM w0 hb lv' mv' s' Z' (applyL l run v).1 (n + 1) w2
  keep : Keeps (foot hb lv mv) wr w2
  foot : ∀ j, foot hb lv' mv' j → foot hb lv mv j ∨ (wr.heap.size ≤ j ∧ j < w2.heap.size)
theorem QM.apply (h : QM w0 hb lv mv s Z l n wr) (hn : n ≤ 1000) (v : Ev) (run : Int) :
    Calls Try.prog 30 #[.pointer (some ⟨hb, 0, none⟩), .int .i64 run, .agg (evCells v)] wr (fun e w2 => ∃ lv' mv', ApRel w0 hb lv mv l n run v wr e w2 lv' mv') := by
  have h1 := h.s0
  have h2 := h.s1
  have h3 := h.len
  refine (apply_any v run hb lv mv _ s Z wr h.hv h.ref h1 (by omega) (by omega)).mono fun e w2 ⟨lv', mv', s', he, hV, hR, hq, hK, hF⟩ => ⟨lv', mv', ?_⟩
  obtain ⟨t1, t2⟩ := h.tr.apply s.seq run v
  have hz := applyZ_bounds s.seq Z run v
  refine ⟨by rw [t1]; exact he, ⟨s', _, ?_, hV, hR, t2, fun j hj => ?_, by rw [hq]; omega, by rw [hq]; omega, by omega⟩, hK, hF⟩
  · exact h.below.trans (hK.below h.below.size (fun j hj f => by have := h.fw j f; omega))
  · rcases hF j hj with f | f
    · exact h.fw j f
    · have := h.below.size; omega
/-- a row that is not the queue's -/
def Off (hb : Nat) (lv mv v : Value) : Prop := ∀ g, v.ownBlock = some g → ¬ foot hb lv mv g
theorem Off.step {lv' mv' v : Value} {α : Type} [Cells α] {e : TypeId} {xs : List α} (h : Off hb lv mv v) (R : RowAt wr e v xs) (K : Keeps (foot hb lv mv) wr w2) (F : ∀ j, foot hb lv' mv' j → foot hb lv mv j ∨ (wr.heap.size ≤ j ∧ j < w2.heap.size)) :
    Off hb lv' mv' v ∧ RowAt w2 e v xs := by
  refine ⟨fun g hg f => ?_, R.keep K (fun g hg f => h g hg f)⟩
  rcases F g f with f | f
  · exact h g hg f
  · have := R.lt hg; omega
end
--[[equal
set_option maxRecDepth 100000 in
set_option maxHeartbeats 2000000 in
theorem equal_true (v u : Value) (L : List It) (w : World) (H : RowAt w 35 v L) (HU : RowAt w 35 u L) (hn : L.length ≤ 16384) :
    Calls Try.prog 54 #[v, u] w fun e w' => e = .returned (.bool true) ∧ Below w.heap.size w w' := by
  obtain ⟨ad, cap, rfl⟩ := H.slice
  obtain ⟨ae, cae, rfl⟩ := HU.slice
  have H1 := Lib.hid H
  have H2 := Lib.hid HU
  clear H HU
  go_enter Try.func54, Try.ntmps54
  go_wp2_with fail
  go_loopw [13] (fun v13 wr => ∃ k : Nat, v13 = .int .i64 k ∧ k ≤ L.length ∧ Below w.heap.size w wr) (fun v13 _ => L.length - (intOf v13).toNat)
  case atStart => exact ⟨0, rfl, Nat.zero_le _, Below.refl _ _⟩
  case round =>
    obtain ⟨k, rfl, hk, hB⟩ := hrel
    by_cases hkn : k < L.length
    · obtain ⟨x, hx⟩ := elem_at hkn
      have hR1 := H1.out.below hB
      have hR2 := H2.out.below hB
      obtain ⟨g, off, rfl, hgl⟩ := hR1.addr hx
      obtain ⟨g2, off2, rfl, hgl2⟩ := hR2.addr hx
      obtain ⟨x0, x1, x2, x3, x4⟩ := row_cells hR1 hx
      obtain ⟨y0, y1, y2, y3, y4⟩ := row_cells hR2 hx
      have hk0 : (0 : Int) ≤ (k : Int) := by omega
      have hk1 : (k : Int) < (L.length : Int) := by omega
      have HB := Lib.hid hB
      clear hx hR1 hR2 hB
      go_wp2_with fail
      refine wp_region_ext (by kernel_rfl) (by kernel_rfl) ?_
      repeat (go_big_quiet_step (fail))
      refine wpQuiet_nil ?_
      intro w7 hB7
      clear x0 x1 x2 x3 x4 y0 y1 y2 y3 y4
      go_wp2_with fail
      go_roundw
      case rel => exact ⟨k + 1, by simp, hkn, HB.out.trans (hB7.mono HB.out.size)⟩
      case measure => simp [intOf]; omega
    · obtain rfl : k = L.length := by omega
      go_wp2_with fail
      go_ret
      exact ⟨rfl, hB⟩
--]]equal
--[[same2
set_option maxHeartbeats 2000000 in
theorem sameQ_true (h1 h2 : Nat) (lv1 mv1 lv2 mv2 : Value) (T1 T2 : TypeId) (s1 s2 : Hp) (Z1 Z2 : List It) (l : List Th) (w : World) (H1 : HV w h1 lv1 mv1 T1 s1) (R1 : Ref s1 Z1) (TR1 : TRef Z1 l) (H2 : HV w h2 lv2 mv2 T2 s2) (R2 : Ref s2 Z2) (TR2 : TRef Z2 l) (hn : l.length ≤ 16384) :
    Calls Try.prog 41 #[.pointer (some ⟨h1, 0, none⟩), .pointer (some ⟨h2, 0, none⟩)] w fun e w' => e = .returned (.bool true) ∧ Below w.heap.size w w' := by
  have L1 := Lib.hid (list_any h1 lv1 mv1 T1 s1 Z1 l w H1 R1 TR1 (by rw [← TR1.len]; exact hn))
  have L2 := Lib.hid (fun (W : World) (K : Below w.heap.size w W) => list_any h2 lv2 mv2 T2 s2 Z2 l W (H2.keep (Keeps.of_below K) (fun _ _ f => f)) R2 TR2 (by rw [← TR2.len]; exact hn))
  have b1 := lt_of_heap H1.h
  have b2 := lt_of_heap H2.h
  clear H1 R1 TR1 H2 R2 TR2
  go_enter Try.func41, Try.ntmps41
  go_wp2_with fail
  refine L1.out.mono ?_
  rintro e w1 ⟨v1, rfl, hR1, hB1, -⟩
  have HR1 := Lib.hid (And.intro hR1 hB1)
  clear hR1 hB1
  go_wp2_with fail
  refine (L2.out _ HR1.out.2).mono ?_
  rintro e w2 ⟨v2, rfl, hR2, hB2, -⟩
  have HR2 := Lib.hid (And.intro hR2 hB2)
  clear hR2 hB2
  go_wp2_with fail
  refine (equal_true v1 v2 _ w2 (HR1.out.1.below HR2.out.2) HR2.out.1 (by simpa using hn)).mono ?_
  rintro e w3 ⟨rfl, hB3⟩
  go_wp2_with fail
  go_ret
  have hB := HR1.out.2.trans (HR2.out.2.mono HR1.out.2.size)
  exact ⟨rfl, hB.trans (hB3.mono hB.size)⟩
--]]same2
theorem QM.apply1 {w0 wr : World} {hb : Nat} {lv mv : Value} {s : Hp} {Z : List It} {l : List Th} {n : Nat} (h : QM w0 hb lv mv s Z l n wr) (hn : n ≤ 1000) (v : Ev) (run : Int) {l' : List Th} {c : Int} (hl : applyL l run v = (l', c)) :
    Calls Try.prog 30 #[.pointer (some ⟨hb, 0, none⟩), .int .i64 run, .agg (evCells v)] wr (fun e w2 => e = .returned (.int .i64 c) ∧ Q1 w0 hb l' (n + 1) w2) :=
  (h.apply hn v run).mono fun e w2 ⟨lv', mv', A⟩ => by
    have h1 := A.ret
    obtain ⟨s', Z', h2⟩ := A.q
    rw [hl] at h1 h2
    exact ⟨h1, lv', mv', s', Z', h2⟩
--[[waits
set_option maxRecDepth 100000 in
set_option maxHeartbeats 4000000 in
theorem waits_true (w : World) :
    Calls Try.prog 29 #[] w fun e w' => e = .returned (.bool true) ∧ Below w.heap.size w w' := by
  have q0 := QM.zero (Below.refl w.heap.size w)
  have Q0 := Lib.hid q0
  have N0 := Lib.hid (next_none _ _ _ _ _ _ q0.hv q0.ref)
  clear q0
  go_enter Try.func29, Try.ntmps29
  go_wp2_with fail
  refine N0.out.mono ?_
  rintro e w1 ⟨rfl, hB1⟩
  have AP := Lib.hid ((Q0.out.old hB1).apply1 (by omega) ⟨1, 2, 1, 10, 0, .empty, .empty, 0, 0, .empty, none, 0, 0⟩ 3 (l' := [⟨3, 2, 0, 12⟩]) (c := 0) (by decide))
  clear hB1
  go_wp2_with fail
  refine AP.out.mono ?_
  rintro e w2 ⟨rfl, lv1, mv1, s1, Z1, q1⟩
  have AP2 := Lib.hid (q1.apply1 (by omega) ⟨2, 2, 11, 1, 7, .empty, .empty, 0, 0, .empty, none, 0, 0⟩ 3 (l' := [⟨3, 1, 1, 7⟩, ⟨3, 2, 0, 12⟩]) (c := 0) (by decide))
  clear q1
  go_wp2_with fail
  refine AP2.out.mono ?_
  rintro e w3 ⟨rfl, lv2, mv2, s2, Z2, q2⟩
  have hb2 := q2.b0
  obtain ⟨x, hx⟩ := elem_at (l := Z2) (k := 0) (by rw [← q2.tr.len]; simp)
  have hd : x.due = 7 := TRef.first q2.ref q2.tr hx (y := ⟨3, 1, 1, 7⟩) rfl
  have NX := Lib.hid (show Calls Try.prog 39 #[.pointer (some ⟨w.heap.size, 0, none⟩)] w3 fun e w' => e = .returned (.tuple #[.int .i64 7, .bool true]) ∧ Below w3.heap.size w3 w' from by
    have h := next_some x _ lv2 mv2 _ s2 Z2 w3 q2.hv q2.ref hx
    rw [hd] at h
    exact h)
  have QQ := Lib.hid q2
  clear q2 hx hd
  go_wp2_with fail
  refine NX.out.mono ?_
  rintro e w4 ⟨rfl, hB4⟩
  have q4 := QQ.out.old hB4
  have FI := Lib.hid (show Calls Try.prog 36 #[.pointer (some ⟨w.heap.size, 0, none⟩), .int .i64 12] w4 fun e w' => ∃ v, e = .returned v ∧ RowAt w' 87 v ([⟨3, 12, 12, 1⟩, ⟨3, 12, 20, 0⟩] : List Fr) ∧ Below w4.heap.size w4 w' ∧ ∀ g, v.ownBlock = some g → w4.heap.size ≤ g from by
    have h := fires_any 12 _ _ _ _ _ _ _ w4 q4.hv q4.ref q4.tr (by have := q4.len; omega)
    rw [show firesL 12 (dueTh 12 [⟨3, 1, 1, 7⟩, ⟨3, 2, 0, 12⟩]) [] = [⟨3, 12, 12, 1⟩, ⟨3, 12, 20, 0⟩] from rfl] at h
    exact h)
  have Q4 := Lib.hid q4
  clear q4 hB4
  go_wp2_with fail
  refine FI.out.mono ?_
  rintro e w5 ⟨v, rfl, hR, hB5, -⟩
  obtain ⟨a5, c5, rfl⟩ := hR.slice
  obtain ⟨g, off, rfl, hgl⟩ := hR.addr (x := ⟨3, 12, 12, 1⟩) (i := 0) rfl
  obtain ⟨⟨x0, -, -, x3, -, -⟩, -⟩ := row_fr hR (x := ⟨3, 12, 12, 1⟩) (i := 0) rfl
  obtain ⟨⟨-, -, -, y3, -, -⟩, -⟩ := row_fr hR (x := ⟨3, 12, 20, 0⟩) (i := 1) rfl
  simp only [Nat.zero_mul, Nat.one_mul, Nat.add_zero] at x0 x3 y3
  have Q5 := Lib.hid (Q4.out.old hB5)
  have OP := Lib.hid (fun (id : Int) (r : Bool) (W : World) (K : Below w5.heap.size w5 W) (hr : ([⟨3, 1, 1, 7⟩, ⟨3, 2, 0, 12⟩] : List Th).any (fun y => decide (y.key = ⟨3, 1, id⟩)) = r) => open_any 3 id r _ _ _ _ _ _ W (Q5.out.old K).hv (Q5.out.old K).ref (((Q5.out.old K).tr.any _).symm.trans hr))
  have LN := Lib.hid (fun (W : World) (K : Below w5.heap.size w5 W) => show Calls Try.prog 15 #[.pointer (some ⟨w.heap.size, 0, none⟩)] W fun e w' => e = .returned (.int .i64 2) ∧ W = w' from by
    have q := Q5.out.old K
    have h := len_any _ _ _ _ _ W q.hv
    rw [← q.ref.len, ← q.tr.len] at h
    exact h)
  have SQ := Lib.hid (fun (W : World) (K : Below w5.heap.size w5 W) => sameQ_true _ _ _ _ _ _ _ _ _ _ _ _ _ W (Q5.out.old K).hv (Q5.out.old K).ref (Q5.out.old K).tr (Q5.out.old K).hv (Q5.out.old K).ref (Q5.out.old K).tr (by simp))
  have LI := Lib.hid (fun (W : World) (K : Below w5.heap.size w5 W) => list_any _ _ _ _ _ _ _ W (Q5.out.old K).hv (Q5.out.old K).ref (Q5.out.old K).tr (by have := (Q5.out.old K).len; omega))
  clear hR hB5
  go_wp2_with fail
  refine (OP.out 1 true _ (Below.refl _ _) (by decide)).mono ?_
  rintro e w6 ⟨rfl, hB6⟩
  have H6 := Lib.hid hB6
  clear hB6
  go_wp2_with fail
  refine (OP.out 2 false _ H6.out (by decide)).mono ?_
  rintro e w7 ⟨rfl, hB7⟩
  have H7 := Lib.hid (H6.out.trans (hB7.mono H6.out.size))
  clear hB7
  go_wp2_with fail
  refine (LN.out _ H7.out).mono ?_
  rintro e w8 ⟨rfl, rfl⟩
  go_wp2_with fail
  refine (SQ.out _ H7.out).mono ?_
  rintro e w9 ⟨rfl, hB9⟩
  have H9 := Lib.hid (H7.out.trans (hB9.mono H7.out.size))
  clear hB9
  go_wp2_with fail
  refine (LI.out _ H9.out).mono ?_
  rintro e w10 ⟨v10, rfl, hR10, hB10, -⟩
  obtain ⟨a10, c10, rfl⟩ := hR10.slice
  have H10 := Lib.hid (H9.out.trans (hB10.mono H9.out.size))
  clear hB10 hR10
  go_wp2_with fail
  go_ret
  exact ⟨rfl, Q5.out.below.trans (H10.out.mono Q5.out.below.size)⟩
--]]waits
end Go.Proofs.Ytkhphnidopbjjaa
