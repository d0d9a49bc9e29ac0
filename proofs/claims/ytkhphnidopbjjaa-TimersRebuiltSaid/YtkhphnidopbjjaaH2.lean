/- The heap's inner functions, walked: up, down. -/
import Derived.Test.YtkhphnidopbjjaaH1
namespace Go.Proofs.Ytkhphnidopbjjaa
open Go.RowKit Go.Own Go.Own.MapTy Go.Hm

theorem HX.facts {w : World} {hb g off cap mb : Nat} {T : TypeId} {s : Hp} (H : HX w hb g off cap mb T s) :
    w.cell? ⟨hb, 0, none⟩ = some (.slice (some ⟨g, off, none⟩) s.L.length cap) ∧ w.cell? ⟨hb, 1, none⟩ = some (.map (some mb)) ∧ w.cell? ⟨hb, 2, none⟩ = some (.int .u64 s.seq) ∧
    hb < w.heap.size ∧ g < w.heap.size ∧ mb < w.heap.size ∧ s.L.length ≤ 9223372036854775807 :=
  ⟨by rw [cell_of_heap H.h]; rfl, by rw [cell_of_heap H.h]; rfl, by rw [cell_of_heap H.h]; rfl, lt_of_heap H.h, H.row.lt rfl, H.map.lt, by have := H.row.length_le; unfold maxLen at this; omega⟩

/-- the item x in a block of its own -/
def ItAt (w : World) (b : Nat) (x : It) : Prop := ∃ T, w.heap[b]? = some (.cells #[.int .i64 x.run, .int .i64 x.kind, .int .i64 x.id, .int .i64 x.due, .int .u64 x.seq] T (0, 0))
theorem ItAt.facts {w : World} {b : Nat} {x : It} (h : ItAt w b x) :
    w.cell? ⟨b, 0, none⟩ = some (.int .i64 x.run) ∧ w.cell? ⟨b, 1, none⟩ = some (.int .i64 x.kind) ∧ w.cell? ⟨b, 2, none⟩ = some (.int .i64 x.id) ∧ w.cell? ⟨b, 3, none⟩ = some (.int .i64 x.due) ∧ w.cell? ⟨b, 4, none⟩ = some (.int .u64 x.seq) ∧ b < w.heap.size := by
  obtain ⟨T, h⟩ := h
  exact ⟨by rw [cell_of_heap h]; rfl, by rw [cell_of_heap h]; rfl, by rw [cell_of_heap h]; rfl, by rw [cell_of_heap h]; rfl, by rw [cell_of_heap h]; rfl, lt_of_heap h⟩
theorem ItAt.keep {w w' : World} {b : Nat} {x : It} {S : Nat → Prop} (h : ItAt w b x) (k : Keeps S w w') (hb : ¬ S b) : ItAt w' b x := by
  obtain ⟨T, h⟩ := h
  exact ⟨T, by rw [k.block b (lt_of_heap h) hb]; exact h⟩

def UpRel (w : World) (hb g off cap mb : Nat) (T : TypeId) (s : Hp) (i : Nat) (x : It) (v : Value) (wr : World) : Prop :=
  ∃ (k : Nat) (s' : Hp) (f : Nat), v = .int .i64 k ∧ k < s.L.length ∧ k ≤ f ∧ Hp.up f s' k x = Hp.up i s i x ∧ s'.L.length = s.L.length ∧ HX wr hb g off cap mb T s' ∧ Keeps (fun j => j = g ∨ j = mb) w wr ∧ ItAt wr w.heap.size x

set_option maxHeartbeats 1000000 in
theorem up_any (x : It) (i hb g off cap mb : Nat) (T : TypeId) (s : Hp) (w : World) (H : HX w hb g off cap mb T s) (hx : s.L[i]? = some x) :
    Calls Try.prog 42 #[.pointer (some ⟨hb, 0, none⟩), .int .i64 i] w fun e w' =>
      e = .returned (.tuple #[]) ∧ HX w' hb g off cap mb T (Hp.up i s i x) ∧ Keeps (fun j => j = g ∨ j = mb) w w' := by
  have hi : i < s.L.length := (List.getElem?_eq_some_iff.1 hx).1
  obtain ⟨c0, c1, c2, b0, b1, b2, hn⟩ := H.facts
  obtain ⟨e0, e1, e2, e3, e4⟩ := row_cells H.row hx
  clear c2
  have B1 := b1
  have B2 := b2
  have HX0 := Lib.hid hx
  clear hx
  go_enter Try.func42, Try.ntmps42
  go_wp2
  go_loopw [1] (UpRel w hb g off cap mb T s i x) (fun v _ => (intOf v).toNat)
  case atStart =>
    have kb : Keeps (fun _ => False) w (w.alloc (.cells #[.int .i64 x.run, .int .i64 x.kind, .int .i64 x.id, .int .i64 x.due, .int .u64 x.seq] 35)) := (Keeps.refl _ w).alloc _
    exact ⟨i, s, i, rfl, hi, Nat.le_refl _, rfl, rfl, H.keep kb (fun h => h) (fun h => h) (fun h => h), kb.mono (fun _ _ h => h.elim), ⟨_, heap_alloc_new w _⟩⟩
  case round => 
    clear c0 c1 b0 b1 b2 e0 e1 e2 e3 e4
    obtain ⟨k, s', f, rfl, hk, hkf, hup, hlen, H', hK, hX⟩ := hrel
    obtain ⟨c0, c1, c2, b0, b1, b2, hn'⟩ := H'.facts
    clear c2
    obtain ⟨x0, x1, x2, x3, x4, xb⟩ := hX.facts
    have UP := Lib.hid hup
    have LEN := Lib.hid hlen
    clear hup hlen
    by_cases hk0 : 0 < k
    · obtain ⟨p, hp, hpk⟩ : ∃ p : Nat, p = (k - 1) / 2 ∧ p < k := ⟨(k - 1) / 2, rfl, by omega⟩
      have hpI : ((k : Int) - 1) / 2 = (p : Int) := by omega
      have HP := Lib.hid hp
      clear hp
      have hpl : p < s'.L.length := by have := LEN.out; omega
      have hy : s'.L[p]? = some s'.L[p] := by simp [hpl]
      generalize s'.L[p] = y at hy
      obtain ⟨y0, y1, y2, y3, y4⟩ := row_cells H'.row hy
      have HY := Lib.hid hy
      clear hy
      go_wp2
      go_region_held3 (fun W => W.cell? ⟨hb, 0, none⟩ = some (.slice (some ⟨g, off, none⟩) s'.L.length cap) ∧ W.cell? ⟨g, off + p * 5, none⟩ = some (.int .i64 y.run) ∧ W.cell? ⟨g, off + p * 5 + 1, none⟩ = some (.int .i64 y.kind) ∧
          W.cell? ⟨g, off + p * 5 + 2, none⟩ = some (.int .i64 y.id) ∧ W.cell? ⟨g, off + p * 5 + 3, none⟩ = some (.int .i64 y.due) ∧ W.cell? ⟨g, off + p * 5 + 4, none⟩ = some (.int .u64 y.seq) ∧
          W.cell? ⟨w.heap.size, 0, none⟩ = some (.int .i64 x.run) ∧ W.cell? ⟨w.heap.size, 1, none⟩ = some (.int .i64 x.kind) ∧ W.cell? ⟨w.heap.size, 2, none⟩ = some (.int .i64 x.id) ∧ W.cell? ⟨w.heap.size, 3, none⟩ = some (.int .i64 x.due) ∧ W.cell? ⟨w.heap.size, 4, none⟩ = some (.int .u64 x.seq))
        (first | exact ⟨c0, y0, y1, y2, y3, y4, x0, x1, x2, x3, x4⟩ | exact ⟨(hb1.cell b0).trans c0, (hb1.cell b1).trans y0, (hb1.cell b1).trans y1, (hb1.cell b1).trans y2, (hb1.cell b1).trans y3, (hb1.cell b1).trans y4, (hb1.cell xb).trans x0, (hb1.cell xb).trans x1, (hb1.cell xb).trans x2, (hb1.cell xb).trans x3, (hb1.cell xb).trans x4⟩)
        ((go_at_call 44; refine (compare_any y x _).mono ?_; rintro e w1 ⟨rfl, hb1⟩))
      have kb : Keeps (fun _ => False) wr w1 := (Keeps.refl _ wr).drew.comp (Keeps.of_below hb1)
      have H1 := H'.keep kb (fun h => h) (fun h => h) (fun h => h)
      have X1 := hX.keep kb (fun h => h)
      have K1 : Keeps (fun j => j = g ∨ j = mb) w w1 := hK.trans kb (fun _ _ h => h.elim)
      clear kb hb1 c0 c1 b0 b1 b2 x0 x1 x2 x3 x4 xb y0 y1 y2 y3 y4 H' hX hK
      obtain ⟨c0, c1, c2, b0, b1, b2, hn'⟩ := H1.facts
      clear c2
      obtain ⟨x0, x1, x2, x3, x4, xb⟩ := X1.facts
      obtain ⟨y0, y1, y2, y3, y4⟩ := row_cells H1.row HY.out
      by_cases hc : cmpIt y x ≤ 0
      · go_wp2_with (go_at_call 55; refine (set_any x k hb g off cap mb T s' _ H1 (by have := LEN.out; omega)).mono ?_; rintro e w2 ⟨rfl, hH, hK1⟩)
        go_end0
        exact ⟨rfl, by rw [← UP.out, up_stop (HP.out ▸ HY.out) hc]; exact hH, K1.comp hK1⟩
      · go_wp2_with (go_at_call 55; refine (set_any y k hb g off cap mb T s' _ H1 (by have := LEN.out; omega)).mono ?_; rintro e w2 ⟨rfl, hH, hK1⟩)
        go_roundw
        case rel =>
          have hu := UP.out
          have hl := LEN.out
          have hpp := HP.out
          subst hpp
          rw [up_go HY.out (by omega) hk0 hkf] at hu
          exact ⟨(k - 1) / 2, s'.set k y, f - 1, rfl, by omega, by omega, hu, by rw [set_len]; exact hl, hH, K1.comp hK1, X1.keep hK1 (by rintro (h | h) <;> omega)⟩
        case measure => simp [intOf]; omega
    · go_wp2_with (go_at_call 55; refine (set_any x k hb g off cap mb T s' _ H' (by have := LEN.out; omega)).mono ?_; rintro e w1 ⟨rfl, hH, hK1⟩)
      go_end0
      have hk0' : k = 0 := by omega
      subst hk0'
      exact ⟨rfl, by rw [← UP.out, up_zero]; exact hH, hK.comp hK1⟩

def DownRel (w : World) (hb g off cap mb : Nat) (T : TypeId) (s : Hp) (i : Nat) (x : It) (v : Value) (wr : World) : Prop :=
  ∃ (k : Nat) (s' : Hp) (f : Nat), v = .int .i64 k ∧ k < s.L.length ∧ s.L.length ≤ f + k ∧ Hp.down f s' k x = Hp.down s.L.length s i x ∧ s'.L.length = s.L.length ∧ HX wr hb g off cap mb T s' ∧ Keeps (fun j => j = g ∨ j = mb) w wr ∧ ItAt wr w.heap.size x

set_option maxHeartbeats 2000000 in
theorem down_any (x : It) (i hb g off cap mb : Nat) (T : TypeId) (s : Hp) (w : World) (H : HX w hb g off cap mb T s) (hx : s.L[i]? = some x) (hcap : s.L.length ≤ 16384) :
    Calls Try.prog 56 #[.pointer (some ⟨hb, 0, none⟩), .int .i64 i] w fun e w' =>
      e = .returned (.tuple #[]) ∧ HX w' hb g off cap mb T (Hp.down s.L.length s i x) ∧ Keeps (fun j => j = g ∨ j = mb) w w' := by
  have hi : i < s.L.length := (List.getElem?_eq_some_iff.1 hx).1
  obtain ⟨c0, c1, c2, b0, b1, b2, hn⟩ := H.facts
  obtain ⟨e0, e1, e2, e3, e4⟩ := row_cells H.row hx
  have hnn : s.L.length * 2 ≤ 9223372036854775807 := by omega
  clear c2
  have B1 := b1
  have B2 := b2
  have HX0 := Lib.hid hx
  clear hx
  go_enter Try.func56, Try.ntmps56
  go_wp2
  go_loopw [1] (DownRel w hb g off cap mb T s i x) (fun v _ => s.L.length - (intOf v).toNat)
  case atStart =>
    have kb : Keeps (fun _ => False) w (w.alloc (.cells #[.int .i64 x.run, .int .i64 x.kind, .int .i64 x.id, .int .i64 x.due, .int .u64 x.seq] 35)) := (Keeps.refl _ w).alloc _
    exact ⟨i, s, s.L.length, rfl, hi, by omega, rfl, rfl, H.keep kb (fun h => h) (fun h => h) (fun h => h), kb.mono (fun _ _ h => h.elim), ⟨_, heap_alloc_new w _⟩⟩
  case round =>
    clear c0 c1 b0 b1 b2 e0 e1 e2 e3 e4
    obtain ⟨k, s', f, rfl, hk, hkf, hdn, hlen, H', hK, hX⟩ := hrel
    obtain ⟨c0, c1, c2, b0, b1, b2, hn'⟩ := H'.facts
    clear c2
    have DN := Lib.hid hdn
    have LEN := Lib.hid hlen
    clear hdn hlen
    have hln : s'.L.length * 2 ≤ 9223372036854775807 := by have := LEN.out; omega
    have hkl : k < s'.L.length := by have := LEN.out; omega
    by_cases hend : s'.L.length ≤ 2 * k + 1
    · obtain ⟨x0, x1, x2, x3, x4, xb⟩ := hX.facts
      go_wp2_with (go_at_call 55; refine (set_any x k hb g off cap mb T s' _ H' hkl).mono ?_; rintro e w1 ⟨rfl, hH, hK1⟩)
      go_end0
      exact ⟨rfl, by rw [← DN.out, down_end hend]; exact hH, hK.comp hK1⟩
    have hc0 : 2 * k + 1 < s'.L.length := by omega
    have ha : s'.L[2 * k + 1]? = some s'.L[2 * k + 1] := by simp [hc0]
    generalize s'.L[2 * k + 1] = ya at ha
    by_cases h2 : 2 * k + 1 + 1 < s'.L.length
    · have hbb : s'.L[2 * k + 1 + 1]? = some s'.L[2 * k + 1 + 1] := by simp [h2]
      generalize s'.L[2 * k + 1 + 1] = yb at hbb
      obtain ⟨d, hd⟩ : ∃ d : Nat, d = 2 * k + 1 := ⟨_, rfl⟩
      have hdI : (2 : Int) * (k : Int) + 1 = (d : Int) := by omega
      rw [← hd] at ha hbb
      have hd0 : d < s'.L.length := by omega
      have hd1 : d + 1 < s'.L.length := by omega
      have hdk : k < d := by omega
      have HD := Lib.hid hd
      clear hd h2 hend hc0
      obtain ⟨p0, p1, p2, p3, p4⟩ := row_cells H'.row ha
      obtain ⟨q0, q1, q2, q3, q4⟩ := row_cells H'.row hbb
      have HA := Lib.hid ha
      have HB := Lib.hid hbb
      clear ha hbb
      have t0 : (0 : Int) ≤ (d : Int) := by omega
      have t1 : (d : Int) < (s'.L.length : Int) := by omega
      have t2 : (0 : Int) ≤ (d : Int) + 1 := by omega
      have t3 : (d : Int) + 1 < (s'.L.length : Int) := by omega
      have t4 : ((d : Int) + 1).toNat = d + 1 := by omega
      have t5 : IntKind.i64.wrap ((d : Int) + 1) = (d : Int) + 1 := IntWalk.i64_in _ (by omega)
      go_wp2_with fail
      go_region_held3 (fun W => W.cell? ⟨hb, 0, none⟩ = some (.slice (some ⟨g, off, none⟩) s'.L.length cap) ∧
          W.cell? ⟨g, off + d * 5, none⟩ = some (.int .i64 ya.run) ∧ W.cell? ⟨g, off + d * 5 + 1, none⟩ = some (.int .i64 ya.kind) ∧ W.cell? ⟨g, off + d * 5 + 2, none⟩ = some (.int .i64 ya.id) ∧ W.cell? ⟨g, off + d * 5 + 3, none⟩ = some (.int .i64 ya.due) ∧ W.cell? ⟨g, off + d * 5 + 4, none⟩ = some (.int .u64 ya.seq) ∧
          W.cell? ⟨g, off + (d + 1) * 5, none⟩ = some (.int .i64 yb.run) ∧ W.cell? ⟨g, off + (d + 1) * 5 + 1, none⟩ = some (.int .i64 yb.kind) ∧ W.cell? ⟨g, off + (d + 1) * 5 + 2, none⟩ = some (.int .i64 yb.id) ∧ W.cell? ⟨g, off + (d + 1) * 5 + 3, none⟩ = some (.int .i64 yb.due) ∧ W.cell? ⟨g, off + (d + 1) * 5 + 4, none⟩ = some (.int .u64 yb.seq))
        (first | exact ⟨c0, p0, p1, p2, p3, p4, q0, q1, q2, q3, q4⟩ | exact ⟨(hb1.cell b0).trans c0, (hb1.cell b1).trans p0, (hb1.cell b1).trans p1, (hb1.cell b1).trans p2, (hb1.cell b1).trans p3, (hb1.cell b1).trans p4, (hb1.cell b1).trans q0, (hb1.cell b1).trans q1, (hb1.cell b1).trans q2, (hb1.cell b1).trans q3, (hb1.cell b1).trans q4⟩)
        ((go_at_call 44; refine (compare_any yb ya _).mono ?_; rintro e w1 ⟨rfl, hb1⟩))
      have kb : Keeps (fun _ => False) wr w1 := (Keeps.refl _ wr).drew.comp (Keeps.of_below hb1)
      have H1 := H'.keep kb (fun h => h) (fun h => h) (fun h => h)
      have X1 := hX.keep kb (fun h => h)
      have K1 : Keeps (fun j => j = g ∨ j = mb) w w1 := hK.trans kb (fun _ _ h => h.elim)
      clear kb hb1 c0 c1 b0 b1 b2 p0 p1 p2 p3 p4 q0 q1 q2 q3 q4 H' hX hK
      by_cases hlt : cmpIt yb ya < 0
      · obtain ⟨c, hcd⟩ : ∃ c : Nat, c = d + 1 := ⟨_, rfl⟩
        have HC : Hid (s'.kid k = c) := by
          have h1 := HD.out; have h2 := HA.out; have h3 := HB.out
          subst h1; subst hcd
          exact kid_right h2 h3 hlt
        have HY : Hid (s'.L[c]? = some yb) := by have h3 := HB.out; subst hcd; exact h3
        have hcI : (d : Int) + 1 = (c : Int) := by omega
        have hcl : c < s'.L.length := by omega
        have hck : k < c := by omega
        clear t0 t1 t2 t3 t4 t5 hdI
        have HCD := Lib.hid hcd
        clear hcd
        go_wp2_with fail
        obtain ⟨c0, c1, c2, b0, b1, b2, hn'⟩ := H1.facts
        clear c2
        obtain ⟨x0, x1, x2, x3, x4, xb⟩ := X1.facts
        obtain ⟨y0, y1, y2, y3, y4⟩ := row_cells H1.row HY.out
        go_region_held3 (fun W => W.cell? ⟨hb, 0, none⟩ = some (.slice (some ⟨g, off, none⟩) s'.L.length cap) ∧ W.cell? ⟨g, off + c * 5, none⟩ = some (.int .i64 yb.run) ∧ W.cell? ⟨g, off + c * 5 + 1, none⟩ = some (.int .i64 yb.kind) ∧
            W.cell? ⟨g, off + c * 5 + 2, none⟩ = some (.int .i64 yb.id) ∧ W.cell? ⟨g, off + c * 5 + 3, none⟩ = some (.int .i64 yb.due) ∧ W.cell? ⟨g, off + c * 5 + 4, none⟩ = some (.int .u64 yb.seq) ∧
            W.cell? ⟨w.heap.size, 0, none⟩ = some (.int .i64 x.run) ∧ W.cell? ⟨w.heap.size, 1, none⟩ = some (.int .i64 x.kind) ∧ W.cell? ⟨w.heap.size, 2, none⟩ = some (.int .i64 x.id) ∧ W.cell? ⟨w.heap.size, 3, none⟩ = some (.int .i64 x.due) ∧ W.cell? ⟨w.heap.size, 4, none⟩ = some (.int .u64 x.seq))
          (first | exact ⟨c0, y0, y1, y2, y3, y4, x0, x1, x2, x3, x4⟩ | exact ⟨(hb1.cell b0).trans c0, (hb1.cell b1).trans y0, (hb1.cell b1).trans y1, (hb1.cell b1).trans y2, (hb1.cell b1).trans y3, (hb1.cell b1).trans y4, (hb1.cell xb).trans x0, (hb1.cell xb).trans x1, (hb1.cell xb).trans x2, (hb1.cell xb).trans x3, (hb1.cell xb).trans x4⟩)
          ((go_at_call 44; refine (compare_any x yb _).mono ?_; rintro e w2 ⟨rfl, hb1⟩))
        have kb : Keeps (fun _ => False) w1 w2 := (Keeps.refl _ w1).drew.comp (Keeps.of_below hb1)
        have H2 := H1.keep kb (fun h => h) (fun h => h) (fun h => h)
        have X2 := X1.keep kb (fun h => h)
        have K2 : Keeps (fun j => j = g ∨ j = mb) w w2 := K1.trans kb (fun _ _ h => h.elim)
        clear kb hb1 c0 c1 b0 b1 b2 x0 x1 x2 x3 x4 xb y0 y1 y2 y3 y4 H1 X1 K1
        obtain ⟨c0, c1, c2, b0, b1, b2, hn'⟩ := H2.facts
        clear c2
        obtain ⟨x0, x1, x2, x3, x4, xb⟩ := X2.facts
        obtain ⟨y0, y1, y2, y3, y4⟩ := row_cells H2.row HY.out
        by_cases hc : cmpIt x yb ≤ 0
        · go_wp2_with (go_at_call 55; refine (set_any x k hb g off cap mb T s' _ H2 (by have := LEN.out; omega)).mono ?_; rintro e w3 ⟨rfl, hH, hK1⟩)
          go_end0
          exact ⟨rfl, by rw [← DN.out, down_stop HC.out HY.out hc]; exact hH, K2.comp hK1⟩
        · go_wp2_with (go_at_call 55; refine (set_any yb k hb g off cap mb T s' _ H2 (by have := LEN.out; omega)).mono ?_; rintro e w3 ⟨rfl, hH, hK1⟩)
          go_roundw
          case rel =>
            have hdd := HD.out
            have hu := DN.out
            have hl := LEN.out
            rw [down_go (by omega) HC.out HY.out (by omega) (by omega)] at hu
            have hcl := (List.getElem?_eq_some_iff.1 HY.out).1
            exact ⟨c, s'.set k yb, f - 1, rfl, by omega, by omega, hu, by rw [set_len]; exact hl, hH, K2.comp hK1, X2.keep hK1 (by rintro (h | h) <;> omega)⟩
          case measure => simp [intOf]; omega
      · obtain ⟨c, hcd⟩ : ∃ c : Nat, c = d := ⟨_, rfl⟩
        subst hcd
        have HC : Hid (s'.kid k = c) := by
          have h1 := HD.out; have h2 := HA.out; have h3 := HB.out
          subst h1
          exact kid_left h2 h3 hlt
        have HY := HA
        have hcl : c < s'.L.length := by omega
        have hck : k < c := by omega
        clear t0 t1 t2 t3 t4 t5 hdI
        go_wp2_with fail
        obtain ⟨c0, c1, c2, b0, b1, b2, hn'⟩ := H1.facts
        clear c2
        obtain ⟨x0, x1, x2, x3, x4, xb⟩ := X1.facts
        obtain ⟨y0, y1, y2, y3, y4⟩ := row_cells H1.row HY.out
        go_region_held3 (fun W => W.cell? ⟨hb, 0, none⟩ = some (.slice (some ⟨g, off, none⟩) s'.L.length cap) ∧ W.cell? ⟨g, off + c * 5, none⟩ = some (.int .i64 ya.run) ∧ W.cell? ⟨g, off + c * 5 + 1, none⟩ = some (.int .i64 ya.kind) ∧
            W.cell? ⟨g, off + c * 5 + 2, none⟩ = some (.int .i64 ya.id) ∧ W.cell? ⟨g, off + c * 5 + 3, none⟩ = some (.int .i64 ya.due) ∧ W.cell? ⟨g, off + c * 5 + 4, none⟩ = some (.int .u64 ya.seq) ∧
            W.cell? ⟨w.heap.size, 0, none⟩ = some (.int .i64 x.run) ∧ W.cell? ⟨w.heap.size, 1, none⟩ = some (.int .i64 x.kind) ∧ W.cell? ⟨w.heap.size, 2, none⟩ = some (.int .i64 x.id) ∧ W.cell? ⟨w.heap.size, 3, none⟩ = some (.int .i64 x.due) ∧ W.cell? ⟨w.heap.size, 4, none⟩ = some (.int .u64 x.seq))
          (first | exact ⟨c0, y0, y1, y2, y3, y4, x0, x1, x2, x3, x4⟩ | exact ⟨(hb1.cell b0).trans c0, (hb1.cell b1).trans y0, (hb1.cell b1).trans y1, (hb1.cell b1).trans y2, (hb1.cell b1).trans y3, (hb1.cell b1).trans y4, (hb1.cell xb).trans x0, (hb1.cell xb).trans x1, (hb1.cell xb).trans x2, (hb1.cell xb).trans x3, (hb1.cell xb).trans x4⟩)
          ((go_at_call 44; refine (compare_any x ya _).mono ?_; rintro e w2 ⟨rfl, hb1⟩))
        have kb : Keeps (fun _ => False) w1 w2 := (Keeps.refl _ w1).drew.comp (Keeps.of_below hb1)
        have H2 := H1.keep kb (fun h => h) (fun h => h) (fun h => h)
        have X2 := X1.keep kb (fun h => h)
        have K2 : Keeps (fun j => j = g ∨ j = mb) w w2 := K1.trans kb (fun _ _ h => h.elim)
        clear kb hb1 c0 c1 b0 b1 b2 x0 x1 x2 x3 x4 xb y0 y1 y2 y3 y4 H1 X1 K1
        obtain ⟨c0, c1, c2, b0, b1, b2, hn'⟩ := H2.facts
        clear c2
        obtain ⟨x0, x1, x2, x3, x4, xb⟩ := X2.facts
        obtain ⟨y0, y1, y2, y3, y4⟩ := row_cells H2.row HY.out
        by_cases hc : cmpIt x ya ≤ 0
        · go_wp2_with (go_at_call 55; refine (set_any x k hb g off cap mb T s' _ H2 (by have := LEN.out; omega)).mono ?_; rintro e w3 ⟨rfl, hH, hK1⟩)
          go_end0
          exact ⟨rfl, by rw [← DN.out, down_stop HC.out HY.out hc]; exact hH, K2.comp hK1⟩
        · go_wp2_with (go_at_call 55; refine (set_any ya k hb g off cap mb T s' _ H2 (by have := LEN.out; omega)).mono ?_; rintro e w3 ⟨rfl, hH, hK1⟩)
          go_roundw
          case rel =>
            have hdd := HD.out
            have hu := DN.out
            have hl := LEN.out
            rw [down_go (by omega) HC.out HY.out (by omega) (by omega)] at hu
            have hcl := (List.getElem?_eq_some_iff.1 HY.out).1
            exact ⟨c, s'.set k ya, f - 1, rfl, by omega, by omega, hu, by rw [set_len]; exact hl, hH, K2.comp hK1, X2.keep hK1 (by rintro (h | h) <;> omega)⟩
          case measure => simp [intOf]; omega
    · obtain ⟨c, hd⟩ : ∃ d : Nat, d = 2 * k + 1 := ⟨_, rfl⟩
      have hdI : (2 : Int) * (k : Int) + 1 = (c : Int) := by omega
      have HC : Hid (s'.kid k = c) := by rw [hd]; exact kid_one h2
      rw [← hd] at ha
      have HY := Lib.hid ha
      have hcl : c < s'.L.length := by omega
      have hck : k < c := by omega
      have HD := Lib.hid hd
      have t3 : decide ((c : Int) + 1 < (s'.L.length : Int)) = false := decide_eq_false (by omega)
      have t5 : IntKind.i64.wrap ((c : Int) + 1) = (c : Int) + 1 := IntWalk.i64_in _ (by omega)
      clear hd ha h2 hend hc0
      go_wp2_with fail
      go_quiet (fail)
      clear t3 t5
      have kb : Keeps (fun _ => False) wr (wr.drewN nq) := (Keeps.refl _ wr).drewN nq
      have H1 := H'.keep kb (fun h => h) (fun h => h) (fun h => h)
      have X1 := hX.keep kb (fun h => h)
      have K1 : Keeps (fun j => j = g ∨ j = mb) w (wr.drewN nq) := hK.drewN nq
      clear kb c0 c1 b0 b1 b2 H' hX hK
      generalize wr.drewN nq = w1 at *
      go_wp2_with fail
      obtain ⟨c0, c1, c2, b0, b1, b2, hn'⟩ := H1.facts
      clear c2
      obtain ⟨x0, x1, x2, x3, x4, xb⟩ := X1.facts
      obtain ⟨y0, y1, y2, y3, y4⟩ := row_cells H1.row HY.out
      go_region_held3 (fun W => W.cell? ⟨hb, 0, none⟩ = some (.slice (some ⟨g, off, none⟩) s'.L.length cap) ∧ W.cell? ⟨g, off + c * 5, none⟩ = some (.int .i64 ya.run) ∧ W.cell? ⟨g, off + c * 5 + 1, none⟩ = some (.int .i64 ya.kind) ∧
          W.cell? ⟨g, off + c * 5 + 2, none⟩ = some (.int .i64 ya.id) ∧ W.cell? ⟨g, off + c * 5 + 3, none⟩ = some (.int .i64 ya.due) ∧ W.cell? ⟨g, off + c * 5 + 4, none⟩ = some (.int .u64 ya.seq) ∧
          W.cell? ⟨w.heap.size, 0, none⟩ = some (.int .i64 x.run) ∧ W.cell? ⟨w.heap.size, 1, none⟩ = some (.int .i64 x.kind) ∧ W.cell? ⟨w.heap.size, 2, none⟩ = some (.int .i64 x.id) ∧ W.cell? ⟨w.heap.size, 3, none⟩ = some (.int .i64 x.due) ∧ W.cell? ⟨w.heap.size, 4, none⟩ = some (.int .u64 x.seq))
        (first | exact ⟨c0, y0, y1, y2, y3, y4, x0, x1, x2, x3, x4⟩ | exact ⟨(hb1.cell b0).trans c0, (hb1.cell b1).trans y0, (hb1.cell b1).trans y1, (hb1.cell b1).trans y2, (hb1.cell b1).trans y3, (hb1.cell b1).trans y4, (hb1.cell xb).trans x0, (hb1.cell xb).trans x1, (hb1.cell xb).trans x2, (hb1.cell xb).trans x3, (hb1.cell xb).trans x4⟩)
        ((go_at_call 44; refine (compare_any x ya _).mono ?_; rintro e w2 ⟨rfl, hb1⟩))
      have kb : Keeps (fun _ => False) w1 w2 := (Keeps.refl _ w1).drew.comp (Keeps.of_below hb1)
      have H2 := H1.keep kb (fun h => h) (fun h => h) (fun h => h)
      have X2 := X1.keep kb (fun h => h)
      have K2 : Keeps (fun j => j = g ∨ j = mb) w w2 := K1.trans kb (fun _ _ h => h.elim)
      clear kb hb1 c0 c1 b0 b1 b2 x0 x1 x2 x3 x4 xb y0 y1 y2 y3 y4 H1 X1 K1
      obtain ⟨c0, c1, c2, b0, b1, b2, hn'⟩ := H2.facts
      clear c2
      obtain ⟨x0, x1, x2, x3, x4, xb⟩ := X2.facts
      obtain ⟨y0, y1, y2, y3, y4⟩ := row_cells H2.row HY.out
      by_cases hc : cmpIt x ya ≤ 0
      · go_wp2_with (go_at_call 55; refine (set_any x k hb g off cap mb T s' _ H2 (by have := LEN.out; omega)).mono ?_; rintro e w3 ⟨rfl, hH, hK1⟩)
        go_end0
        exact ⟨rfl, by rw [← DN.out, down_stop HC.out HY.out hc]; exact hH, K2.comp hK1⟩
      · go_wp2_with (go_at_call 55; refine (set_any ya k hb g off cap mb T s' _ H2 (by have := LEN.out; omega)).mono ?_; rintro e w3 ⟨rfl, hH, hK1⟩)
        go_roundw
        case rel =>
          have hdd := HD.out
          have hu := DN.out
          have hl := LEN.out
          rw [down_go (by omega) HC.out HY.out (by omega) (by omega)] at hu
          have hcl := (List.getElem?_eq_some_iff.1 HY.out).1
          exact ⟨c, s'.set k ya, f - 1, rfl, by omega, by omega, hu, by rw [set_len]; exact hl, hH, K2.comp hK1, X2.keep hK1 (by rintro (h | h) <;> omega)⟩
        case measure => simp [intOf]; omega
end Go.Proofs.Ytkhphnidopbjjaa
