/- The heap's methods, walked: Len, Top, Pop, Get, Cancel. -/
import Derived.Test.YtkhphnidopbjjaaH4
namespace Go.Proofs.Ytkhphnidopbjjaa
open Go.RowKit Go.Own Go.Own.MapTy Go.Hm
open Go.Own.Cells (sz enc)

theorem HV.facts {w : World} {hb : Nat} {lv mv : Value} {T : TypeId} {s : Hp} (H : HV w hb lv mv T s) :
    w.cell? ⟨hb, 0, none⟩ = some lv ∧ w.cell? ⟨hb, 1, none⟩ = some mv ∧ hb < w.heap.size ∧ s.L.length ≤ 9223372036854775807 :=
  ⟨by rw [cell_of_heap H.h]; rfl, by rw [cell_of_heap H.h]; rfl, lt_of_heap H.h, by have := H.row.length_le; unfold maxLen at this; omega⟩

set_option maxHeartbeats 400000 in
theorem len_any (hb : Nat) (lv mv : Value) (T : TypeId) (s : Hp) (w : World) (H : HV w hb lv mv T s) :
    Calls Try.prog 15 #[.pointer (some ⟨hb, 0, none⟩)] w fun e w' => e = .returned (.int .i64 s.L.length) ∧ w = w' := by
  obtain ⟨a, cap, rfl⟩ := H.row.slice
  obtain ⟨c0, c1, b0, hn⟩ := H.facts
  clear c1
  go_enter Try.func15, Try.ntmps15
  go_wp2
  go_ret
  exact ⟨rfl, rfl⟩

set_option maxHeartbeats 400000 in
theorem top_none (hb : Nat) (lv mv : Value) (T : TypeId) (s : Hp) (w : World) (H : HV w hb lv mv T s) (hs : s.L = []) :
    Calls Try.prog 25 #[.pointer (some ⟨hb, 0, none⟩)] w fun e w' => e = .returned (.tuple #[.agg #[.int .i64 0, .int .i64 0, .int .i64 0, .int .i64 0, .int .u64 0], .bool false]) ∧ Below w.heap.size w w' := by
  obtain ⟨a, cap, rfl⟩ := H.row.slice
  obtain ⟨c0, c1, b0, hn⟩ := H.facts
  clear c1
  rw [hs] at c0
  simp only [List.length_nil] at c0
  have HS := Lib.hid hs
  clear hs
  go_enter Try.func25, Try.ntmps25
  go_wp2
  exact bodyPost_ret (v := .tuple #[.agg #[.int .i64 0, .int .i64 0, .int .i64 0, .int .i64 0, .int .u64 0], .bool false]) (by simp only [results, Try.results25]; go_simp) rfl ⟨rfl, (Below.refl _ _).alloc (Nat.le_refl _) _⟩

set_option maxHeartbeats 400000 in
theorem top_some (x : It) (hb : Nat) (lv mv : Value) (T : TypeId) (s : Hp) (w : World) (H : HV w hb lv mv T s) (hs : s.L[0]? = some x) :
    Calls Try.prog 25 #[.pointer (some ⟨hb, 0, none⟩)] w fun e w' => e = .returned (.tuple #[.agg #[.int .i64 x.run, .int .i64 x.kind, .int .i64 x.id, .int .i64 x.due, .int .u64 x.seq], .bool true]) ∧ Below w.heap.size w w' := by
  have hpos : 0 < s.L.length := (List.getElem?_eq_some_iff.1 hs).1
  obtain ⟨c0, c1, b0, hn⟩ := H.facts
  clear c1
  rcases H.row with ⟨_, h⟩ | ⟨g, off, cap, cur, rfl, hcur, hcap, _⟩
  · rw [h] at hpos; cases hpos
  obtain ⟨e0, e1, e2, e3, e4⟩ := row_cells H.row hs
  simp only [Nat.zero_mul, Nat.add_zero] at e0 e1 e2 e3 e4
  have hl0 : (s.L.length == 0) = false := beq_eq_false_iff_ne.2 (by omega)
  have hl1 : ((s.L.length : Int) == 0) = false := beq_eq_false_iff_ne.2 (by omega)
  have b1 := lt_of_heap hcur
  have HS := Lib.hid hs
  have HC := Lib.hid hcur
  clear hs hcur
  go_enter Try.func25, Try.ntmps25
  go_wp2
  exact bodyPost_ret (v := .tuple #[.agg #[.int .i64 x.run, .int .i64 x.kind, .int .i64 x.id, .int .i64 x.due, .int .u64 x.seq], .bool true]) (by simp only [results, Try.results25]; go_simp) rfl ⟨rfl, (Below.refl _ _).alloc (Nat.le_refl _) _⟩

set_option maxHeartbeats 400000 in
theorem pop_none (hb : Nat) (lv mv : Value) (T : TypeId) (s : Hp) (w : World) (H : HV w hb lv mv T s) (hs : s.L = []) :
    Calls Try.prog 14 #[.pointer (some ⟨hb, 0, none⟩)] w fun e w' => e = .returned (.tuple #[.agg #[.int .i64 0, .int .i64 0, .int .i64 0, .int .i64 0, .int .u64 0], .bool false]) ∧ Below w.heap.size w w' := by
  obtain ⟨a, cap, rfl⟩ := H.row.slice
  obtain ⟨c0, c1, b0, hn⟩ := H.facts
  clear c1
  rw [hs] at c0
  simp only [List.length_nil] at c0
  have HS := Lib.hid hs
  clear hs
  go_enter Try.func14, Try.ntmps14
  go_wp2
  exact bodyPost_ret (v := .tuple #[.agg #[.int .i64 0, .int .i64 0, .int .i64 0, .int .i64 0, .int .u64 0], .bool false]) (by simp only [results, Try.results14]; go_simp) rfl ⟨rfl, (Below.refl _ _).alloc (Nat.le_refl _) _⟩

/-- what a method leaves that has taken a thing out -/
def TakePost (hb : Nat) (lv mv : Value) (T : TypeId) (x : It) (s' : Hp) (w : World) (e : Ending) (w' : World) : Prop :=
  ∃ lv', e = .returned (.tuple #[.agg #[.int .i64 x.run, .int .i64 x.kind, .int .i64 x.id, .int .i64 x.due, .int .u64 x.seq], .bool true]) ∧ HV w' hb lv' mv T s' ∧ Keeps (foot hb lv mv) w w' ∧ lv'.ownBlock = lv.ownBlock

theorem take_HV {w w' : World} {hb g off cap mb n : Nat} {T : TypeId} {s s' : Hp} (H : HX w' hb g off (n - 1) mb T s') (hn : s'.L.length = n - 1) (K : Keeps (fun j => j = hb ∨ j = g ∨ j = mb) w w') (_ : HX w hb g off cap mb T s) :
    ∃ lv', HV w' hb lv' (.map (some mb)) T s' ∧ Keeps (foot hb (.slice (some ⟨g, off, none⟩) s.L.length cap) (.map (some mb))) w w' ∧ lv'.ownBlock = (Value.slice (some ⟨g, off, none⟩) s.L.length cap).ownBlock := by
  refine ⟨_, H.toHV, K.mono (fun j _ h => ?_), ?_⟩
  · rcases h with h | h | h
    · exact .inl h
    · exact .inr (.inl (by simp [Value.ownBlock, h]))
    · exact .inr (.inr (by rw [h]))
  · rw [hn]; rfl

theorem take_len {s : Hp} (i : Nat) : (s.take i).L.length = s.L.length - 1 := by
  unfold Hp.take
  split
  · have : ∀ f (s : Hp) i x, (Hp.down f s i x).L.length = s.L.length := by
      intro f
      induction f with
      | zero => intro s i x; simp [Hp.down, Hp.set]
      | succ f ih =>
        intro s i x
        rw [Hp.down]
        split
        · simp [Hp.set]
        · split
          · simp [Hp.set]
          · rw [ih, set_len]
    rw [this, up_len, set_len]
    simp [Hp.cutAt]
  · simp [Hp.cutAt]

set_option maxHeartbeats 1000000 in
theorem pop_some (x : It) (hb : Nat) (lv mv : Value) (T : TypeId) (s : Hp) (w : World) (H : HV w hb lv mv T s) (hs : s.L[0]? = some x) (hM : s.M ≠ []) (hcap : s.L.length ≤ 16384) :
    Calls Try.prog 14 #[.pointer (some ⟨hb, 0, none⟩)] w (TakePost hb lv mv T x (s.take 0) w) := by
  have hpos : 0 < s.L.length := (List.getElem?_eq_some_iff.1 hs).1
  obtain ⟨c0, c1, b0, hn⟩ := H.facts
  clear c1
  obtain ⟨mb, rfl⟩ : ∃ mb, mv = .map (some mb) := by
    rcases H.map with ⟨_, h⟩ | ⟨b, h, _⟩
    · exact absurd h hM
    · exact ⟨b, h⟩
  obtain ⟨g, off, cap, rfl, HH⟩ := H.toHX (by intro e; rw [e] at hpos; cases hpos) rfl
  have hl0 : (s.L.length == 0) = false := beq_eq_false_iff_ne.2 (by omega)
  have hl1 : ((s.L.length : Int) == 0) = false := beq_eq_false_iff_ne.2 (by omega)
  have TK := Lib.hid (fun (W : World) (h : HX W hb g off cap mb T s) => (take_any x 0 hb g off cap mb T s W h hs hcap))
  have HX0 := Lib.hid HH
  have HS := Lib.hid hs
  clear hs H HH
  go_enter Try.func14, Try.ntmps14
  go_wp2_with fail
  have K0 : Keeps (fun _ => False) w (w.alloc (.cells #[.int .i64 0, .int .i64 0, .int .i64 0, .int .i64 0, .int .u64 0] 35)) := (Keeps.refl _ w).alloc _
  have H1 := HX0.out.keep K0 id id id
  refine (TK.out _ H1).mono ?_
  rintro e w2 ⟨rfl, H2, K2⟩
  have hz : ItAt w2 w.heap.size ItZ := ItAt.keep (w := w.alloc _) ⟨_, heap_alloc_new w _⟩ K2 (by rintro (h | h | h) <;> (first | (have := lt_of_heap HX0.out.h; omega) | (have := HX0.out.row.lt (g := g) rfl; omega) | (have := HX0.out.map.lt; omega)))
  obtain ⟨a0, a1, a2, a3, a4, ab⟩ := hz.facts
  have af := hz.froz
  have hg2 : g ≠ w.heap.size := by have := HX0.out.row.lt (g := g) rfl; omega
  have hm2 : mb ≠ w.heap.size := by have := HX0.out.map.lt; omega
  have hb2 : hb ≠ w.heap.size := by omega
  go_wp2
  obtain ⟨lv', r1, r2, r3⟩ := take_HV H2 (take_len 0) ((K0.mono (fun _ _ h => h.elim)).comp K2) HX0.out
  have KF : Keeps (fun j => j = w.heap.size) w2 (((((w2.setCell ⟨w.heap.size, 0, none⟩ (.int .i64 x.run)).setCell ⟨w.heap.size, 1, none⟩ (.int .i64 x.kind)).setCell ⟨w.heap.size, 2, none⟩ (.int .i64 x.id)).setCell ⟨w.heap.size, 3, none⟩ (.int .i64 x.due)).setCell ⟨w.heap.size, 4, none⟩ (.int .u64 x.seq)) :=
    ((((((Keeps.refl (fun j => j = w.heap.size) w2).setCell (p := ⟨w.heap.size, 0, none⟩) (.inl rfl) _).setCell (p := ⟨w.heap.size, 1, none⟩) (.inl rfl) _).setCell (p := ⟨w.heap.size, 2, none⟩) (.inl rfl) _).setCell (p := ⟨w.heap.size, 3, none⟩) (.inl rfl) _).setCell (p := ⟨w.heap.size, 4, none⟩) (.inl rfl) _)
  refine bodyPost_ret (v := .tuple #[.agg #[.int .i64 x.run, .int .i64 x.kind, .int .i64 x.id, .int .i64 x.due, .int .u64 x.seq], .bool true]) (by simp only [results, Try.results14]; go_simp) rfl ⟨lv', rfl, r1.keep KF ?_, r2.trans KF (fun j hj h => by omega), r3⟩
  intro j hj
  rcases hj with h | h | h
  · rw [h]; exact hb2
  · rw [r3] at h; simp [Value.ownBlock] at h; rw [← h]; exact hg2
  · simp at h; rw [← h]; exact hm2
end Go.Proofs.Ytkhphnidopbjjaa
