/- The guard of the heap's laws, walked. -/
import Derived.Test.YtkhphnidopbjjaaH7
namespace Go.Proofs.Ytkhphnidopbjjaa
open Go.RowKit Go.Own Go.Own.MapTy Go.Hm
open Go.Own.Cells (sz enc)

def hp0 : Hp := ⟨[], [], 0⟩
theorem HV.zero (w : World) (T : TypeId) : HV (w.alloc (.cells #[.slice none 0 0, .map none, .int .u64 0] T)) w.heap.size (.slice none 0 0) (.map none) T hp0 :=
  ⟨heap_alloc_new w _, .inl ⟨rfl, rfl⟩, .inl ⟨rfl, rfl⟩, fun g h => by simp [Value.ownBlock] at h⟩

/-- Put turns the heap s into s' and answers r -/
def PutTo (hb : Nat) (s s' : Hp) (a b c due r : Int) : Prop := ∀ (lv mv : Value) (W : World), HV W hb lv mv 28 s →
  Calls Try.prog 13 #[.pointer (some ⟨hb, 0, none⟩), .agg #[.int .i64 a, .int .i64 b, .int .i64 c], .int .i64 due] W fun e w' =>
    ∃ lv' mv', e = .returned (.int .i64 r) ∧ HV w' hb lv' mv' 28 s' ∧ Keeps (foot hb lv mv) W w' ∧ ∀ j, foot hb lv' mv' j → foot hb lv mv j ∨ (W.heap.size ≤ j ∧ j < w'.heap.size)
theorem putTo_mk {hb : Nat} {s s' : Hp} {a b c due r : Int} (h : s.put ⟨a, b, c⟩ due = (s', r)) (hq : 0 ≤ s.seq ∧ s.seq < 18446744073709551615) : PutTo hb s s' a b c due r := by
  intro lv mv W H
  have := put_any ⟨a, b, c⟩ due hb lv mv 28 s W H hq
  rw [h] at this
  exact this
def ks1 : Hp := ⟨[⟨1, 0, 1, 9, 1⟩], [(⟨1, 0, 1⟩, 0)], 1⟩
def ks2 : Hp := ⟨[⟨2, 0, 1, 5, 2⟩, ⟨1, 0, 1, 9, 1⟩], [(⟨1, 0, 1⟩, 1), (⟨2, 0, 1⟩, 0)], 2⟩
theorem ks1_eq : hp0.put ⟨1, 0, 1⟩ 9 = (ks1, 0) := rfl
theorem ks2_eq : ks1.put ⟨2, 0, 1⟩ 5 = (ks2, 0) := rfl
theorem ks3_eq : ks2.put ⟨1, 0, 1⟩ 1 = (ks2, 5) := rfl
theorem ks2_right : RightOK ks2 where
  up := by
    intro i x y hi hx hy
    match i, hi with
    | 1, _ => cases hx; cases hy; decide
    | i + 2, _ => simp [ks2] at hx
  at_ := by
    intro i x hx
    match i with
    | 0 => cases hx; rfl
    | 1 => cases hx; rfl
    | i + 2 => simp [ks2] at hx
  len := rfl
theorem ks2_due : dueL ks2 5 = [⟨2, 0, 1, 5, 2⟩] := by
  have h : todoT 2 [0] = 5 := by simp [todoT, dueT]
  show dueGo ks2.L 5 (todoT 2 [0]) [0] [] = _
  rw [h]
  rfl

theorem notfoot_step {a b hb : Nat} {lv mv lv' mv' : Value} {w' : World} {n : Nat} (h : ∀ j, a ≤ j → ¬ foot hb lv mv j) (F : ∀ j, foot hb lv' mv' j → foot hb lv mv j ∨ (n ≤ j ∧ j < w'.heap.size)) (hn : n = b) : ∀ j, a ≤ j → j < b → ¬ foot hb lv' mv' j :=
  fun j h1 h2 hf => by
    rcases F j hf with h' | h'
    · exact h j h1 h'
    · omega
theorem notfoot_step2 {a b hb : Nat} {lv mv lv' mv' : Value} {w' : World} {n : Nat} (h : ∀ j, a ≤ j → j < b → ¬ foot hb lv mv j) (F : ∀ j, foot hb lv' mv' j → foot hb lv mv j ∨ (n ≤ j ∧ j < w'.heap.size)) (hn : b ≤ n) : ∀ j, a ≤ j → j < b → ¬ foot hb lv' mv' j :=
  fun j h1 h2 hf => by
    rcases F j hf with h' | h'
    · exact h j h1 h2 h'
    · omega

set_option maxRecDepth 100000 in
set_option maxHeartbeats 2000000 in
theorem keeps_true (w : World) : Calls Try.prog 12 #[] w fun e w' => e = .returned (.bool true) ∧ Below w.heap.size w w' := by
  have H0 := Lib.hid (HV.zero w 28)
  have P1 := Lib.hid (putTo_mk (hb := w.heap.size) ks1_eq (by decide))
  have P2 := Lib.hid (putTo_mk (hb := w.heap.size) ks2_eq (by decide))
  have P3 := Lib.hid (putTo_mk (hb := w.heap.size) ks3_eq (by decide))
  go_enter Try.func12, Try.ntmps12
  go_wp2_with fail
  refine (top_none w.heap.size _ _ 28 hp0 _ H0.out rfl).mono ?_
  rintro e w1 ⟨rfl, hB1⟩
  have H1 := Lib.hid (H0.out.keep (Keeps.of_below (S := fun _ => False) hB1) (fun _ _ h => h))
  have hs1 : w.heap.size < w1.heap.size := by have := hB1.size; simp at this; omega
  have B1 := Lib.hid ((((Below.refl w.heap.size w).alloc (Nat.le_refl _) _).trans (hB1.mono (by simp))))
  clear hB1
  go_wp2_with fail
  obtain ⟨w2, hw2⟩ : ∃ w2, w2 = ((w1.alloc (.cells #[.int .i64 0, .int .i64 0, .int .i64 0, .int .i64 0, .int .u64 0] 35)).alloc (.cells #[.int .i64 1, .int .i64 0, .int .i64 1] 32)).alloc (.cells #[.int .i64 2, .int .i64 0, .int .i64 1] 32) := ⟨_, rfl⟩
  rw [← hw2]
  have k2 : Keeps (fun _ => False) w1 w2 := by rw [hw2]; exact (((Keeps.refl (fun _ => False) w1).alloc _).alloc _).alloc _
  have H2 := Lib.hid (H1.out.keep k2 (fun _ _ h => h))
  have B2 := Lib.hid (B1.out.trans (k2.below (by omega) (fun _ _ h => h)))
  have hs2 : w2.heap.size = w1.heap.size + 1 + 1 + 1 := by rw [hw2]; simp
  have qa : w2.heap[w1.heap.size + 1]? = some (.cells #[.int .i64 1, .int .i64 0, .int .i64 1] 32 (0, 0)) := by
    rw [hw2, Below.heap_alloc _ _ _ (by simp)]; exact alloc_at (by simp)
  have qb : w2.heap[w1.heap.size + 1 + 1]? = some (.cells #[.int .i64 2, .int .i64 0, .int .i64 1] 32 (0, 0)) := by
    rw [hw2]; exact alloc_at (by simp)
  have a0 : w2.cell? ⟨w1.heap.size + 1, 0, none⟩ = some (.int .i64 1) := by rw [cell_of_heap qa]; rfl
  have a1 : w2.cell? ⟨w1.heap.size + 1, 1, none⟩ = some (.int .i64 0) := by rw [cell_of_heap qa]; rfl
  have a2 : w2.cell? ⟨w1.heap.size + 1, 2, none⟩ = some (.int .i64 1) := by rw [cell_of_heap qa]; rfl
  have b0 : w2.cell? ⟨w1.heap.size + 1 + 1, 0, none⟩ = some (.int .i64 2) := by rw [cell_of_heap qb]; rfl
  have b1 : w2.cell? ⟨w1.heap.size + 1 + 1, 1, none⟩ = some (.int .i64 0) := by rw [cell_of_heap qb]; rfl
  have b2 : w2.cell? ⟨w1.heap.size + 1 + 1, 2, none⟩ = some (.int .i64 1) := by rw [cell_of_heap qb]; rfl
  have sa : w1.heap.size + 1 < w2.heap.size := by omega
  have sb : w1.heap.size + 1 + 1 < w2.heap.size := by omega
  have HS2 := Lib.hid hs2
  have QA := Lib.hid qa
  have QB := Lib.hid qb
  clear hw2 k2 hs2 qa qb
  have N0 : ∀ j, w1.heap.size ≤ j → ¬ foot w.heap.size (.slice none 0 0) (.map none) j := by
    rintro j hj (h | h | h)
    · omega
    · simp [Value.ownBlock] at h
    · simp at h
  have NF := Lib.hid N0
  clear N0
  go_region_held3 (fun W => W.cell? ⟨w1.heap.size + 1, 0, none⟩ = some (.int .i64 1) ∧ W.cell? ⟨w1.heap.size + 1, 1, none⟩ = some (.int .i64 0) ∧ W.cell? ⟨w1.heap.size + 1, 2, none⟩ = some (.int .i64 1) ∧ W.cell? ⟨w1.heap.size + 1 + 1, 0, none⟩ = some (.int .i64 2) ∧ W.cell? ⟨w1.heap.size + 1 + 1, 1, none⟩ = some (.int .i64 0) ∧ W.cell? ⟨w1.heap.size + 1 + 1, 2, none⟩ = some (.int .i64 1))
    (first | exact ⟨a0, a1, a2, b0, b1, b2⟩ | exact S1.out | exact S2.out | exact S3.out)
    ((first
      | (go_at_call 13; refine (P3.out _ _ _ (Hb)).mono ?_; rintro e w5 ⟨lv3, mv3, rfl, Hc, Kc, Fc⟩; have S3 := Lib.hid (And.intro ((Kc.cell (p := ⟨w1.heap.size + 1, 0, none⟩) (by first | omega | (simp; done) | (simp; omega)) (M2.out _ (by first | omega | (simp; done) | (simp; omega)) (by first | omega | (simp; done) | (simp; omega)))).trans S2.out.1) (And.intro ((Kc.cell (p := ⟨w1.heap.size + 1, 1, none⟩) (by first | omega | (simp; done) | (simp; omega)) (M2.out _ (by first | omega | (simp; done) | (simp; omega)) (by first | omega | (simp; done) | (simp; omega)))).trans S2.out.2.1) (And.intro ((Kc.cell (p := ⟨w1.heap.size + 1, 2, none⟩) (by first | omega | (simp; done) | (simp; omega)) (M2.out _ (by first | omega | (simp; done) | (simp; omega)) (by first | omega | (simp; done) | (simp; omega)))).trans S2.out.2.2.1) (And.intro ((Kc.cell (p := ⟨w1.heap.size + 1 + 1, 0, none⟩) (by first | omega | (simp; done) | (simp; omega)) (M2.out _ (by first | omega | (simp; done) | (simp; omega)) (by first | omega | (simp; done) | (simp; omega)))).trans S2.out.2.2.2.1) (And.intro ((Kc.cell (p := ⟨w1.heap.size + 1 + 1, 1, none⟩) (by first | omega | (simp; done) | (simp; omega)) (M2.out _ (by first | omega | (simp; done) | (simp; omega)) (by first | omega | (simp; done) | (simp; omega)))).trans S2.out.2.2.2.2.1) ((Kc.cell (p := ⟨w1.heap.size + 1 + 1, 2, none⟩) (by first | omega | (simp; done) | (simp; omega)) (M2.out _ (by first | omega | (simp; done) | (simp; omega)) (by first | omega | (simp; done) | (simp; omega)))).trans S2.out.2.2.2.2.2)))))); have M3 := Lib.hid (notfoot_step2 M2.out Fc (Nat.le_trans hz3 hz4)); have hz5 : w4.heap.size ≤ w5.heap.size := Kc.size)
      | (go_at_call 13; refine (P2.out _ _ _ (Ha)).mono ?_; rintro e w4 ⟨lv2, mv2, rfl, Hb, Kb, Fb⟩; have S2 := Lib.hid (And.intro ((Kb.cell (p := ⟨w1.heap.size + 1, 0, none⟩) (by first | omega | (simp; done) | (simp; omega)) (M1.out _ (by first | omega | (simp; done) | (simp; omega)) (by first | omega | (simp; done) | (simp; omega)))).trans S1.out.1) (And.intro ((Kb.cell (p := ⟨w1.heap.size + 1, 1, none⟩) (by first | omega | (simp; done) | (simp; omega)) (M1.out _ (by first | omega | (simp; done) | (simp; omega)) (by first | omega | (simp; done) | (simp; omega)))).trans S1.out.2.1) (And.intro ((Kb.cell (p := ⟨w1.heap.size + 1, 2, none⟩) (by first | omega | (simp; done) | (simp; omega)) (M1.out _ (by first | omega | (simp; done) | (simp; omega)) (by first | omega | (simp; done) | (simp; omega)))).trans S1.out.2.2.1) (And.intro ((Kb.cell (p := ⟨w1.heap.size + 1 + 1, 0, none⟩) (by first | omega | (simp; done) | (simp; omega)) (M1.out _ (by first | omega | (simp; done) | (simp; omega)) (by first | omega | (simp; done) | (simp; omega)))).trans S1.out.2.2.2.1) (And.intro ((Kb.cell (p := ⟨w1.heap.size + 1 + 1, 1, none⟩) (by first | omega | (simp; done) | (simp; omega)) (M1.out _ (by first | omega | (simp; done) | (simp; omega)) (by first | omega | (simp; done) | (simp; omega)))).trans S1.out.2.2.2.2.1) ((Kb.cell (p := ⟨w1.heap.size + 1 + 1, 2, none⟩) (by first | omega | (simp; done) | (simp; omega)) (M1.out _ (by first | omega | (simp; done) | (simp; omega)) (by first | omega | (simp; done) | (simp; omega)))).trans S1.out.2.2.2.2.2)))))); have M2 := Lib.hid (notfoot_step2 M1.out Fb hz3); have hz4 : w3.heap.size ≤ w4.heap.size := Kb.size)
      | (go_at_call 13; refine (P1.out _ _ _ (H2.out.keep ((Keeps.refl (fun _ => False) w2).drew) (fun _ _ h => h))).mono ?_; rintro e w3 ⟨lv1, mv1, rfl, Ha, Ka, Fa⟩; have S1 := Lib.hid (And.intro ((Ka.cell (p := ⟨w1.heap.size + 1, 0, none⟩) (by first | omega | (simp; done) | (simp; omega)) (NF.out _ (by first | omega | (simp; done) | (simp; omega)))).trans a0) (And.intro ((Ka.cell (p := ⟨w1.heap.size + 1, 1, none⟩) (by first | omega | (simp; done) | (simp; omega)) (NF.out _ (by first | omega | (simp; done) | (simp; omega)))).trans a1) (And.intro ((Ka.cell (p := ⟨w1.heap.size + 1, 2, none⟩) (by first | omega | (simp; done) | (simp; omega)) (NF.out _ (by first | omega | (simp; done) | (simp; omega)))).trans a2) (And.intro ((Ka.cell (p := ⟨w1.heap.size + 1 + 1, 0, none⟩) (by first | omega | (simp; done) | (simp; omega)) (NF.out _ (by first | omega | (simp; done) | (simp; omega)))).trans b0) (And.intro ((Ka.cell (p := ⟨w1.heap.size + 1 + 1, 1, none⟩) (by first | omega | (simp; done) | (simp; omega)) (NF.out _ (by first | omega | (simp; done) | (simp; omega)))).trans b1) ((Ka.cell (p := ⟨w1.heap.size + 1 + 1, 2, none⟩) (by first | omega | (simp; done) | (simp; omega)) (NF.out _ (by first | omega | (simp; done) | (simp; omega)))).trans b2)))))); have M1 := Lib.hid (notfoot_step NF.out Fa rfl); have hz3 : w2.heap.size ≤ w3.heap.size := Ka.size)))
  have G0 : ∀ j, foot w.heap.size (.slice none 0 0) (.map none) j → w.heap.size ≤ j := by
    rintro j (h | h | h)
    · omega
    · simp [Value.ownBlock] at h
    · simp at h
  have hw2 : w.heap.size ≤ w2.heap.size := B2.out.size
  have G1 : ∀ j, foot w.heap.size lv1 mv1 j → w.heap.size ≤ j := fun j h => (Fa j h).elim (G0 j) (fun h => Nat.le_trans hw2 h.1)
  have G2 : ∀ j, foot w.heap.size lv2 mv2 j → w.heap.size ≤ j := fun j h => (Fb j h).elim (G1 j) (fun h => by omega)
  have B5 : Below w.heap.size w w5 := ((B2.out.trans ((Keeps.refl (fun _ => False) w2).drew.below hw2 (fun _ _ h => h))).trans (Ka.below hw2 (fun k hk h => by have := G0 k h; omega))).trans
    ((Kb.below (by omega) (fun k hk h => by have := G1 k h; omega)).trans (Kc.below (by omega) (fun k hk h => by have := G2 k h; omega)))
  have HC := Lib.hid Hc
  have SS := Lib.hid S3.out
  have BB := Lib.hid B5
  have hs5 : w.heap.size < w5.heap.size := by omega
  have hs5' : w1.heap.size + 1 + 1 < w5.heap.size := by omega
  clear G0 G1 G2 Fa Fb Fc Ka Kb Kc Ha Hb Hc S1 S2 S3 M1 M2 M3 B5 a0 a1 a2 b0 b1 b2 NF P1 P2 P3 H0 H1 H2 B1 B2
  go_wp2_with fail
  refine (top_some ⟨2, 0, 1, 5, 2⟩ w.heap.size _ _ 28 ks2 _ HC.out rfl).mono ?_
  rintro e w6 ⟨rfl, hB6⟩
  have k6 : Keeps (fun _ => False) w5 w6 := Keeps.of_below hB6
  have hs6 := hB6.size
  have H6 := HC.out.keep k6 (fun _ _ h => h)
  have b0 := (hB6.cell (p := ⟨w1.heap.size + 1 + 1, 0, none⟩) hs5').trans SS.out.2.2.2.1
  have b1 := (hB6.cell (p := ⟨w1.heap.size + 1 + 1, 1, none⟩) hs5').trans SS.out.2.2.2.2.1
  have b2 := (hB6.cell (p := ⟨w1.heap.size + 1 + 1, 2, none⟩) hs5').trans SS.out.2.2.2.2.2
  have B6 := Lib.hid (BB.out.trans (hB6.mono (by omega)))
  have hq6 : w1.heap.size + 1 + 1 < w6.heap.size := by omega
  have HV6 := Lib.hid H6
  clear hB6 k6 H6
  go_wp2_with (first
    | (go_at_call 15; refine (len_any w.heap.size _ _ 28 ks2 _ (HV6.out.keep ((Keeps.refl (fun _ => False) w6).alloc _) (fun _ _ h => h))).mono ?_; rintro e w7 ⟨rfl, rfl⟩)
    | (go_at_call 27; refine (due_any 5 w.heap.size _ _ 28 ks2 _ (HV6.out.keep ((Keeps.refl (fun _ => False) w6).alloc _) (fun _ _ h => h)) (by decide) [⟨2, 0, 1, 5, 2⟩] (by rw [ks2_due]; exact sortTo_one _ _)).mono ?_; rintro e w7 ⟨v7, rfl, r7, hB7, hf7⟩; obtain ⟨a7, c7, rfl⟩ := r7.slice))
  have k7 : Keeps (fun _ => False) w6 w7 := ((Keeps.refl (fun _ => False) w6).alloc _).comp (Keeps.of_below hB7)
  have H7 := HV6.out.keep k7 (fun _ _ h => h)
  obtain ⟨mb, hmv⟩ : ∃ mb, mv3 = .map (some mb) := by
    rcases H7.map with ⟨_, h⟩ | ⟨b, h, _⟩
    · cases h
    · exact ⟨b, h⟩
  obtain ⟨g, off, cap, hlv, X7⟩ := H7.toHX (by decide) hmv
  refine (right_some w.heap.size g off cap mb 28 ks2 _ X7 ks2_right (by decide)).mono ?_
  rintro e w8 ⟨rfl, hB8⟩
  go_wp2_with fail
  go_ret
  have hz7 := k7.size
  have B7 := B6.out.trans (k7.below (B := w.heap.size) (by omega) (fun _ _ h => h))
  exact ⟨by simp, B7.trans (hB8.mono (by omega))⟩
end Go.Proofs.Ytkhphnidopbjjaa
