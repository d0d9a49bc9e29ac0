/- The heap's inner functions, walked. -/
import Derived.Test.YtkhphnidopbjjaaRows
import Derived.Test.YtkhphnidopbjjaaHm
namespace Go.Proofs.Ytkhphnidopbjjaa
open Go.RowKit Go.Own Go.Own.MapTy Go.Hm

theorem checkKy (n : Nat) (em : Bool) (W : World) (a b c : Int) : (Instr.checkKey em (n + 2) 32 (.agg #[.int .i64 a, .int .i64 b, .int .i64 c])).run Try.prog W = .ok () W := by
  simp [Instr.checkKey, go_sem]
theorem sameKy (n : Nat) (W : World) (a b c x y z : Int) : (Op.equalIn (n + 2) 32 (.agg #[.int .i64 a, .int .i64 b, .int .i64 c]) (.agg #[.int .i64 x, .int .i64 y, .int .i64 z])).run Try.prog W = .ok (decide ((⟨a, b, c⟩ : Ky) = ⟨x, y, z⟩)) W := by
  simp [go_sem]
  by_cases h1 : a = x <;> by_cases h2 : b = y <;> by_cases h3 : c = z <;> simp [h1, h2, h3]
theorem klaw : KLaw KM Try.prog 32 :=
  KLaw.of_asking Try.underlying32 (fun W em x => checkKy 9998 em W x.run x.kind x.id) (fun x y => rfl)
    (fun W x y => sameKy 9998 W x.run x.kind x.id y.run y.kind y.id) (fun x => by simp [KM, kyVal, Instr.sameBits])

/-! ### comparing -/
set_option maxHeartbeats 400000 in
theorem isNaN64 (a : Int) (w : World) :
    Calls Try.prog 63 #[.int .i64 a] w fun e w' => e = .returned (.bool false) ∧ w = w' := by
  go_enter Try.func63, Try.ntmps63
  go_wp2
  go_ret
  exact ⟨by simp, rfl⟩
set_option maxHeartbeats 400000 in
theorem isNaNu64 (a : Int) (w : World) :
    Calls Try.prog 64 #[.int .u64 a] w fun e w' => e = .returned (.bool false) ∧ w = w' := by
  go_enter Try.func64, Try.ntmps64
  go_wp2
  go_ret
  exact ⟨by simp, rfl⟩

theorem ret_i64 {a b : Int} (h : a = b) : Ending.returned (.int .i64 a) = .returned (.int .i64 b) := by rw [h]

set_option maxHeartbeats 400000 in
theorem cmp64 (a b : Int) (w : World) :
    Calls Try.prog 57 #[.int .i64 a, .int .i64 b] w fun e w' => e = .returned (.int .i64 (cmpI a b)) ∧ w = w' := by
  go_enter Try.func57, Try.ntmps57
  go_wp2_with (go_at_call 63; refine (isNaN64 _ _).mono ?_; rintro e w' ⟨rfl, rfl⟩)
  all_goals (go_ret; refine ⟨ret_i64 ?_, rfl⟩; unfold cmpI)
  · rw [if_pos (by assumption)]
  · rw [if_neg (by omega), if_pos (by assumption)]
  · rw [if_neg (by omega), if_neg (by omega)]
set_option maxHeartbeats 400000 in
theorem cmpu64 (a b : Int) (w : World) :
    Calls Try.prog 58 #[.int .u64 a, .int .u64 b] w fun e w' => e = .returned (.int .i64 (cmpI a b)) ∧ w = w' := by
  go_enter Try.func58, Try.ntmps58
  go_wp2_with (go_at_call 64; refine (isNaNu64 _ _).mono ?_; rintro e w' ⟨rfl, rfl⟩)
  all_goals (go_ret; refine ⟨ret_i64 ?_, rfl⟩; unfold cmpI)
  · rw [if_pos (by assumption)]
  · rw [if_neg (by omega), if_pos (by assumption)]
  · rw [if_neg (by omega), if_neg (by omega)]

set_option maxHeartbeats 400000 in
theorem compare_any (a b : It) (w : World) :
    Calls Try.prog 44 #[.agg #[.int .i64 a.run, .int .i64 a.kind, .int .i64 a.id, .int .i64 a.due, .int .u64 a.seq], .agg #[.int .i64 b.run, .int .i64 b.kind, .int .i64 b.id, .int .i64 b.due, .int .u64 b.seq]] w fun e w' => e = .returned (.int .i64 (cmpIt a b)) ∧ Below w.heap.size w w' := by
  by_cases h : cmpI a.due b.due = 0
  · have h1 : (cmpI a.due b.due == 0) = true := by simp [h]
    have H := Lib.hid h
    clear h
    go_enter Try.func44, Try.ntmps44
    go_wp2_with (first | (go_at_call 57; refine (cmp64 _ _ _).mono ?_; rintro e w' ⟨rfl, rfl⟩) | (go_at_call 58; refine (cmpu64 _ _ _).mono ?_; rintro e w' ⟨rfl, rfl⟩))
    go_ret
    exact ⟨ret_i64 (by unfold cmpIt; rw [if_neg (by simpa using H.out)]), ((Below.refl _ _).alloc (Nat.le_refl _) _).alloc (by simp) _⟩
  · have h1 : (cmpI a.due b.due == 0) = false := by simp [h]
    have H := Lib.hid h
    clear h
    go_enter Try.func44, Try.ntmps44
    go_wp2_with (first | (go_at_call 57; refine (cmp64 _ _ _).mono ?_; rintro e w' ⟨rfl, rfl⟩) | (go_at_call 58; refine (cmpu64 _ _ _).mono ?_; rintro e w' ⟨rfl, rfl⟩))
    go_ret
    exact ⟨ret_i64 (by unfold cmpIt; rw [if_pos H.out]), ((Below.refl _ _).alloc (Nat.le_refl _) _).alloc (by simp) _⟩

/-! ### the heap in memory -/
/-- the heap at block hb: its list in block g from off on, its map in block mb; T: the block's type -/
structure HX (w : World) (hb g off cap mb : Nat) (T : TypeId) (s : Hp) : Prop where
  h : w.heap[hb]? = some (.cells #[.slice (some ⟨g, off, none⟩) s.L.length cap, .map (some mb), .int .u64 s.seq] T (0, 0))
  row : RowAt w 35 (.slice (some ⟨g, off, none⟩) s.L.length cap) s.L
  map : MapAt KM w mb s.M
  hg : hb ≠ g

theorem HX.hm {w : World} {hb g off cap mb : Nat} {T : TypeId} {s : Hp} (H : HX w hb g off cap mb T s) : hb ≠ mb := by
  intro e
  obtain ⟨es, clock, h1, _⟩ := H.map
  rw [← e, H.h] at h1
  cases h1
theorem HX.gm {w : World} {hb g off cap mb : Nat} {T : TypeId} {s : Hp} (H : HX w hb g off cap mb T s) : g ≠ mb := by
  intro e
  obtain ⟨es, clock, h1, _⟩ := H.map
  rcases H.row with ⟨h, _⟩ | ⟨g', off', cap', cur, hv, hh, _⟩
  · cases h
  · cases hv
    rw [e, h1] at hh
    cases hh
theorem HX.keep {w w' : World} {hb g off cap mb : Nat} {T : TypeId} {s : Hp} {S : Nat → Prop} (H : HX w hb g off cap mb T s) (k : Keeps S w w') (h1 : ¬ S hb) (h2 : ¬ S g) (h3 : ¬ S mb) : HX w' hb g off cap mb T s :=
  ⟨by rw [k.block hb (lt_of_heap H.h) h1]; exact H.h, H.row.keep k (fun g' h => by cases h; exact h2), H.map.keep k h3, H.hg⟩


theorem HX.stored {w : World} {hb g off cap mb i : Nat} {T : TypeId} {s : Hp} (H : HX w hb g off cap mb T s) (hi : i < s.L.length) (x : It) (X o : Obj)
    (hmap : ∀ W : World, W.heap[mb]? = some o → MapAt KM W mb (upd s.M x.key i)) :
    HX (setBlock ((w.setCells g (off + i * 5) (itEnc x)).alloc X).drew.drew mb o) hb g off cap mb T (s.set i x) ∧
    Keeps (fun j => j = g ∨ j = mb) w (setBlock ((w.setCells g (off + i * 5) (itEnc x)).alloc X).drew.drew mb o) := by
  have hs := (setCells_size g (itEnc x) (off + i * 5) w).1
  have b0 : hb < w.heap.size := lt_of_heap H.h
  have b1 : g < w.heap.size := H.row.lt rfl
  have b2 : mb < w.heap.size := H.map.lt
  have hl : (s.L.set i x).length = s.L.length := by simp
  have hblk : ∀ j, j < w.heap.size → j ≠ mb → (setBlock ((w.setCells g (off + i * 5) (itEnc x)).alloc X).drew.drew mb o).heap[j]? = (w.setCells g (off + i * 5) (itEnc x)).heap[j]? := by
    intro j hj hm
    rw [setBlock_other _ _ _ _ hm]
    exact Below.heap_alloc _ _ _ (by omega)
  refine ⟨⟨?_, ?_, ?_, H.hg⟩, ?_⟩
  · rw [hblk hb b0 H.hm, setCells_other _ _ _ _ _ H.hg]
    have := H.h
    simpa [Hp.set] using this
  · have hr := H.row.set hi x
    have : (s.set i x).L.length = s.L.length := by simp [Hp.set]
    rw [this]
    exact RowAt.frame hr fun g' hg' => by cases hg'; exact hblk g b1 H.gm
  · exact hmap _ (setBlock_same _ _ _ (by simp [hs]; omega))
  · exact ((((Keeps.refl _ w).setCells (.inl (.inl rfl)) _ _).alloc X).drew.drew).setBlock (.inl (.inr rfl)) o

set_option maxHeartbeats 1000000 in
theorem set_any (x : It) (i hb g off cap mb : Nat) (T : TypeId) (s : Hp) (w : World) (H : HX w hb g off cap mb T s) (hi : i < s.L.length) :
    Calls Try.prog 55 #[.pointer (some ⟨hb, 0, none⟩), .int .i64 i, .agg #[.int .i64 x.run, .int .i64 x.kind, .int .i64 x.id, .int .i64 x.due, .int .u64 x.seq]] w fun e w' =>
      e = .returned (.tuple #[]) ∧ HX w' hb g off cap mb T (s.set i x) ∧ Keeps (fun j => j = g ∨ j = mb) w w' := by
  have hn := H.row.length_le
  have c0 : w.cell? ⟨hb, 0, none⟩ = some (.slice (some ⟨g, off, none⟩) s.L.length cap) := by rw [cell_of_heap H.h]; rfl
  have c1 : w.cell? ⟨hb, 1, none⟩ = some (.map (some mb)) := by rw [cell_of_heap H.h]; rfl
  have b0 : hb < w.heap.size := lt_of_heap H.h
  have b1 : g < w.heap.size := H.row.lt rfl
  have b2 : mb < w.heap.size := H.map.lt
  have d0 := H.hg
  have d1 := H.hm
  have d2 := H.gm
  have f0 : ∀ o, w.frozen? ⟨g, o, none⟩ = false := fun o => H.row.frozen o
  have hx : s.L[i]? = some s.L[i] := by simp [hi]
  obtain ⟨e0, e1, e2, e3, e4⟩ := row_cells H.row hx
  obtain ⟨o, hup, hmap⟩ := H.map.store klaw Try.underlying25 x.key (i : Int)
  replace hup : ∀ W : World, blk W mb = blk w mb → (Instr.mapUpdate 25 (.map (some mb)) (.agg #[.int .i64 x.run, .int .i64 x.kind, .int .i64 x.id]) (.int .i64 i)).run Try.prog W = .ok () (setBlock W mb o) := hup
  have g0 := Ne.symm d0
  have g1 := Ne.symm d1
  have g2 := Ne.symm d2
  unfold maxLen at hn
  clear hx
  go_enter Try.func55, Try.ntmps55
  go_wp2
  go_region
  go_wp2
  go_region
  go_wp2
  go_end0
  exact ⟨rfl, H.stored hi x _ o hmap⟩
end Go.Proofs.Ytkhphnidopbjjaa
