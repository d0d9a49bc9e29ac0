/- The heap's methods, walked: Cancel, Get, Right at every heap. -/
import Derived.Test.YtkhphnidopbjjaaH8
import Derived.Test.YtkhphnidopbjjaaHm3
namespace Go.Proofs.Ytkhphnidopbjjaa
open Go.RowKit Go.Own Go.Own.MapTy Go.Hm
open Go.Own.Cells (sz enc)

/-- the world in which Cancel and Get look the key up -/
def seekW (k : Ky) (w : World) : World := ((w.alloc (.cells #[.int .i64 k.run, .int .i64 k.kind, .int .i64 k.id] 32)).alloc (.cells #[.int .i64 0, .int .i64 0, .int .i64 0, .int .i64 0, .int .u64 0] 35)).drew
theorem seek_some {w : World} {hb : Nat} {lv mv : Value} {T : TypeId} {s : Hp} (H : HV w hb lv mv T s) (k : Ky) {i : Int} (hk : MapTy.get s.M k = some i) :
    (Instr.lookup 25 mv (.agg #[.int .i64 k.run, .int .i64 k.kind, .int .i64 k.id]) true).run Try.prog ((w.alloc (.cells #[.int .i64 k.run, .int .i64 k.kind, .int .i64 k.id] 32)).alloc (.cells #[.int .i64 0, .int .i64 0, .int .i64 0, .int .i64 0, .int .u64 0] 35)).drew = .ok (.tuple #[.int .i64 i, .bool true]) ((w.alloc (.cells #[.int .i64 k.run, .int .i64 k.kind, .int .i64 k.id] 32)).alloc (.cells #[.int .i64 0, .int .i64 0, .int .i64 0, .int .i64 0, .int .u64 0] 35)).drew := by
  have hl := H.map.look klaw Try.underlying25 (z := .int .i64 0) (fun W => by kernel_rfl) k true ((w.alloc (.cells #[.int .i64 k.run, .int .i64 k.kind, .int .i64 k.id] 32)).alloc (.cells #[.int .i64 0, .int .i64 0, .int .i64 0, .int .i64 0, .int .u64 0] 35)).drew (fun b h => by
    have hb := H.lt (.inr (.inr h))
    exact (Below.heap_alloc (w.alloc (.cells #[.int .i64 k.run, .int .i64 k.kind, .int .i64 k.id] 32)) _ b (by simp; omega)).trans (Below.heap_alloc _ _ _ hb))
  rw [hk] at hl
  exact hl
theorem seek_none {w : World} {hb : Nat} {lv mv : Value} {T : TypeId} {s : Hp} (H : HV w hb lv mv T s) (k : Ky) (hk : MapTy.get s.M k = none) :
    (Instr.lookup 25 mv (.agg #[.int .i64 k.run, .int .i64 k.kind, .int .i64 k.id]) true).run Try.prog ((w.alloc (.cells #[.int .i64 k.run, .int .i64 k.kind, .int .i64 k.id] 32)).alloc (.cells #[.int .i64 0, .int .i64 0, .int .i64 0, .int .i64 0, .int .u64 0] 35)).drew = .ok (.tuple #[.int .i64 0, .bool false]) ((w.alloc (.cells #[.int .i64 k.run, .int .i64 k.kind, .int .i64 k.id] 32)).alloc (.cells #[.int .i64 0, .int .i64 0, .int .i64 0, .int .i64 0, .int .u64 0] 35)).drew := by
  have hl := H.map.look klaw Try.underlying25 (z := .int .i64 0) (fun W => by kernel_rfl) k true ((w.alloc (.cells #[.int .i64 k.run, .int .i64 k.kind, .int .i64 k.id] 32)).alloc (.cells #[.int .i64 0, .int .i64 0, .int .i64 0, .int .i64 0, .int .u64 0] 35)).drew (fun b h => by
    have hb := H.lt (.inr (.inr h))
    exact (Below.heap_alloc (w.alloc (.cells #[.int .i64 k.run, .int .i64 k.kind, .int .i64 k.id] 32)) _ b (by simp; omega)).trans (Below.heap_alloc _ _ _ hb))
  rw [hk] at hl
  exact hl

set_option maxHeartbeats 1000000 in
theorem cancel_none (k : Ky) (hb : Nat) (lv mv : Value) (T : TypeId) (s : Hp) (w : World) (H : HV w hb lv mv T s) (hk : MapTy.get s.M k = none) :
    Calls Try.prog 16 #[.pointer (some ⟨hb, 0, none⟩), .agg #[.int .i64 k.run, .int .i64 k.kind, .int .i64 k.id]] w fun e w' => e = .returned (.tuple #[.agg #[.int .i64 0, .int .i64 0, .int .i64 0, .int .i64 0, .int .u64 0], .bool false]) ∧ Below w.heap.size w w' := by
  have b0 : hb < w.heap.size := lt_of_heap H.h
  have c1 : w.cell? ⟨hb, 1, none⟩ = some mv := by rw [cell_of_heap H.h]; rfl
  have hl := seek_none H k hk
  clear hk
  go_enter Try.func16, Try.ntmps16
  go_wp2_with fail
  go_region
  all_goals
    go_wp2_with fail
    exact bodyPost_ret (v := .tuple #[.agg #[.int .i64 0, .int .i64 0, .int .i64 0, .int .i64 0, .int .u64 0], .bool false]) (by simp only [results, Try.results16]; go_simp) rfl ⟨rfl, (((Below.refl _ _).alloc (Nat.le_refl _) _).alloc (by simp) _).drew⟩

set_option maxHeartbeats 1000000 in
theorem cancel_some (k : Ky) (x : It) (i : Nat) (hb : Nat) (lv mv : Value) (T : TypeId) (s : Hp) (w : World) (H : HV w hb lv mv T s) (hk : MapTy.get s.M k = some (i : Int)) (hs : s.L[i]? = some x) (hcap : s.L.length ≤ 16384) :
    Calls Try.prog 16 #[.pointer (some ⟨hb, 0, none⟩), .agg #[.int .i64 k.run, .int .i64 k.kind, .int .i64 k.id]] w (TakePost hb lv mv T x (s.take i) w) := by
  have b0 : hb < w.heap.size := lt_of_heap H.h
  have c1 : w.cell? ⟨hb, 1, none⟩ = some mv := by rw [cell_of_heap H.h]; rfl
  have hl := seek_some H k hk
  have hpos : 0 < s.L.length := by have := (List.getElem?_eq_some_iff.1 hs).1; omega
  obtain ⟨mb, rfl⟩ : ∃ mb, mv = .map (some mb) := by
    rcases H.map with ⟨_, h⟩ | ⟨b, h, _⟩
    · rw [h] at hk; simp [MapTy.get] at hk
    · exact ⟨b, h⟩
  obtain ⟨g, off, cap, rfl, HH⟩ := H.toHX (by intro e; rw [e] at hpos; cases hpos) rfl
  have TK := Lib.hid (fun (W : World) (h : HX W hb g off cap mb T s) => (take_any x i hb g off cap mb T s W h hs hcap))
  have HX0 := Lib.hid HH
  have HS := Lib.hid hs
  clear hs hk H HH
  go_enter Try.func16, Try.ntmps16
  go_wp2_with fail
  go_region
  all_goals
    go_wp2_with fail
    have K0 : Keeps (fun _ => False) w ((w.alloc (.cells #[.int .i64 k.run, .int .i64 k.kind, .int .i64 k.id] 32)).alloc (.cells #[.int .i64 0, .int .i64 0, .int .i64 0, .int .i64 0, .int .u64 0] 35)).drew := (((Keeps.refl _ w).alloc _).alloc _).drew
    have H1 := HX0.out.keep K0 id id id
    refine (TK.out _ H1).mono ?_
    rintro e w2 ⟨rfl, H2, K2⟩
    have hz : ItAt w2 (w.heap.size + 1) ItZ := ItAt.keep (w := ((w.alloc (.cells #[.int .i64 k.run, .int .i64 k.kind, .int .i64 k.id] 32)).alloc (.cells #[.int .i64 0, .int .i64 0, .int .i64 0, .int .i64 0, .int .u64 0] 35)).drew) ⟨_, by
      have := heap_alloc_new (w.alloc (.cells #[.int .i64 k.run, .int .i64 k.kind, .int .i64 k.id] 32)) (.cells #[.int .i64 0, .int .i64 0, .int .i64 0, .int .i64 0, .int .u64 0] 35)
      rw [show (w.alloc (.cells #[.int .i64 k.run, .int .i64 k.kind, .int .i64 k.id] 32)).heap.size = w.heap.size + 1 by simp] at this
      exact this⟩ K2 (by rintro (h | h | h) <;> (first | (have := lt_of_heap HX0.out.h; omega) | (have := HX0.out.row.lt (g := g) rfl; omega) | (have := HX0.out.map.lt; omega)))
    obtain ⟨a0, a1, a2, a3, a4, ab⟩ := hz.facts
    have af := hz.froz
    have hg2 : g ≠ w.heap.size + 1 := by have := HX0.out.row.lt (g := g) rfl; omega
    have hm2 : mb ≠ w.heap.size + 1 := by have := HX0.out.map.lt; omega
    have hb2 : hb ≠ w.heap.size + 1 := by omega
    go_wp2
    obtain ⟨lv', r1, r2, r3⟩ := take_HV H2 (take_len i) ((K0.mono (fun _ _ h => h.elim)).comp K2) HX0.out
    have KF : Keeps (fun j => j = w.heap.size + 1) w2 (((((w2.setCell ⟨w.heap.size + 1, 0, none⟩ (.int .i64 x.run)).setCell ⟨w.heap.size + 1, 1, none⟩ (.int .i64 x.kind)).setCell ⟨w.heap.size + 1, 2, none⟩ (.int .i64 x.id)).setCell ⟨w.heap.size + 1, 3, none⟩ (.int .i64 x.due)).setCell ⟨w.heap.size + 1, 4, none⟩ (.int .u64 x.seq)) :=
      ((((((Keeps.refl (fun j => j = w.heap.size + 1) w2).setCell (p := ⟨w.heap.size + 1, 0, none⟩) (.inl rfl) _).setCell (p := ⟨w.heap.size + 1, 1, none⟩) (.inl rfl) _).setCell (p := ⟨w.heap.size + 1, 2, none⟩) (.inl rfl) _).setCell (p := ⟨w.heap.size + 1, 3, none⟩) (.inl rfl) _).setCell (p := ⟨w.heap.size + 1, 4, none⟩) (.inl rfl) _)
    refine bodyPost_ret (v := .tuple #[.agg #[.int .i64 x.run, .int .i64 x.kind, .int .i64 x.id, .int .i64 x.due, .int .u64 x.seq], .bool true]) (by simp only [results, Try.results16]; go_simp) rfl ⟨lv', rfl, r1.keep KF ?_, r2.trans KF (fun j hj h => by omega), r3⟩
    intro j hj
    rcases hj with h | h | h
    · rw [h]; exact hb2
    · rw [r3] at h; simp [Value.ownBlock] at h; rw [← h]; exact hg2
    · simp at h; rw [← h]; exact hm2

set_option maxHeartbeats 1000000 in
theorem get_none (k : Ky) (hb : Nat) (lv mv : Value) (T : TypeId) (s : Hp) (w : World) (H : HV w hb lv mv T s) (hk : MapTy.get s.M k = none) :
    Calls Try.prog 22 #[.pointer (some ⟨hb, 0, none⟩), .agg #[.int .i64 k.run, .int .i64 k.kind, .int .i64 k.id]] w fun e w' => e = .returned (.tuple #[.agg #[.int .i64 0, .int .i64 0, .int .i64 0, .int .i64 0, .int .u64 0], .bool false]) ∧ Below w.heap.size w w' := by
  have b0 : hb < w.heap.size := lt_of_heap H.h
  have c1 : w.cell? ⟨hb, 1, none⟩ = some mv := by rw [cell_of_heap H.h]; rfl
  have hl := seek_none H k hk
  clear hk
  go_enter Try.func22, Try.ntmps22
  go_wp2_with fail
  go_region
  all_goals
    go_wp2_with fail
    exact bodyPost_ret (v := .tuple #[.agg #[.int .i64 0, .int .i64 0, .int .i64 0, .int .i64 0, .int .u64 0], .bool false]) (by simp only [results, Try.results22]; go_simp) rfl ⟨rfl, (((Below.refl _ _).alloc (Nat.le_refl _) _).alloc (by simp) _).drew⟩

set_option maxHeartbeats 1000000 in
theorem get_some (k : Ky) (x : It) (i : Nat) (hb : Nat) (lv mv : Value) (T : TypeId) (s : Hp) (w : World) (H : HV w hb lv mv T s) (hk : MapTy.get s.M k = some (i : Int)) (hs : s.L[i]? = some x) :
    Calls Try.prog 22 #[.pointer (some ⟨hb, 0, none⟩), .agg #[.int .i64 k.run, .int .i64 k.kind, .int .i64 k.id]] w fun e w' => e = .returned (.tuple #[.agg #[.int .i64 x.run, .int .i64 x.kind, .int .i64 x.id, .int .i64 x.due, .int .u64 x.seq], .bool true]) ∧ Below w.heap.size w w' := by
  have b0 : hb < w.heap.size := lt_of_heap H.h
  have c1 : w.cell? ⟨hb, 1, none⟩ = some mv := by rw [cell_of_heap H.h]; rfl
  have c0 : w.cell? ⟨hb, 0, none⟩ = some lv := by rw [cell_of_heap H.h]; rfl
  have hl := seek_some H k hk
  have hil : i < s.L.length := (List.getElem?_eq_some_iff.1 hs).1
  have hpos : 0 < s.L.length := by omega
  obtain ⟨mb, rfl⟩ : ∃ mb, mv = .map (some mb) := by
    rcases H.map with ⟨_, h⟩ | ⟨b, h, _⟩
    · rw [h] at hk; simp [MapTy.get] at hk
    · exact ⟨b, h⟩
  obtain ⟨g, off, cap, rfl, HH⟩ := H.toHX (by intro e; rw [e] at hpos; cases hpos) rfl
  obtain ⟨e0, e1, e2, e3, e4⟩ := row_cells HH.row hs
  have hg : g < w.heap.size := HH.row.lt (g := g) rfl
  have hi0 : (0 : Int) ≤ (i : Int) := by omega
  have hi1 : (i : Int) < (s.L.length : Int) := by omega
  clear hs hk H HH
  go_enter Try.func22, Try.ntmps22
  go_wp2_with fail
  go_region
  all_goals
    go_wp2_with fail
    exact bodyPost_ret (v := .tuple #[.agg #[.int .i64 x.run, .int .i64 x.kind, .int .i64 x.id, .int .i64 x.due, .int .u64 x.seq], .bool true]) (by simp only [results, Try.results22]; go_simp) rfl ⟨rfl, (((Below.refl _ _).alloc (Nat.le_refl _) _).alloc (by simp) _).drew⟩

theorem rightOK_of {s : Hp} (h : Hm.Good s) : RightOK s :=
  ⟨fun i x y hi hx hy => h.right.2 i x y hi hx hy, fun i x hx => by
    obtain ⟨j, hj⟩ := List.getElem?_eq_some_iff.1 hx
    exact h.idx.at_ i x hx, h.right.1⟩
theorem MapV.size {κ ν : Type} {M : MapTy κ ν} {P : Program} {w : World} {mv : Value} {m : List (κ × ν)} (h : MapV M w mv m) {t k e : TypeId} (ht : P.underlying t = some (.map k e)) (RT : TypeId) (W : World) (hW : ∀ b, mv = .map (some b) → blk W b = blk w b) :
    (Builtin.len_ #[t] RT #[mv]).run P W = .ok (.int .i64 m.length) W := by
  rcases h with ⟨rfl, rfl⟩ | ⟨b, rfl, h⟩
  · simp [Builtin.len_, run_underlying ht, Result.andThen, goInt]
  · exact h.size ht RT W (hW b rfl)

set_option maxHeartbeats 1000000 in
theorem right_any (hb : Nat) (lv mv : Value) (T : TypeId) (s : Hp) (w : World) (H : HV w hb lv mv T s) (hg : Hm.Good s) (hcap : s.L.length ≤ 16384) :
    Calls Try.prog 17 #[.pointer (some ⟨hb, 0, none⟩)] w fun e w' => e = .returned (.bool true) ∧ Below w.heap.size w w' := by
  by_cases hs : s.L = []
  · have hM : s.M.length = 0 := by rw [hg.right.1, hs]; rfl
    obtain ⟨a, cap, rfl⟩ := H.row.slice
    obtain ⟨c0, c1, b0, hn⟩ := H.facts
    rw [hs] at c0
    simp only [List.length_nil] at c0
    have hlen := H.map.size Try.underlying25 3 w.drew (fun b h => rfl)
    rw [hM] at hlen
    have c1 : w.cell? ⟨hb, 1, none⟩ = some mv := by rw [cell_of_heap H.h]; rfl
    clear hs hn hM hg
    go_enter Try.func17, Try.ntmps17
    go_wp2_with fail
    go_loopw [10] (fun v wr => v = .int .i64 0 ∧ wr = w) (fun v _ => 0)
    case atStart => exact ⟨rfl, rfl⟩
    case round =>
      obtain ⟨rfl, rfl⟩ := hrel
      go_wp2_with fail
      go_region
      all_goals
        go_wp2_with fail
        go_ret
        exact ⟨by simp, (Below.refl _ _).drew⟩
  · rcases H.map with ⟨rfl, h⟩ | ⟨mb, rfl, hm⟩
    · exact absurd (by have := hg.right.1; rw [h] at this; exact List.eq_nil_of_length_eq_zero this.symm) hs
    · obtain ⟨g, off, cap, rfl, HH⟩ := H.toHX hs rfl
      exact right_some hb g off cap mb T s w HH (rightOK_of hg) hcap
end Go.Proofs.Ytkhphnidopbjjaa
