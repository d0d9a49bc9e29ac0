/- The heap's methods, walked: Put. -/
import Derived.Test.YtkhphnidopbjjaaH3
namespace Go.Proofs.Ytkhphnidopbjjaa
open Go.RowKit Go.Own Go.Own.MapTy Go.Hm
open Go.Own.Cells (sz enc)

/-- the value mv is a map that holds the pairs m, or nil -/
def MapV {κ ν : Type} (M : MapTy κ ν) (w : World) (mv : Value) (m : List (κ × ν)) : Prop := (mv = .map none ∧ m = []) ∨ ∃ b, mv = .map (some b) ∧ MapAt M w b m
/-- the heap at block hb, its list lv and its map mv maybe nil -/
structure HV (w : World) (hb : Nat) (lv mv : Value) (T : TypeId) (s : Hp) : Prop where
  h : w.heap[hb]? = some (.cells #[lv, mv, .int .u64 s.seq] T (0, 0))
  row : RowAt w 35 lv s.L
  map : MapV KM w mv s.M
  hg : ∀ g, lv.ownBlock = some g → hb ≠ g
/-- the blocks of a heap -/
def foot (hb : Nat) (lv mv : Value) (k : Nat) : Prop := k = hb ∨ lv.ownBlock = some k ∨ mv = .map (some k)

theorem MapV.keep {κ ν : Type} {M : MapTy κ ν} {w w' : World} {mv : Value} {m : List (κ × ν)} {S : Nat → Prop} (h : MapV M w mv m) (k : Keeps S w w') (hs : ∀ b, mv = .map (some b) → ¬ S b) : MapV M w' mv m := by
  rcases h with h | ⟨b, rfl, h⟩
  · exact .inl h
  · exact .inr ⟨b, rfl, h.keep k (hs b rfl)⟩
theorem HV.keep {w w' : World} {hb : Nat} {lv mv : Value} {T : TypeId} {s : Hp} {S : Nat → Prop} (H : HV w hb lv mv T s) (k : Keeps S w w') (hs : ∀ j, foot hb lv mv j → ¬ S j) : HV w' hb lv mv T s :=
  ⟨by rw [k.block hb (lt_of_heap H.h) (hs hb (.inl rfl))]; exact H.h, H.row.keep k (fun g h => hs g (.inr (.inl h))), H.map.keep k (fun b h => hs b (.inr (.inr h))), H.hg⟩
theorem HV.lt {w : World} {hb : Nat} {lv mv : Value} {T : TypeId} {s : Hp} (H : HV w hb lv mv T s) {j : Nat} (hj : foot hb lv mv j) : j < w.heap.size := by
  rcases hj with rfl | h | h
  · exact lt_of_heap H.h
  · exact H.row.lt h
  · rcases H.map with ⟨h', _⟩ | ⟨b, h', hm⟩
    · rw [h'] at h; cases h
    · rw [h'] at h; cases h; exact hm.lt
theorem HX.toHV {w : World} {hb g off cap mb : Nat} {T : TypeId} {s : Hp} (H : HX w hb g off cap mb T s) : HV w hb (.slice (some ⟨g, off, none⟩) s.L.length cap) (.map (some mb)) T s :=
  ⟨H.h, H.row, .inr ⟨mb, rfl, H.map⟩, fun g' h => by cases h; exact H.hg⟩
theorem HV.toHX {w : World} {hb : Nat} {lv mv : Value} {T : TypeId} {s : Hp} (H : HV w hb lv mv T s) (hl : s.L ≠ []) {mb : Nat} (hm : mv = .map (some mb)) : ∃ g off cap, lv = .slice (some ⟨g, off, none⟩) s.L.length cap ∧ HX w hb g off cap mb T s := by
  subst hm
  rcases H.row with ⟨_, h⟩ | ⟨g, off, cap, cur, hv, h⟩
  · exact absurd h hl
  · subst hv
    refine ⟨g, off, cap, rfl, H.h, H.row, ?_, H.hg g rfl⟩
    rcases H.map with ⟨h', _⟩ | ⟨b, h', hm⟩
    · cases h'
    · cases h'; exact hm

theorem MapV.look {κ ν : Type} [DecidableEq κ] {M : MapTy κ ν} {P : Program} {k e t : TypeId} {w : World} {mv : Value} {m : List (κ × ν)} (h : MapV M w mv m) (K : KLaw M P k) (ht : P.underlying t = some (.map k e)) {z : Value} (hz : ∀ W, (zeroValue e).run P W = .ok z W) (x : κ) (c : Bool)
    (W : World) (hW : ∀ b, mv = .map (some b) → blk W b = blk w b) : (Instr.lookup t mv (M.ke x) c).run P W = .ok (if c then .tuple #[((MapTy.get m x).map M.ve).getD z, .bool (MapTy.get m x).isSome] else ((MapTy.get m x).map M.ve).getD z) W := by
  rcases h with ⟨rfl, rfl⟩ | ⟨b, rfl, h⟩
  · have hf := K.find W x [] [] rfl
    simp only [seek, Option.map_none] at hf
    simp [Instr.lookup, run_underlying ht, K.check W _ x, hf, hz, Result.andThen, MapTy.get]
  · exact h.look K ht hz x c W (hW b rfl)

theorem info35 : (Try.prog.info? 35).map (fun i => (i.zero, i.size, i.bytes)) = some (some (.agg #[.int .i64 0, .int .i64 0, .int .i64 0, .int .i64 0, .int .u64 0]), 5, 40) := by kernel_rfl

theorem news_one {W : World} {b : Nat} {x : It} {e : TypeId} {fr : Nat × Nat} (h : W.heap[b]? = some (.cells #[.int .i64 x.run, .int .i64 x.kind, .int .i64 x.id, .int .i64 x.due, .int .u64 x.seq] e fr)) :
    ∀ j u, ([x].flatMap enc)[j]? = some u → W.cell? ((⟨b, 0, none⟩ : Addr).add j) = some u := by
  intro j u hu
  rw [Addr.add_lit, cell_of_heap h, Nat.zero_add]
  simp [enc, itEnc] at hu ⊢
  exact hu
theorem HX.foot_of {w : World} {hb g off cap mb : Nat} {T : TypeId} {s : Hp} {j n : Nat} (_ : HX w hb g off cap mb T s) (hj : foot hb (.slice (some ⟨g, off, none⟩) n cap) (.map (some mb)) j) : j = hb ∨ j = g ∨ j = mb := by
  rcases hj with h | h | h
  · exact .inl h
  · simp [Value.ownBlock] at h; exact .inr (.inl h.symm)
  · simp at h; exact .inr (.inr h.symm)
/-- behind the append: the new list is in its place -/
def PutMid (w : World) (hb : Nat) (lv mv : Value) (T : TypeId) (s1 : Hp) (w3 : World) : Prop :=
  ∃ g off cap mb, HX w3 hb g off cap mb T s1 ∧ Keeps (foot hb lv mv) w w3 ∧ ∀ j, j = g ∨ j = mb → (foot hb lv mv j ∨ (w.heap.size ≤ j ∧ j < w3.heap.size))
/-- where a map is there -/
def PutMap (w : World) (hb : Nat) (lv mv : Value) (T : TypeId) (s : Hp) (k : Ky) (wx : World) : Prop :=
  ∃ mb, wx.heap[hb]? = some (.cells #[lv, .map (some mb), .int .u64 s.seq] T (0, 0)) ∧ MapAt KM wx mb s.M ∧ Keeps (fun j => j = hb) w wx ∧ wx.heap[w.heap.size]? = some (.cells #[.int .i64 k.run, .int .i64 k.kind, .int .i64 k.id] 32 (0, 0)) ∧
    (foot hb lv mv mb ∨ (w.heap.size ≤ mb ∧ mb < wx.heap.size)) ∧ lv.ownBlock ≠ some mb
theorem putMid_mk {w w1 w2 : World} {hb mb : Nat} {T : TypeId} {s s1 : Hp} {x : It} {lv v2 mv : Value}
    (hs1 : s1 = { L := s.L ++ [x], M := s.M, seq := s.seq + 1 }) (k1 : Keeps (fun j => j = hb) w w1) (W : World) (hW : Keeps (fun _ => False) w1 W) (hg2 : W.grownBy w2 lv.ownBlock) (hr2 : RowAt w2 35 v2 (s.L ++ [x]))
    (hf2 : ∀ g, v2.ownBlock = some g → lv.ownBlock = some g ∨ (W.heap.size ≤ g ∧ g < w2.heap.size)) (h1 : w1.heap[hb]? = some (.cells #[lv, .map (some mb), .int .u64 (s.seq + 1)] T (0, 0)))
    (HB : ∀ g, lv.ownBlock = some g → hb ≠ g) (hm : MapAt KM w1 mb s.M) (hmb : lv.ownBlock ≠ some mb) (hmf : foot hb lv mv mb ∨ (w.heap.size ≤ mb ∧ mb < w1.heap.size)) : PutMid w hb lv mv T s1 (w2.setCell ⟨hb, 0, none⟩ v2) := by
  subst hs1
  have b1 := lt_of_heap h1
  have hbm : hb ≠ mb := by
    intro e
    obtain ⟨es, clock, h, _⟩ := hm
    rw [← e, h1] at h; cases h
  have k2 : Keeps (fun j => lv.ownBlock = some j) w1 w2 := (hW.mono (fun _ _ h => h.elim)).comp (Keeps.of_grown (S := fun j => lv.ownBlock = some j) hg2 (fun k h => h))
  have k3 : Keeps (fun j => j = hb ∨ lv.ownBlock = some j) w1 (w2.setCell ⟨hb, 0, none⟩ v2) := (k2.mono (fun _ _ h => .inr h)).setCell (p := ⟨hb, 0, none⟩) (.inl (.inl rfl)) _
  have hh2 : w2.heap[hb]? = some (.cells #[lv, .map (some mb), .int .u64 (s.seq + 1)] T (0, 0)) := by rw [k2.block hb b1 (fun e => HB hb e rfl)]; exact h1
  rcases hr2 with ⟨_, h⟩ | ⟨g, off, cap, cur, rfl, hcur, hr⟩
  · simp at h
  · have hne : hb ≠ g := by
      rcases hf2 g rfl with h | h
      · exact HB g h
      · have := hW.size; omega
    refine ⟨g, off, cap, mb, ⟨?_, ?_, hm.keep k3 (by rintro (h | h); exact hbm h.symm; exact hmb h), hne⟩, ?_, ?_⟩
    · simp [World.setCell, Array.getElem?_modify, hh2]
    · refine RowAt.frame (w := w2) (.inr ⟨g, off, cap, cur, rfl, hcur, hr⟩) (fun g' h => ?_)
      cases h
      exact Below.heap_setCell _ _ _ _ (Ne.symm hne)
    · exact (k1.mono (fun _ _ h => .inl h)).trans k3 (fun j _ h => by rcases h with h | h; exact .inl h; exact .inr (.inl h))
    · rintro j (rfl | rfl)
      · rcases hf2 j rfl with h | h
        · exact .inl (.inr (.inl h))
        · exact .inr ⟨by have := hW.size; have := k1.size; omega, by rw [setCell_size]; exact h.2⟩
      · rcases hmf with h | h
        · exact .inl h
        · exact .inr ⟨h.1, by have := k3.size; omega⟩
def PutPost (hb : Nat) (lv mv : Value) (T : TypeId) (r : Hp × Int) (w : World) (e : Ending) (w' : World) : Prop :=
  ∃ lv' mv', e = .returned (.int .i64 r.2) ∧ HV w' hb lv' mv' T r.1 ∧ Keeps (foot hb lv mv) w w' ∧ ∀ j, foot hb lv' mv' j → foot hb lv mv j ∨ (w.heap.size ≤ j ∧ j < w'.heap.size)

set_option maxHeartbeats 1000000 in
theorem put_old (k : Ky) (due : Int) (hb : Nat) (lv mv : Value) (T : TypeId) (s : Hp) (w : World) (H : HV w hb lv mv T s) (hk : (MapTy.get s.M k).isSome = true) :
    Calls Try.prog 13 #[.pointer (some ⟨hb, 0, none⟩), .agg #[.int .i64 k.run, .int .i64 k.kind, .int .i64 k.id], .int .i64 due] w (PutPost hb lv mv T (s.put k due) w) := by
  have b0 : hb < w.heap.size := lt_of_heap H.h
  have c1 : w.cell? ⟨hb, 1, none⟩ = some mv := by rw [cell_of_heap H.h]; rfl
  have hl := H.map.look klaw Try.underlying25 (z := .int .i64 0) (fun W => by kernel_rfl) k true (w.alloc (.cells #[.int .i64 k.run, .int .i64 k.kind, .int .i64 k.id] 32)).drew (fun b h => Below.heap_alloc _ _ _ (H.lt (.inr (.inr h))))
  obtain ⟨v, hv⟩ := Option.isSome_iff_exists.1 hk
  replace hl : (Instr.lookup 25 mv (.agg #[.int .i64 k.run, .int .i64 k.kind, .int .i64 k.id]) true).run Try.prog (w.alloc (.cells #[.int .i64 k.run, .int .i64 k.kind, .int .i64 k.id] 32)).drew = .ok (.tuple #[.int .i64 v, .bool true]) (w.alloc (.cells #[.int .i64 k.run, .int .i64 k.kind, .int .i64 k.id] 32)).drew := by rw [hv] at hl; exact hl
  have HK := Lib.hid hk
  clear hk hv
  go_enter Try.func13, Try.ntmps13
  go_wp2
  go_region
  go_wp2
  all_goals
    go_ret
    have KA : Keeps (fun _ => False) w (w.alloc (.cells #[.int .i64 k.run, .int .i64 k.kind, .int .i64 k.id] 32)).drew := ((Keeps.refl _ w).alloc _).drew
    rw [put_twice HK.out]
    exact ⟨lv, mv, rfl, H.keep KA (fun _ _ h => h), KA.mono (fun _ _ h => h.elim), fun _ h => .inl h⟩

set_option maxRecDepth 100000 in
set_option maxHeartbeats 1000000 in
theorem put_full_calls (k : Ky) (due : Int) (hb : Nat) (lv mv : Value) (T : TypeId) (s : Hp) (w : World) (H : HV w hb lv mv T s) (hk : (MapTy.get s.M k).isSome = false) (hf : 16384 ≤ s.L.length) :
    Calls Try.prog 13 #[.pointer (some ⟨hb, 0, none⟩), .agg #[.int .i64 k.run, .int .i64 k.kind, .int .i64 k.id], .int .i64 due] w (PutPost hb lv mv T (s.put k due) w) := by
  have b0 : hb < w.heap.size := lt_of_heap H.h
  obtain ⟨a, cap, rfl⟩ := H.row.slice
  have hn : s.L.length ≤ 9223372036854775807 := by have := H.row.length_le; unfold maxLen at this; omega
  have c0 : w.cell? ⟨hb, 0, none⟩ = some (.slice a s.L.length cap) := by rw [cell_of_heap H.h]; rfl
  have c1 : w.cell? ⟨hb, 1, none⟩ = some mv := by rw [cell_of_heap H.h]; rfl
  have hl := H.map.look klaw Try.underlying25 (z := .int .i64 0) (fun W => by kernel_rfl) k true (w.alloc (.cells #[.int .i64 k.run, .int .i64 k.kind, .int .i64 k.id] 32)).drew (fun b h => Below.heap_alloc _ _ _ (H.lt (.inr (.inr h))))
  have hv : MapTy.get s.M k = none := by simpa using hk
  replace hl : (Instr.lookup 25 mv (.agg #[.int .i64 k.run, .int .i64 k.kind, .int .i64 k.id]) true).run Try.prog (w.alloc (.cells #[.int .i64 k.run, .int .i64 k.kind, .int .i64 k.id] 32)).drew = .ok (.tuple #[.int .i64 0, .bool false]) (w.alloc (.cells #[.int .i64 k.run, .int .i64 k.kind, .int .i64 k.id] 32)).drew := by rw [hv] at hl; exact hl
  have HK := Lib.hid hk
  clear hk hv
  go_enter Try.func13, Try.ntmps13
  go_wp2
  go_region
  go_wp2
  all_goals
    go_ret
    have KA : Keeps (fun _ => False) w (w.alloc (.cells #[.int .i64 k.run, .int .i64 k.kind, .int .i64 k.id] 32)).drew := ((Keeps.refl _ w).alloc _).drew
    rw [put_full HK.out hf]
    exact ⟨_, mv, rfl, H.keep KA (fun _ _ h => h), KA.mono (fun _ _ h => h.elim), fun _ h => .inl h⟩

set_option maxRecDepth 100000 in
set_option maxHeartbeats 2000000 in
theorem put_new_calls (k : Ky) (due : Int) (hb : Nat) (lv mv : Value) (T : TypeId) (s : Hp) (w : World) (H : HV w hb lv mv T s) (hk : (MapTy.get s.M k).isSome = false) (hf : ¬ 16384 ≤ s.L.length) (hq : 0 ≤ s.seq ∧ s.seq < 18446744073709551615) :
    Calls Try.prog 13 #[.pointer (some ⟨hb, 0, none⟩), .agg #[.int .i64 k.run, .int .i64 k.kind, .int .i64 k.id], .int .i64 due] w (PutPost hb lv mv T (s.put k due) w) := by
  have b0 : hb < w.heap.size := lt_of_heap H.h
  obtain ⟨a, cap, rfl⟩ := H.row.slice
  obtain ⟨r, rfl⟩ : ∃ r, mv = .map r := by
    rcases H.map with ⟨h, _⟩ | ⟨b, h, _⟩
    · exact ⟨_, h⟩
    · exact ⟨_, h⟩
  have hlt : Hid (∀ g, (Value.slice a s.L.length cap).ownBlock = some g → g < w.heap.size) := fun g h => H.row.lt h
  have hn : s.L.length ≤ 9223372036854775807 := by have := H.row.length_le; unfold maxLen at this; omega
  have hn16 : s.L.length < 16384 := by omega
  have c0 : w.cell? ⟨hb, 0, none⟩ = some (.slice a s.L.length cap) := by rw [cell_of_heap H.h]; rfl
  have c1 : w.cell? ⟨hb, 1, none⟩ = some (.map r) := by rw [cell_of_heap H.h]; rfl
  have f1 : ∀ o, w.frozen? ⟨hb, o, none⟩ = false := fun o => frozen_of_heap H.h o
  have hl := H.map.look klaw Try.underlying25 (z := .int .i64 0) (fun W => by kernel_rfl) k true (w.alloc (.cells #[.int .i64 k.run, .int .i64 k.kind, .int .i64 k.id] 32)).drew (fun b h => Below.heap_alloc _ _ _ (H.lt (.inr (.inr h))))
  have hv : MapTy.get s.M k = none := by simpa using hk
  replace hl : (Instr.lookup 25 (.map r) (.agg #[.int .i64 k.run, .int .i64 k.kind, .int .i64 k.id]) true).run Try.prog (w.alloc (.cells #[.int .i64 k.run, .int .i64 k.kind, .int .i64 k.id] 32)).drew = .ok (.tuple #[.int .i64 0, .bool false]) (w.alloc (.cells #[.int .i64 k.run, .int .i64 k.kind, .int .i64 k.id] 32)).drew := by rw [hv] at hl; exact hl
  have hnil := fun (w : World) => run_eql_map_nil (P := Try.prog) w 25 32 3 r Try.underlying25
  have hmm := @run_makeMap Try.prog
  have hsq : IntKind.u64.wrap (s.seq + 1) = s.seq + 1 := by rw [IntKind.wrap_u64]; omega
  have HK := Lib.hid hk
  clear hk hv
  obtain ⟨i0, hi0, hz0, hz1, hz2⟩ := info_parts info35
  have HI := Lib.hid (And.intro hi0 (And.intro hz0 (And.intro hz1 hz2)))
  clear hi0 hz0 hz1 hz2
  have HH := Lib.hid H
  clear H
  go_enter Try.func13, Try.ntmps13
  go_wp2
  go_region
  go_upto_if 29 with fail
  go_cut [] (fun wx => PutMap w hb (.slice a s.L.length cap) (.map r) T s k wx)
  case first =>
    cases r with
    | none =>
      go_wp2_with fail
      go_meet
      case rel =>
        have H := HH.out
        have hs : (w.setCell ⟨hb, 1, none⟩ (.map (some (w.heap.size + 1)))).heap.size = w.heap.size := setCell_size _ _ _
        refine ⟨w.heap.size + 1, ?_, ?_, ((((Keeps.refl (fun j => j = hb) w).setCell (p := ⟨hb, 1, none⟩) (.inl rfl) _).alloc _).alloc _).drew, ?_, .inr ⟨by omega, by simp [hs]⟩, fun e => by have := hlt.out _ e; omega⟩
        · show (((w.setCell ⟨hb, 1, none⟩ (.map (some (w.heap.size + 1)))).alloc _).alloc _).heap[hb]? = _
          rw [Below.heap_alloc _ _ _ (by simp [hs]; omega), Below.heap_alloc _ _ _ (by rw [hs]; exact b0)]
          simp [World.setCell, Array.getElem?_modify, H.h]
        · have he : s.M = [] := by
            rcases H.map with ⟨_, h⟩ | ⟨b, h', _⟩
            · exact h
            · cases h'
          rw [he]
          exact ⟨#[], 0, alloc_at (w := (w.setCell ⟨hb, 1, none⟩ (.map (some (w.heap.size + 1)))).alloc _) (by simp [hs]), rfl, by simp⟩
        · show (((w.setCell ⟨hb, 1, none⟩ (.map (some (w.heap.size + 1)))).alloc _).alloc _).heap[w.heap.size]? = _
          rw [Below.heap_alloc _ _ _ (by simp [hs])]
          exact alloc_at hs.symm
    | some mb =>
      go_wp2_with fail
      go_meet
      case rel =>
        have H := HH.out
        have kA : Keeps (fun j => j = hb) w (w.alloc (.cells #[.int .i64 k.run, .int .i64 k.kind, .int .i64 k.id] 32)).drew := ((Keeps.refl (fun j => j = hb) w).alloc _).drew
        rcases H.map with ⟨h', _⟩ | ⟨b, h', hm⟩
        · cases h'
        · cases h'
          refine ⟨mb, ?_, hm.frame (Below.heap_alloc _ _ _ hm.lt), kA, heap_alloc_new w _, .inl (.inr (.inr rfl)), ?_⟩
          · show (w.alloc _).heap[hb]? = _
            rw [Below.heap_alloc _ _ _ b0]; exact H.h
          · intro e
            obtain ⟨es, clock, hm, _⟩ := hm
            rcases H.row with ⟨h', _⟩ | ⟨g', off', cap', cur, h', hcur, _⟩
            · rw [h'] at e; cases e
            · rw [h'] at e; cases e
              rw [hcur] at hm; cases hm
  case rest =>
    obtain ⟨mb, h0, hm0, k0, q0, hmf, hmb⟩ := hcut
    clear c0 c1 f1
    have c0 : wc.cell? ⟨hb, 0, none⟩ = some (.slice a s.L.length cap) := by rw [cell_of_heap h0]; rfl
    have c2 : wc.cell? ⟨hb, 2, none⟩ = some (.int .u64 s.seq) := by rw [cell_of_heap h0]; rfl
    have f1 : ∀ o, wc.frozen? ⟨hb, o, none⟩ = false := fun o => frozen_of_heap h0 o
    have b1 : hb < wc.heap.size := lt_of_heap h0
    have hs1 : w.heap.size < wc.heap.size := lt_of_heap q0
    have k1 : Keeps (fun j => j = hb) w (wc.setCell ⟨hb, 2, none⟩ (.int .u64 (s.seq + 1))) := k0.setCell (p := ⟨hb, 2, none⟩) (.inl rfl) _
    have kk : Keeps (fun j => j = hb) wc (wc.setCell ⟨hb, 2, none⟩ (.int .u64 (s.seq + 1))) := (Keeps.refl (fun j => j = hb) wc).setCell (p := ⟨hb, 2, none⟩) (.inl rfl) _
    have d1 : mb ≠ hb := by
      intro e
      obtain ⟨es, clock, h, _⟩ := hm0
      rw [e, h0] at h; cases h
    have h1 : (wc.setCell ⟨hb, 2, none⟩ (.int .u64 (s.seq + 1))).heap[hb]? = some (.cells #[.slice a s.L.length cap, .map (some mb), .int .u64 (s.seq + 1)] T (0, 0)) := by
      simp [World.setCell, Array.getElem?_modify, h0]
    have q1 : (wc.setCell ⟨hb, 2, none⟩ (.int .u64 (s.seq + 1))).heap[w.heap.size]? = some (.cells #[.int .i64 k.run, .int .i64 k.kind, .int .i64 k.id] 32 (0, 0)) := by rw [Below.heap_setCell _ _ _ _ (by simp; omega)]; exact q0
    have r1 := Lib.hid (HH.out.row.keep k1 (fun g h => Ne.symm (HH.out.hg g h)))
    have m1 := Lib.hid (hm0.keep kk d1)
    have hmf1 : Hid (foot hb (.slice a s.L.length cap) (.map r) mb ∨ (w.heap.size ≤ mb ∧ mb < (wc.setCell ⟨hb, 2, none⟩ (.int .u64 (s.seq + 1))).heap.size)) := by rw [setCell_size]; exact hmf
    have K1 := Lib.hid k1
    have H1 := Lib.hid h1
    have Q1 := Lib.hid q1
    have HMB := Lib.hid hmb
    clear h0 hm0 k0 q0 hmf k1 kk h1 q1 hmb
    go_wp2
    generalize hw1 : wc.setCell ⟨hb, 2, none⟩ (.int .u64 (s.seq + 1)) = w1 at *
    clear hw1 c0 c2 f1 b1 hs1
    have k1 := K1.out
    have h1 := H1.out
    have q0 := Q1.out
    have c0 : w1.cell? ⟨hb, 0, none⟩ = some (.slice a s.L.length cap) := by rw [cell_of_heap h1]; rfl
    have c2 : w1.cell? ⟨hb, 2, none⟩ = some (.int .u64 (s.seq + 1)) := by rw [cell_of_heap h1]; rfl
    have f1 : w1.frozen? ⟨hb, 0, none⟩ = false := frozen_of_heap h1 0
    have y0 : w1.cell? ⟨w.heap.size, 0, none⟩ = some (.int .i64 k.run) := by rw [cell_of_heap q0]; rfl
    have y1 : w1.cell? ⟨w.heap.size, 1, none⟩ = some (.int .i64 k.kind) := by rw [cell_of_heap q0]; rfl
    have y2 : w1.cell? ⟨w.heap.size, 2, none⟩ = some (.int .i64 k.id) := by rw [cell_of_heap q0]; rfl
    have b1 : hb < w1.heap.size := lt_of_heap h1
    have hs1 : w.heap.size < w1.heap.size := lt_of_heap q0
    have HB : Hid (∀ g, (Value.slice a s.L.length cap).ownBlock = some g → hb ≠ g) := HH.out.hg
    clear h1 q0
    go_cut [] (fun wx => PutMid w hb (.slice a s.L.length cap) (.map r) T { L := s.L ++ [⟨k.run, k.kind, k.id, due, s.seq + 1⟩], M := s.M, seq := s.seq + 1 } wx)
    case first =>
      go_region_law ((refine step_append (α := It) (by rfl) (.tmp 45) (.tmp 53) 24 (by rfl) 35 i0 _ 40 Try.underlying24 HI.out.1 HI.out.2.1 HI.out.2.2.1 HI.out.2.2.2 (by rfl) (.slice a s.L.length cap) s.L (by rfl) (r1.out.frame (fun g h => Below.heap_alloc _ _ _ (r1.out.lt h))) ⟨w1.heap.size, 0, none⟩ 1 1 [⟨k.run, k.kind, k.id, due, s.seq + 1⟩] (by rfl) (by rfl) (news_one (x := ⟨k.run, k.kind, k.id, due, s.seq + 1⟩) (heap_alloc_new w1 _)) (by omega) (by unfold maxLen; omega) ?_; intro v2 w2 hr2 hg2 hf2; obtain ⟨a2, cap2, rfl⟩ := hr2.slice; have c3 : w2.cell? ⟨hb, 0, none⟩ = some (.slice a s.L.length cap) := hg2.cell (by go_simp) (fun e => HB.out hb e.symm rfl); have f3 : w2.frozen? ⟨hb, 0, none⟩ = false := (World.frozen?_of_block (hg2.block hb (by simp; omega) (fun e => HB.out hb e.symm rfl))).trans (by go_simp)))
      all_goals
        go_wp2_with fail
        go_meet
        simp only [List.length_append, List.length_cons, List.length_nil, Nat.zero_add] at hr2 hf2
        case rel => exact putMid_mk rfl k1 _ (((Keeps.refl (fun _ => False) w1).alloc _).drew) hg2 hr2 hf2 H1.out HB.out m1.out HMB.out hmf1.out
    case rest =>
      obtain ⟨g, off, cap2, mb2, hX, hK, hF⟩ := hcut
      obtain ⟨c0, c1, c2, p0, p1, p2, hn'⟩ := hX.facts
      clear c1 c2
      have hlen : ((s.L ++ [(⟨k.run, k.kind, k.id, due, s.seq + 1⟩ : It)]).length : Int) - 1 = (s.L.length : Int) := by simp
      go_wp2_with fail
      refine (up_any ⟨k.run, k.kind, k.id, due, s.seq + 1⟩ s.L.length hb g off cap2 mb2 T _ _ hX (by simp)).mono ?_
      rintro e w5 ⟨rfl, hX5, hK5⟩
      go_wp2
      go_ret
      rw [put_new HK.out hf]
      refine ⟨_, _, rfl, hX5.toHV, hK.trans hK5 ?_, ?_⟩
      · intro j hj h
        rcases hF j h with h | h
        · exact h
        · omega
      · intro j hj
        rcases hX5.foot_of hj with rfl | h
        · exact .inl (.inl rfl)
        · rcases hF j h with h | h
          · exact .inl h
          · exact .inr ⟨h.1, Nat.lt_of_lt_of_le h.2 hK5.size⟩

/-- Put, whatever there is. -/
theorem put_any (k : Ky) (due : Int) (hb : Nat) (lv mv : Value) (T : TypeId) (s : Hp) (w : World) (H : HV w hb lv mv T s) (hq : 0 ≤ s.seq ∧ s.seq < 18446744073709551615) :
    Calls Try.prog 13 #[.pointer (some ⟨hb, 0, none⟩), .agg #[.int .i64 k.run, .int .i64 k.kind, .int .i64 k.id], .int .i64 due] w (PutPost hb lv mv T (s.put k due) w) := by
  cases hk : (MapTy.get s.M k).isSome with
  | true => exact put_old k due hb lv mv T s w H hk
  | false =>
    by_cases hf : 16384 ≤ s.L.length
    · exact put_full_calls k due hb lv mv T s w H hk hf
    · exact put_new_calls k due hb lv mv T s w H hk hf hq
end Go.Proofs.Ytkhphnidopbjjaa
