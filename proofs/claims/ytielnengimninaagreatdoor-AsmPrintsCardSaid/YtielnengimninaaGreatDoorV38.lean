/- strings.Builder: WriteString, WriteByte, String, walked at this program. -/
import Derived.Test.YtielnengimninaaGreatDoorV12
import Derived.Test.YtielnengimninaaGreatDoorShelf4
import Derived.Shelf.Strings.BuilderK
namespace Go.Va
open Go.Own Go.RowKit
/-- what a builder's writer leaves -/
structure SK (b : Nat) (w w' : World) : Prop where
  below : Below b w w'
  kept : Lib.OthersKept 5 (some b) w w'
theorem SK.refl (b : Nat) (w : World) : SK b w w := ⟨Below.refl _ _, Lib.OthersKept.refl _ _ _⟩
theorem SK.trans {b : Nat} {w w' w'' : World} (h : SK b w w') (k : SK b w' w'') : SK b w w'' := ⟨h.below.trans k.below, h.kept.trans k.kept⟩
theorem SK.of_below {b : Nat} {w w' : World} (hb : b ≤ w.heap.size) (K : Below w.heap.size w w') : SK b w w' :=
  ⟨K.mono hb, fun k _ hk _ _ => (K.block k (lt_of_heap hk)).trans hk⟩
/-- a block that is neither the builder nor a row of bytes -/
theorem SK.heap {b : Nat} {w w' : World} (h : SK b w w') {k : Nat} {cs : Array Value} {t : TypeId} {fr : Nat × Nat} (hk : w.heap[k]? = some (.cells cs t fr)) (hb : k ≠ b) (ht : t ≠ 5) : w'.heap[k]? = some (.cells cs t fr) :=
  h.kept k _ hk (by simpa using hb) (fun c fz e => by cases e; exact ht rfl)
end Go.Va
namespace Go.Proofs.YtielnengimninaaGreatDoor
open Go.RowKit Go.Own Go.Own.MapTy Go.Va Go.Sort
open Go.Own.Cells (sz enc)
/-- the builder in block b holds the bytes l -/
def SB (b : Nat) (l : List UInt8) (w : World) : Prop := Lib.IsBuilder 106 5 b b (Lib.byteCells l) w
theorem SB.lt {b : Nat} {l : List UInt8} {w : World} (h : SB b l w) : b < w.heap.size := by
  rcases h with h | h <;> exact h.lt
theorem SB.ext {b : Nat} {l : List UInt8} {w w' : World} (h : SB b l w) (K : Below w.heap.size w w') : SB b l w' := by
  have hlt := h.lt
  have go : ∀ p, Lib.BuilderAt 106 5 b b p (Lib.byteCells l) w → Lib.BuilderAt 106 5 b b p (Lib.byteCells l) w' := by
    rintro p ⟨hB, v, hb, hown, hne⟩
    exact ⟨hB, v, (K.block b hlt).trans hb, hown.kept (row := none) ⟨K.os, K.tape, K.output, K.size, fun k hk _ => K.block k hk⟩ (by cases hv : v.ownBlock <;> simp), hne⟩
  rcases h with h | h
  · exact .inl (go _ h)
  · exact .inr (go _ h)
theorem SB.new (w : World) : SB w.heap.size [] (w.alloc (.cells #[.pointer none, .slice none 0 0] 106)) := Lib.fresh_isBuilder _ _ w
theorem infoBl : (Tryz.prog.info? 106).map (·.size) = some 2 := by kernel_rfl
theorem liesBl : liesAt Tryz.prog Tryz.prog.depth 106 (2 / Tryz.prog.cellsOf 106) 0 106 1 = true := by kernel_rfl
--[[chk1
set_option maxRecDepth 100000 in
set_option maxHeartbeats 4000000 in
theorem copyCheck_used (b : Nat) (w : World) (h0 : w.cell? ⟨b, 0, none⟩ = some (.pointer (some ⟨b, 0, none⟩))) :
    Calls Tryz.prog 93 #[.pointer (some ⟨b, 0, none⟩)] w fun e w' => e = .returned (.tuple #[]) ∧ w' = w := by
  obtain ⟨j, hj, _⟩ := Option.map_eq_some_iff.1 infoBl
  go_enter Tryz.func93, Tryz.ntmps93
  go_wp2
  rw [Lib.run_neq_ptr_same w _ Tryz.underlying103 hj]
  go_wp2
  go_end0
  exact ⟨rfl, rfl⟩
--]]chk1
--[[chk2
set_option maxRecDepth 100000 in
set_option maxHeartbeats 4000000 in
theorem copyCheck_fresh (b : Nat) (w : World) (h0 : w.cell? ⟨b, 0, none⟩ = some (.pointer none)) (hsh : w.shape? b = some (106, 2)) (hfz : w.frozen? ⟨b, 0, none⟩ = false) :
    Calls Tryz.prog 93 #[.pointer (some ⟨b, 0, none⟩)] w fun e w' => e = .returned (.tuple #[]) ∧ w' = w.setCell ⟨b, 0, none⟩ (.pointer (some ⟨b, 0, none⟩)) := by
  obtain ⟨j, hj, hjs⟩ := Option.map_eq_some_iff.1 infoBl
  go_enter Tryz.func93, Tryz.ntmps93
  go_wp2
  rw [Lib.run_to_unsafe w ⟨b, 0, none⟩ Tryz.underlying103 Tryz.underlying160 hj (by rw [hjs]; decide) hsh (Nat.zero_lt_succ 1)]
  simp only [Result.andThen]
  rw [Oper.upon_value]
  go_wp2
  rw [run_callFunc_extern Tryz.func114 (by kernel_rfl) (by kernel_rfl) (by kernel_rfl) (e := Extern.AbiNoEscape.same) (by kernel_rfl)]
  rw [Lib.run_noEscape]
  simp only [Result.andThen]
  rw [Oper.upon_value]
  go_wp2
  rw [Lib.run_from_unsafe w ⟨b, 0, none⟩ Tryz.underlying160 Tryz.underlying103 hj hsh liesBl]
  simp only [Result.andThen]
  rw [Oper.upon_value]
  go_wp2
  go_end0
  exact ⟨rfl, rfl⟩
--]]chk2
--[[chk
theorem copyCheck_any (b : Nat) (bs : List Value) (w : World) (h : Lib.IsBuilder 106 5 b b bs w) :
    Calls Tryz.prog 93 #[.pointer (some ⟨b, 0, none⟩)] w fun e w' => e = .returned (.tuple #[]) ∧ (Lib.BuilderAt 106 5 b b (.pointer (some ⟨b, 0, none⟩)) bs w' ∧ SK b w w') := by
  rcases h with h | h
  · refine (copyCheck_fresh b w h.cell0 h.shape h.frozen0).mono ?_
    rintro e w' ⟨rfl, rfl⟩
    exact ⟨rfl, h.used _, (Below.refl b w).setCell (p := ⟨b, 0, none⟩) (Nat.le_refl _) _, (Lib.OthersKept.refl _ _ w).setCell ⟨b, 0, none⟩ rfl _⟩
  · refine (copyCheck_used b w h.cell0).mono ?_
    rintro e w' ⟨rfl, rfl⟩
    exact ⟨rfl, h, SK.refl _ _⟩
--]]chk
theorem own_kind {w : World} {B : Nat} {v : Value} {n : Nat} {xs : List Value} (h : w.ownsRow B 5 1 v n xs) : ∀ g, v.ownBlock = some g → ∃ c fz, w.heap[g]? = some (.cells c 5 fz) := by
  intro g hg
  rcases h.2 with ⟨rfl, _⟩ | ⟨g', cap, cur, rfl, _, hgg, _⟩
  · simp [Value.ownBlock] at hg
  · simp [Value.ownBlock] at hg
    subst hg
    exact ⟨cur, _, hgg⟩
--[[wstr
set_option maxHeartbeats 4000000 in
theorem writeString_any (b : Nat) (l : List UInt8) (s : ByteArray) (w : World) (h : SB b l w) (hlen : l.length + s.size ≤ 140737488355328) :
    Calls Tryz.prog 51 #[.pointer (some ⟨b, 0, none⟩), .string s] w fun e w' => e = .returned (.tuple #[.int .i64 s.size, .nilIface]) ∧ Hid (SB b (l ++ s.data.toList) w' ∧ SK b w w') := by
  obtain ⟨i0, hi, hz0, hz1, hz2⟩ := info_parts infoB
  have hlB : (Lib.byteCells l).length = l.length := Lib.byteCells_length l
  have b0 := h.lt
  go_enter Tryz.func51, Tryz.ntmps51
  go_wp2_with (go_at_call 93; refine (copyCheck_any b _ _ h).mono ?_)
  rintro e w1 ⟨rfl, h1, hk1⟩
  obtain ⟨hB, v, hbk, hown, hne⟩ := h1
  have c0 : w1.cell? ⟨b, 0, none⟩ = some (.pointer (some ⟨b, 0, none⟩)) := by rw [Lib.cell_of_heap hbk]; rfl
  have c1 : w1.cell? ⟨b, 1, none⟩ = some v := by rw [Lib.cell_of_heap hbk]; rfl
  go_wp2_with (at_builtin; refine Lib.wpList_append_own_string _ rfl _ _ 104 9 rfl b 5 i0 Tryz.underlying104 Tryz.underlying9 hi hz0 hz1 hz2 _ _ _ rfl hown s rfl ?c3 ?c4 ?c5 ?_)
  case c3 => unfold maxLen; omega
  case c4 => omega
  case c5 => have := lt_of_heap hbk; omega
  intro v' w2 hown' hgrow _
  have hlt := lt_of_heap hbk
  have hb2 : w2.heap[b]? = some (.cells #[.pointer (some ⟨b, 0, none⟩), v] 106 (0, 0)) := by
    rw [hgrow.block b hlt (fun e => hne e.symm)]
    exact hbk
  have d0 : w2.cell? ⟨b, 0, none⟩ = some (.pointer (some ⟨b, 0, none⟩)) := by rw [Lib.cell_of_heap hb2]; rfl
  have d1 : w2.cell? ⟨b, 1, none⟩ = some v := by rw [Lib.cell_of_heap hb2]; rfl
  have f1 : w2.frozen? ⟨b, 1, none⟩ = false := Lib.frozen_of_heap hb2 1
  obtain ⟨ao, n', cap, rfl⟩ : ∃ ao n' cap, v' = .slice ao n' cap := by
    rcases hown'.2 with ⟨hv, _⟩ | ⟨g, cap, cur, hv, _⟩
    · exact ⟨_, _, _, hv⟩
    · exact ⟨_, _, _, hv⟩
  go_wp2
  go_ret2
  have e1 : Lib.byteCells l ++ Lib.strCells s = Lib.byteCells (l ++ s.data.toList) := by simp [Lib.byteCells, Lib.strCells]
  refine ⟨rfl, Lib.hid ⟨?_, ?_⟩⟩
  · rw [e1] at hown'
    exact .inr (Lib.BuilderAt.put (T := 106) (e := 5) hB hb2 (bs' := Lib.byteCells (l ++ s.data.toList)) (by simpa [Lib.byteCells_length, hlB] using hown') (by decide))
  · exact ⟨(hk1.below.grown hgrow (by omega) (fun k hk => (hown.lt k hk).1)).setCell (p := ⟨b, 1, none⟩) hB _, (hk1.kept.grown hgrow (own_kind hown)).setCell ⟨b, 1, none⟩ rfl _⟩
--]]wstr
--[[wbyte
set_option maxHeartbeats 4000000 in
theorem writeByte_any (b : Nat) (l : List UInt8) (c : UInt8) (w : World) (h : SB b l w) (hlen : l.length + 1 ≤ 140737488355328) :
    Calls Tryz.prog 55 #[.pointer (some ⟨b, 0, none⟩), .int .u8 c.toNat] w fun e w' => e = .returned .nilIface ∧ Hid (SB b (l ++ [c]) w' ∧ SK b w w') := by
  obtain ⟨i0, hi, hz0, hz1, hz2⟩ := info_parts infoB
  have hlB : (Lib.byteCells l).length = l.length := Lib.byteCells_length l
  have b0 := h.lt
  go_enter Tryz.func55, Tryz.ntmps55
  go_wp2_with (go_at_call 93; refine (copyCheck_any b _ _ h).mono ?_)
  rintro e w1 ⟨rfl, h1, hk1⟩
  obtain ⟨hB, v, hbk, hown, hne⟩ := h1
  have c0 : w1.cell? ⟨b, 0, none⟩ = some (.pointer (some ⟨b, 0, none⟩)) := by rw [Lib.cell_of_heap hbk]; rfl
  have c1 : w1.cell? ⟨b, 1, none⟩ = some v := by rw [Lib.cell_of_heap hbk]; rfl
  go_wp2_with (at_builtin; refine wpList_append_own _ rfl _ _ 104 rfl b 5 i0 (.int .u8 0) 1 1 Tryz.underlying104 hi hz0 hz1 hz2 rfl (by decide) _ _ _ rfl (hown.alloc _) ⟨w1.heap.size, 0, none⟩ 1 1 [.int .u8 c.toNat] rfl rfl ?c1 ?c2 ?c3 ?c4 ?c5 ?_)
  case c1 =>
    intro j u hj
    match j, hj with
    | 0, hj => simp at hj; subst hj; simp [Addr.add]
  case c2 => intro u hu; simp at hu; subst hu; rfl
  case c3 => unfold maxLen; omega
  case c4 => omega
  case c5 => have := lt_of_heap hbk; simp; omega
  intro v' w2 hown' hgrow _
  have hlt := lt_of_heap hbk
  have hb2 : w2.heap[b]? = some (.cells #[.pointer (some ⟨b, 0, none⟩), v] 106 (0, 0)) := by
    rw [hgrow.block b (by simp; omega) (fun e => hne e.symm), Lib.alloc_old w1 _ b hlt]
    exact hbk
  have d0 : w2.cell? ⟨b, 0, none⟩ = some (.pointer (some ⟨b, 0, none⟩)) := by rw [Lib.cell_of_heap hb2]; rfl
  have d1 : w2.cell? ⟨b, 1, none⟩ = some v := by rw [Lib.cell_of_heap hb2]; rfl
  have f1 : w2.frozen? ⟨b, 1, none⟩ = false := Lib.frozen_of_heap hb2 1
  obtain ⟨ao, n', cap, rfl⟩ : ∃ ao n' cap, v' = .slice ao n' cap := by
    rcases hown'.2 with ⟨hv, _⟩ | ⟨g, cap, cur, hv, _⟩
    · exact ⟨_, _, _, hv⟩
    · exact ⟨_, _, _, hv⟩
  go_wp2
  go_ret
  have e1 : Lib.byteCells l ++ [Value.int .u8 c.toNat] = Lib.byteCells (l ++ [c]) := by simp [Lib.byteCells]
  refine ⟨rfl, Lib.hid ⟨?_, ?_⟩⟩
  · rw [e1] at hown'
    exact .inr (Lib.BuilderAt.put (T := 106) (e := 5) hB hb2 (bs' := Lib.byteCells (l ++ [c])) (by simpa [Lib.byteCells_length, hlB] using hown') (by decide))
  · exact ⟨((hk1.below.alloc (by have := hk1.below.size; omega) _).grown hgrow (by have := hk1.below.size; simp; omega) (fun k hk => (hown.lt k hk).1)).setCell (p := ⟨b, 1, none⟩) hB _, ((hk1.kept.alloc _).grown hgrow (own_kind (hown.alloc _))).setCell ⟨b, 1, none⟩ rfl _⟩
--]]wbyte
--[[string
theorem extraB : Builder.Extra Tryz.prog Tryz.lays169_ren := ⟨⟨by kernel_rfl, by kernel_rfl⟩, Tryz.underlying5, Tryz.isAgg5, Tryz.sizeOf5, Tryz.zeroValue5, by kernel_rfl, by kernel_rfl, by kernel_rfl, by decide⟩
theorem string_any (b : Nat) (l : List UInt8) (w : World) (h : SB b l w) :
    Calls Tryz.prog 56 #[.pointer (some ⟨b, 0, none⟩)] w fun e w' => e = .returned (.string ⟨l.toArray⟩) ∧ Below b w w' :=
  Any.Builder_String_any Tryz.lays169 extraB b b l w h (Nat.le_of_lt h.lt)
--]]string
end Go.Proofs.YtielnengimninaaGreatDoor
