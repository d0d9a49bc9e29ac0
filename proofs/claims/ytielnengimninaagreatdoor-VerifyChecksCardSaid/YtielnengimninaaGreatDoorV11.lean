/- asm.quoted, asm.number, walked. -/
import Derived.Test.YtielnengimninaaGreatDoorV9
namespace Go.Va
open Go.Own Go.RowKit
/-- a number from 0 to 99 -/
def numberL (s : List UInt8) : Option Nat :=
  match Lib.atoiAll s with
  | .ok v => if 0 ≤ v ∧ v < 100 ∧ Lib.decDigits v.toNat = s then some v.toNat else none
  | _ => none
/-- the name that a quoted text is -/
def quotedL (s : List UInt8) : Option ByteArray := if (parseV s).2 = 0 ∧ (parseV s).1.kind = 2 then some (parseV s).1.txt else none
end Go.Va
namespace Go.Proofs.YtielnengimninaaGreatDoor
open Go.RowKit Go.Own Go.Own.MapTy Go.Va Go.Sort
open Go.Own.Cells (sz enc)
def QUPost (w : World) (r : Option ByteArray) (e : Ending) (w' : World) : Prop :=
  Below w.heap.size w w' ∧ match r with
    | some t => e = .returned (.tuple #[.string t, .bool true])
    | none => ∃ t, e = .returned (.tuple #[.string t, .bool false])
--[[quoted
set_option maxRecDepth 100000 in
set_option maxHeartbeats 8000000 in
theorem quotedA_any {N : Nat} (s : ByteArray) (w : World) (hs : s.size ≤ 4294967280) (G : Gl Tryz.prog N w) : Calls Tryz.prog 112 #[.string s] w (QUPost w (quotedL s.data.toList)) := by
  have PA := Lib.hid (parse_any s w hs G _ rfl)
  clear G
  unfold quotedL
  generalize parseV s.data.toList = p at *
  obtain ⟨x, er⟩ := p
  dsimp only
  generalize hr : (if er = 0 ∧ x.kind = 2 then some x.txt else none) = r
  have HR := Lib.hid hr
  clear hr
  go_enter Tryz.func112, Tryz.ntmps112
  go_wp2_with fail
  refine PA.out.mono ?_
  rintro e w1 ⟨c, rfl, hC, hB⟩
  have HC := Lib.hid (And.intro hC hB)
  clear hC hB
  go_wp2_with fail
  obtain ⟨w2, hw2⟩ : ∃ w2, w2 = w1.alloc (.cells #[.int .i64 c.kind, .int .i64 c.n, .string c.s, .slice c.la c.ln c.lc] 63) := ⟨_, rfl⟩
  have z0 : w2.cell? ⟨w1.heap.size, 0, none⟩ = some (.int .i64 c.kind) := by rw [hw2, cell_of_heap (heap_alloc_new _ _)]; rfl
  have z2 : w2.cell? ⟨w1.heap.size, 2, none⟩ = some (.string c.s) := by rw [hw2, cell_of_heap (heap_alloc_new _ _)]; rfl
  have sz2 : w1.heap.size < w2.heap.size := by rw [hw2]; simp
  have HB := Lib.hid (show Below w.heap.size w w2 from by rw [hw2]; exact HC.out.2.alloc HC.out.2.size _)
  rw [← hw2]
  clear hw2
  cases h1 : (er == 0) with
  | false =>
    refine wp_region_ext (by kernel_rfl) (by kernel_rfl) ?_
    repeat (go_big_quiet_step (fail))
    refine wpQuiet_nil ?_
    intro w7 hB7
    go_wp2_with fail
    have hn : r = none := by rw [← HR.out, if_neg (fun h => by rw [h.1] at h1; simp at h1)]
    subst hn
    exact bodyPost_ret (v := .tuple #[.string c.s, .bool false]) (by simp only [results, Tryz.results112]; go_simp) rfl ⟨HB.out.trans (hB7.mono HB.out.size), _, rfl⟩
  | true =>
    cases h2 : (c.kind == 2) with
    | false =>
      refine wp_region_ext (by kernel_rfl) (by kernel_rfl) ?_
      repeat (go_big_quiet_step (fail))
      refine wpQuiet_nil ?_
      intro w7 hB7
      go_wp2_with fail
      have hn : r = none := by
        rw [← HR.out, if_neg (fun h => ?_)]
        have := HC.out.1.kind
        rw [h.2] at this
        rw [this] at h2
        simp at h2
      subst hn
      exact bodyPost_ret (v := .tuple #[.string c.s, .bool false]) (by simp only [results, Tryz.results112]; go_simp) rfl ⟨HB.out.trans (hB7.mono HB.out.size), _, rfl⟩
    | true =>
      refine wp_region_ext (by kernel_rfl) (by kernel_rfl) ?_
      repeat (go_big_quiet_step (fail))
      refine wpQuiet_nil ?_
      intro w7 hB7
      go_wp2_with fail
      have hn : r = some c.s := by
        have hk := HC.out.1.kind
        have hs' := HC.out.1.s
        rw [← HR.out, if_pos ⟨by simpa using h1, by rw [← hk]; simpa using h2⟩, hs']
      subst hn
      exact bodyPost_ret (v := .tuple #[.string c.s, .bool true]) (by simp only [results, Tryz.results112]; go_simp) rfl ⟨HB.out.trans (hB7.mono HB.out.size), rfl⟩
--]]quoted
def NUPost (w : World) (r : Option Nat) (e : Ending) (w' : World) : Prop :=
  Below w.heap.size w w' ∧ match r with
    | some n => n < 100 ∧ e = .returned (.tuple #[.int .i64 n, .bool true])
    | none => ∃ n : Int, e = .returned (.tuple #[.int .i64 n, .bool false])
theorem atoi_any {N : Nat} (s : ByteArray) (w : World) (hs : s.size ≤ 4294967280) (G : Gl Tryz.prog N w) :
    Calls Tryz.prog 133 #[.string s] w fun e w' => Below w.heap.size w w' ∧ match Lib.atoiAll s.data.toList with
      | .ok v => e = .returned (.tuple #[.int .i64 v, .nilIface])
      | _ => ∃ (n : Int) (t : TypeId) (p : Value), e = .returned (.tuple #[.int .i64 n, .iface t p]) := by
  cases hp : Lib.atoiAll s.data.toList with
  | ok v =>
    refine (Any.strconv_Atoi_ok Tryz.laysC172 s (by omega) v hp w).mono ?_
    rintro e w' ⟨rfl, hw⟩
    refine ⟨?_, rfl⟩
    rcases hw with rfl | ⟨t, rfl⟩
    · exact Below.refl _ _
    · exact Joins.below_bytesWorld _ _ _ _ (Nat.le_refl _)
  | range =>
    obtain ⟨tp, p, hv⟩ := G.er
    refine (Any.strconv_Atoi_range_var Tryz.laysC172 s (by omega) hp tp p w hv).mono ?_
    rintro e w' ⟨n, rfl, _, _, hB⟩
    exact ⟨hB, _, _, _, rfl⟩
  | _ =>
    obtain ⟨tp, p, hv⟩ := G.es
    refine (Any.strconv_Atoi_syntax_var Tryz.laysC172 s (by omega) hp tp p w hv).mono ?_
    rintro e w' ⟨n, rfl, _, _, hB⟩
    exact ⟨hB, _, _, _, rfl⟩
--[[number
set_option maxRecDepth 100000 in
set_option maxHeartbeats 8000000 in
theorem numberA_any {N : Nat} (s : ByteArray) (w : World) (hs : s.size ≤ 4294967280) (G : Gl Tryz.prog N w) : Calls Tryz.prog 113 #[.string s] w (NUPost w (numberL s.data.toList)) := by
  have AT := Lib.hid (atoi_any s w hs G)
  clear G
  obtain ⟨r, hr⟩ : ∃ r, numberL s.data.toList = r := ⟨_, rfl⟩
  rw [hr]
  unfold numberL at hr
  generalize Lib.atoiAll s.data.toList = p at *
  have HR := Lib.hid hr
  clear hr
  go_enter Tryz.func113, Tryz.ntmps113
  go_wp2_with fail
  refine AT.out.mono ?_
  rintro e w1 ⟨hB, h1⟩
  have HB := Lib.hid hB
  clear hB AT
  cases p with
  | ok v =>
    obtain rfl := h1
    by_cases h0 : 0 ≤ v
    · by_cases h100 : v < 100
      · obtain ⟨n, rfl⟩ := Int.eq_ofNat_of_zero_le h0
        have IT := Lib.hid (Any.strconv_Itoa_small Tryz.lays171 n (by omega))
        cases hq : (Lib.decDigits n == s.data.toList)
        all_goals
          have e5 : ((⟨(Lib.decDigits n).toArray⟩ : ByteArray).toList == s.toList) = (Lib.decDigits n == s.data.toList) := by rw [ByteArray.toList_eq, ByteArray.toList_eq]
          rw [hq] at e5
          have HQ := Lib.hid hq
          clear hq
          go_wp2_with fail
          refine (IT.out _).mono ?_
          rintro e w2 ⟨rfl, rfl⟩
          go_wp2_with fail
          first
          | (have hn : r = some n := by
               have h := HR.out
               try dsimp only at h
               rw [← h, if_pos ⟨by omega, by omega, by simpa using beq_iff_eq.1 HQ.out⟩]
               rfl
             subst hn
             exact bodyPost_ret (v := .tuple #[.int .i64 n, .bool true]) (by simp only [results, Tryz.results113]; go_simp; rw [ByteArray.toList_eq]; exact beq_iff_eq.1 HQ.out) rfl ⟨HB.out, by omega, rfl⟩)
          | (have hn : r = none := by
               have h := HR.out
               try dsimp only at h
               rw [← h, if_neg (fun e => by have := HQ.out; rw [beq_iff_eq.2 (by simpa using e.2.2)] at this; cases this)]
             subst hn
             exact bodyPost_ret (v := .tuple #[.int .i64 n, .bool false]) (by simp only [results, Tryz.results113]; go_simp; rw [ByteArray.toList_eq]; exact fun e => by have := HQ.out; rw [beq_iff_eq.2 e] at this; cases this) rfl ⟨HB.out, _, rfl⟩)
      · have hn : r = none := by
          have h := HR.out
          try dsimp only at h
          rw [← h, if_neg (fun e => h100 e.2.1)]
        clear HR
        go_wp2_with fail
        subst hn
        exact bodyPost_ret (v := .tuple #[.int .i64 v, .bool false]) (by simp only [results, Tryz.results113]; go_simp) rfl ⟨HB.out, _, rfl⟩
    · have hn : r = none := by
        have h := HR.out
        try dsimp only at h
        rw [← h, if_neg (fun e => h0 e.1)]
      clear HR
      go_wp2_with fail
      subst hn
      exact bodyPost_ret (v := .tuple #[.int .i64 v, .bool false]) (by simp only [results, Tryz.results113]; go_simp) rfl ⟨HB.out, _, rfl⟩
  | range =>
    obtain ⟨n, t, q, rfl⟩ := h1
    have hn : r = none := HR.out.symm
    clear HR
    go_wp2_with fail
    subst hn
    exact bodyPost_ret (v := .tuple #[.int .i64 n, .bool false]) (by simp only [results, Tryz.results113]; go_simp) rfl ⟨HB.out, _, rfl⟩
  | _ =>
    obtain ⟨n, t, q, rfl⟩ := h1
    have hn : r = none := HR.out.symm
    clear HR
    go_wp2_with fail
    subst hn
    exact bodyPost_ret (v := .tuple #[.int .i64 n, .bool false]) (by simp only [results, Tryz.results113]; go_simp) rfl ⟨HB.out, _, rfl⟩
--]]number
end Go.Proofs.YtielnengimninaaGreatDoor
