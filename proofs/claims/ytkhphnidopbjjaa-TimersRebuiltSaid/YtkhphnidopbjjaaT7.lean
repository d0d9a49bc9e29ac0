/- The law's own functions, walked: like, fires, same. -/
import Derived.Test.YtkhphnidopbjjaaT3
import Derived.Test.YtkhphnidopbjjaaT6
import Derived.Test.YtkhphnidopbjjaaT2
namespace Go.Hm
theorem TRef.first {s : Hp} {Z : List It} {l : List Th} (R : Ref s Z) (h : TRef Z l) {x : It} {y : Th} (hx : Z[0]? = some x) (hy : l[0]? = some y) : x.due = y.due := by
  cases Z with
  | nil => cases hx
  | cons z r =>
    cases l with
    | nil => cases hy
    | cons u v =>
      cases hx; cases hy
      have h1 : x.th ∈ y :: v := h.perm.mem_iff.1 (by simp)
      have h2 : y ∈ (x :: r).map It.th := h.perm.mem_iff.2 (by simp)
      obtain ⟨q, hq, rfl⟩ := List.mem_map.1 h2
      have h3 : x.due ≤ q.due := by
        rcases List.mem_cons.1 hq with rfl | hq
        · exact Int.le_refl _
        · have := (List.pairwise_cons.1 R.sorted).1 q hq
          unfold le at this; omega
      have e1 : q.th.due = q.due := rfl
      have e2 : x.th.due = x.due := rfl
      have h4 : q.due ≤ x.due := by
        rcases List.mem_cons.1 h1 with e | hm
        · have : x.th.due = q.th.due := by rw [e]
          omega
        · have := (List.pairwise_cons.1 h.sorted).1 _ hm
          rw [bef_iff] at this
          omega
      omega
theorem row_fr {w : World} {e : TypeId} {xs : List Fr} {g off n cap : Nat} (h : Go.Own.RowAt w e (.slice (some ⟨g, off, none⟩) n cap) xs) {i : Nat} {x : Fr} (hx : xs[i]? = some x) :
    (w.cell? ⟨g, off + i * 12, none⟩ = some (.int .i64 x.run) ∧ w.cell? ⟨g, off + i * 12 + 1, none⟩ = some (.int .i64 0) ∧ w.cell? ⟨g, off + i * 12 + 2, none⟩ = some (.int .i64 x.time) ∧ w.cell? ⟨g, off + i * 12 + 3, none⟩ = some (.int .i64 x.kind) ∧
    w.cell? ⟨g, off + i * 12 + 4, none⟩ = some (.int .i64 x.a) ∧ w.cell? ⟨g, off + i * 12 + 5, none⟩ = some (.int .i64 0)) ∧ w.cell? ⟨g, off + i * 12 + 6, none⟩ = some (.string .empty) ∧ w.cell? ⟨g, off + i * 12 + 7, none⟩ = some (.string .empty) ∧
    w.cell? ⟨g, off + i * 12 + 8, none⟩ = some (.int .i64 0) ∧ w.cell? ⟨g, off + i * 12 + 9, none⟩ = some (.int .i64 0) ∧ w.cell? ⟨g, off + i * 12 + 10, none⟩ = some (.string .empty) ∧ w.cell? ⟨g, off + i * 12 + 11, none⟩ = some (.slice none 0 0) :=
  ⟨⟨h.cell hx (j := 0) (by decide), h.cell hx (j := 1) (by decide), h.cell hx (j := 2) (by decide), h.cell hx (j := 3) (by decide), h.cell hx (j := 4) (by decide), h.cell hx (j := 5) (by decide)⟩, h.cell hx (j := 6) (by decide), h.cell hx (j := 7) (by decide), h.cell hx (j := 8) (by decide), h.cell hx (j := 9) (by decide), h.cell hx (j := 10) (by decide), h.cell hx (j := 11) (by decide)⟩
theorem dueTh_snoc {l : List Th} {k : Nat} {x : Th} (hx : l[k]? = some x) (now : Int) : dueTh now (l.take (k + 1)) = dueTh now (l.take k) ++ (if x.due ≤ now then [x] else []) := by
  have ht : l.take (k + 1) = l.take k ++ [x] := by rw [List.take_add_one, hx]; rfl
  unfold dueTh
  rw [ht, List.filter_append]
  congr 1
  by_cases h : x.due ≤ now <;> simp [h]
end Go.Hm
namespace Go.Proofs.Ytkhphnidopbjjaa
open Go.RowKit Go.Own Go.Own.MapTy Go.Hm
open Go.Own.Cells (sz enc)
--[[like
set_option maxRecDepth 100000 in
set_option maxHeartbeats 4000000 in
theorem likeT_true (hbk : Nat) (lv mv : Value) (T : TypeId) (s : Hp) (Z : List It) (tv : Value) (l : List Th) (w : World) (H : HV w hbk lv mv T s) (R : Ref s Z) (TR : TRef Z l) (HL : RowAt w 110 tv l) (hn : l.length ≤ 100) :
    Calls Try.prog 32 #[.pointer (some ⟨hbk, 0, none⟩), tv] w fun e w' => e = .returned (.bool true) ∧ Below w.heap.size w w' := by
  have b0 : hbk < w.heap.size := lt_of_heap H.h
  obtain ⟨ad, cap, rfl⟩ := HL.slice
  have hZl : Z.length = l.length := TR.len.symm
  have hsl : s.L.length = l.length := by rw [← R.len, hZl]
  have LI := Lib.hid (list_any hbk lv mv T s Z l w H R TR (by omega))
  have HQ := Lib.hid (And.intro H (And.intro R (And.intro TR HL)))
  have HZ := Lib.hid (And.intro hZl hsl)
  clear H R TR HL hZl hsl
  go_enter Try.func32, Try.ntmps32
  go_wp2_with fail
  refine LI.out.mono ?_
  rintro e w1 ⟨v, rfl, hR1, hB1, -⟩
  obtain ⟨a1, c1, rfl⟩ := hR1.slice
  rw [List.length_map] at hR1
  simp only [List.length_map]
  have H1 := HQ.out.1.keep (Keeps.of_below hB1) (fun _ _ f => f)
  have LN := Lib.hid (show Calls Try.prog 15 #[.pointer (some ⟨hbk, 0, none⟩)] w1 fun e w' => e = .returned (.int .i64 l.length) ∧ w1 = w' from HZ.out.2 ▸ len_any hbk lv mv T s w1 H1)
  have HW1 := Lib.hid (And.intro hR1 hB1)
  clear hR1 hB1 H1
  go_wp2_with (go_at_call 15; refine LN.out.mono ?_; rintro e w2 ⟨rfl, rfl⟩)
  go_loopw [28] (fun v28 wr => ∃ k : Nat, v28 = .int .i64 k ∧ k ≤ l.length ∧ Below w.heap.size w wr ∧ RowAt wr 35 (.slice a1 l.length c1) (l.map unTh)) (fun v28 _ => l.length - (intOf v28).toNat)
  case atStart => exact ⟨0, rfl, Nat.zero_le _, HW1.out.2, HW1.out.1⟩
  case round =>
    obtain ⟨k, rfl, hk, hB, hRi⟩ := hrel
    have hb := hB.size
    by_cases hkn : k < l.length
    · obtain ⟨x, hx⟩ := elem_at hkn
      have hR := HQ.out.2.2.2.below hB
      obtain ⟨g, off, rfl, hgl⟩ := hR.addr hx
      obtain ⟨x0, x1, x2, x3⟩ := row_th hR hx
      obtain ⟨g2, off2, rfl, hgl2⟩ := hRi.addr (x := unTh x) (i := k) (by simp [hx])
      obtain ⟨y0, y1, y2, y3, y4⟩ := row_cells hRi (x := unTh x) (i := k) (by simp [hx])
      simp only [unTh] at y0 y1 y2 y3 y4
      have hk0 : (0 : Int) ≤ (k : Int) := by omega
      have hk1 : (k : Int) < (l.length : Int) := by omega
      have HB := Lib.hid (And.intro hB hRi)
      clear hx hR hB hRi
      go_wp2_with fail
      refine wp_region_ext (by kernel_rfl) (by kernel_rfl) ?_
      repeat (go_big_quiet_step (fail))
      refine wpQuiet_nil ?_
      intro w7 hB7
      clear x0 x1 x2 x3 y0 y1 y2 y3 y4
      go_wp2_with fail
      go_roundw
      case rel =>
        have hB8 := (((Below.refl _ wr).alloc (Nat.le_refl _) _).trans (hB7.mono (by simp)))
        exact ⟨k + 1, by simp, hkn, HB.out.1.trans (hB8.mono HB.out.1.size), HB.out.2.below hB8⟩
      case measure => simp [intOf]; omega
    · obtain rfl : k = l.length := by omega
      have H2 := HQ.out.1.keep (Keeps.of_below hB) (fun _ _ f => f)
      have hR := HQ.out.2.2.2.below hB
      have HB := Lib.hid hB
      rcases Nat.eq_zero_or_pos l.length with h0 | h0
      · have hl : l = [] := List.eq_nil_of_length_eq_zero h0
        have hZ : Z = [] := List.eq_nil_of_length_eq_zero (by rw [HZ.out.1, h0])
        have NX := Lib.hid (next_none hbk lv mv T s wr H2 (hZ ▸ HQ.out.2.1))
        have h1 : decide (0 < l.length) = false := by simp [h0]
        clear H2 hR hB hRi hl hZ h0
        go_wp2_with fail
        refine NX.out.mono ?_
        rintro e w3 ⟨rfl, hB3⟩
        go_wp2_with fail
        go_ret
        exact ⟨rfl, HB.out.trans (hB3.mono HB.out.size)⟩
      · obtain ⟨x, hx⟩ := elem_at (l := Z) (k := 0) (by rw [HZ.out.1]; exact h0)
        obtain ⟨y, hy⟩ := elem_at (l := l) (k := 0) h0
        have hd := TRef.first HQ.out.2.1 HQ.out.2.2.1 hx hy
        have NX := Lib.hid (show Calls Try.prog 39 #[.pointer (some ⟨hbk, 0, none⟩)] wr fun e w' => e = .returned (.tuple #[.int .i64 y.due, .bool true]) ∧ Below wr.heap.size wr w' from hd ▸ next_some x hbk lv mv T s Z wr H2 HQ.out.2.1 hx)
        have HY := Lib.hid (And.intro hy hR)
        obtain ⟨g, off, rfl, hgl⟩ := hR.addr hy
        have h1 : decide (0 < l.length) = true := by simpa using h0
        have h1' : (0 : Int) < (l.length : Int) := by omega
        clear H2 hR hB hRi hx hd hy
        go_wp2_with fail
        refine NX.out.mono ?_
        rintro e w3 ⟨rfl, hB3⟩
        have hR3 := HY.out.2.below hB3
        obtain ⟨_, _, _, x3⟩ := row_th hR3 HY.out.1
        simp only [Nat.zero_mul, Nat.add_zero] at x3
        have HB3 := Lib.hid (HB.out.trans (hB3.mono HB.out.size))
        clear hB3 hR3
        go_wp2_with fail
        go_ret
        exact ⟨rfl, HB3.out⟩
--]]like
--[[same
set_option maxRecDepth 100000 in
set_option maxHeartbeats 4000000 in
theorem sameF_true (v u : Value) (L : List Fr) (w : World) (H : RowAt w 87 v L) (HU : RowAt w 87 u L) (hn : L.length ≤ 16384) :
    Calls Try.prog 35 #[v, u] w fun e w' => e = .returned (.bool true) ∧ Below w.heap.size w w' := by
  obtain ⟨ad, cap, rfl⟩ := H.slice
  obtain ⟨ae, cae, rfl⟩ := HU.slice
  have H1 := Lib.hid H
  have H2 := Lib.hid HU
  clear H HU
  go_enter Try.func35, Try.ntmps35
  go_wp2_with fail
  go_loopw [13] (fun v13 wr => ∃ k : Nat, v13 = .int .i64 k ∧ k ≤ L.length ∧ Below w.heap.size w wr) (fun v13 _ => L.length - (intOf v13).toNat)
  case atStart => exact ⟨0, rfl, Nat.zero_le _, Below.refl _ _⟩
  case round =>
    obtain ⟨k, rfl, hk, hB⟩ := hrel
    by_cases hkn : k < L.length
    · obtain ⟨x, hx⟩ := elem_at hkn
      have hR1 := H1.out.below hB
      have hR2 := H2.out.below hB
      obtain ⟨g, off, rfl, hgl⟩ := hR1.addr hx
      obtain ⟨g2, off2, rfl, hgl2⟩ := hR2.addr hx
      obtain ⟨⟨x0, x1, x2, x3, x4, x5⟩, x6, x7, x8, x9, x10, x11⟩ := row_fr hR1 hx
      obtain ⟨⟨y0, y1, y2, y3, y4, y5⟩, y6, y7, y8, y9, y10, y11⟩ := row_fr hR2 hx
      have hk0 : (0 : Int) ≤ (k : Int) := by omega
      have hk1 : (k : Int) < (L.length : Int) := by omega
      have HB := Lib.hid hB
      clear hx hR1 hR2 hB
      go_wp2_with fail
      refine wp_region_ext (by kernel_rfl) (by kernel_rfl) ?_
      repeat (go_big_quiet_step ((go_at_call 38; exact ext_call (same_true _ _ _ _))))
      refine wpQuiet_nil ?_
      intro w7 hB7
      clear x0 x1 x2 x3 x4 x5 x6 x7 x8 x9 x10 x11 y0 y1 y2 y3 y4 y5 y6 y7 y8 y9 y10 y11
      go_wp2_with fail
      go_roundw
      case rel => exact ⟨k + 1, by simp, hkn, HB.out.trans (hB7.mono HB.out.size)⟩
      case measure => simp [intOf]; omega
    · obtain rfl : k = L.length := by omega
      go_wp2_with fail
      go_ret
      exact ⟨rfl, hB⟩
--]]same
/-- between two rounds of the law's own fires: w0 is the world in which the loop began -/
def FrRel (w0 : World) (now : Int) (l : List Th) (mb : Nat) (v13 v5 : Value) (wr : World) : Prop :=
  ∃ k : Nat, v13 = .int .i64 k ∧ k ≤ l.length ∧ RowAt wr 87 v5 (firesL now (dueTh now (l.take k)) []) ∧ MapAt OM wr mb (firesM (dueTh now (l.take k)) []) ∧ Keeps (fun j => j = mb) w0 wr ∧ ∀ g, v5.ownBlock = some g → w0.heap.size ≤ g
abbrev evF (now kind a : Int) : Obj := .cells #[.int .i64 0, .int .i64 now, .int .i64 kind, .int .i64 a, .int .i64 0, .string .empty, .string .empty, .int .i64 0, .int .i64 0, .string .empty, .slice none 0 0] 71 (0, 0)
/-- where the event is known -/
structure EvC (wr : World) (mb : Nat) (x : Th) (now kind a : Int) (m : List (Int × Bool)) (wx : World) : Prop where
  bx : wx.heap[wr.heap.size]? = some (thObj x)
  be : wx.heap[wr.heap.size + 1]? = some (evF now kind a)
  map : MapAt OM wx mb m
  keep : Keeps (fun j => j = mb) wr wx
  size : wx.heap.size = wr.heap.size + 2
--[[firesL
set_option maxRecDepth 100000 in
set_option maxHeartbeats 8000000 in
theorem firesT_any (now : Int) (tv : Value) (l : List Th) (w : World) (H : RowAt w 110 tv l) (hn : l.length ≤ 100) :
    Calls Try.prog 37 #[tv, .int .i64 now] w fun e w' => ∃ v, e = .returned v ∧ RowAt w' 87 v (firesL now (dueTh now l) []) ∧ Below w.heap.size w w' := by
  obtain ⟨ad, cap, rfl⟩ := H.slice
  have HR := Lib.hid H
  clear H
  have hmm := @run_makeMap Try.prog
  go_enter Try.func37, Try.ntmps37
  go_wp2_with fail
  go_loopw [13, 5] (fun v13 v5 wr => FrRel (w.alloc (.map #[] 0)) now l w.heap.size v13 v5 wr) (fun v _ _ => l.length - (intOf v).toNat)
  case atStart => exact ⟨0, rfl, Nat.zero_le _, RowAt.nil _ _, MapAt.made w OM, Keeps.refl _ _, fun g h => by simp [Value.ownBlock] at h⟩
  case round =>
    obtain ⟨k, rfl, hk, hF, hM, hK, hf⟩ := hrel
    have hw0 : w.heap.size < wr.heap.size := hM.lt
    have hw1 : (w.alloc (.map #[] 0)).heap.size = w.heap.size + 1 := by simp
    have hfl : (firesL now (dueTh now (l.take k)) []).length ≤ 100 := by
      have h1 := firesL_len now (dueTh now (l.take k)) []
      have h2 := List.length_filter_le (fun x : Th => decide (x.due ≤ now)) (l.take k)
      unfold dueTh at *
      rw [List.length_take] at h2
      omega
    by_cases hkn : k < l.length
    · obtain ⟨x, hx⟩ := elem_at hkn
      have hR := (HR.out.alloc (.map #[] 0)).keep hK (fun g hg e => by have := HR.out.lt hg; omega)
      obtain ⟨g, off, rfl, hgl⟩ := hR.addr hx
      obtain ⟨c0, c1, c2, c3⟩ := row_th hR hx
      have hds := dueTh_snoc hx now
      have hk0 : (0 : Int) ≤ (k : Int) := by omega
      have hk1 : (k : Int) < (l.length : Int) := by omega
      have hne : ¬ wr.heap.size = w.heap.size := by omega
      have hne1 : ¬ wr.heap.size + 1 = w.heap.size := by omega
      have hne2 : ¬ w.heap.size = wr.heap.size := by omega
      have hne3 : ¬ w.heap.size = wr.heap.size + 1 := by omega
      have hw2 : w.heap.size < wr.heap.size + 1 := by omega
      have hw3 : w.heap.size ≤ wr.heap.size := by omega
      clear hx hR
      by_cases hdu : x.due ≤ now
      · rw [if_pos hdu] at hds
        generalize dueTh now (l.take k) = D at *
        have ht1 : firesM (D ++ [x]) [] = fireM (firesM D []) x := firesM_append _ _ _
        have ht2 : firesL now (D ++ [x]) [] = firesL now D [] ++ (if over (firesM D []) x.run = true then [] else [fireOf now x]) := by
          rw [firesL_append]; simp only [firesL]
        have hdn : ¬ now < x.due := by omega
        have hdd : decide (now < x.due) = false := by simpa using hdu
        cases hov : over (firesM D []) x.run with
        | true =>
          rw [if_pos hov, List.append_nil] at ht2
          have ht3 : fireM (firesM D []) x = firesM D [] := by unfold fireM; rw [if_pos hov]
          rw [ht3] at ht1
          have hlk := OM.look hM x.run true hov
          have HH := Lib.hid (And.intro hF (And.intro hM (And.intro hK hf)))
          have HT := Lib.hid (And.intro hds (And.intro ht1 ht2))
          clear hF hM hK hf ht1 ht2 ht3 hov hds
          go_wp2_with fail
          go_roundw
          case rel => exact ⟨k + 1, by simp, hkn, by rw [HT.out.1, HT.out.2.2]; exact HH.out.1.alloc _, by rw [HT.out.1, HT.out.2.1]; exact HH.out.2.1.alloc _, HH.out.2.2.1.alloc _, HH.out.2.2.2⟩
          case measure => simp [intOf]; omega
        | false =>
          have hov' : ¬ over (firesM D []) x.run = true := by rw [hov]; simp
          rw [if_neg hov'] at ht2
          have hlk := OM.look hM x.run false hov
          obtain ⟨a5, p5, rfl⟩ := hF.slice
          obtain ⟨kd, aa, hfo, hfm⟩ : ∃ kd aa, fireOf now x = ⟨x.run, now, kd, aa⟩ ∧ ((x.kind = 2 ∧ kd = 20 ∧ aa = 0 ∧ fireM (firesM D []) x = upd (firesM D []) x.run true) ∨ (x.kind ≠ 2 ∧ kd = 12 ∧ aa = x.id ∧ fireM (firesM D []) x = firesM D [])) := by
            unfold fireOf fireM
            rw [if_neg hov']
            by_cases hk2 : x.kind = 2
            · rw [if_pos hk2, if_pos hk2]; exact ⟨_, _, rfl, .inl ⟨hk2, rfl, rfl, rfl⟩⟩
            · rw [if_neg hk2, if_neg hk2]; exact ⟨_, _, rfl, .inr ⟨hk2, rfl, rfl, rfl⟩⟩
          rw [hfo] at ht2
          obtain ⟨o, hup, hmap⟩ := hM.store omlaw Try.underlying112 x.run true
          replace hup : ∀ W : World, blk W w.heap.size = blk wr w.heap.size → (Instr.mapUpdate 112 (.map (some w.heap.size)) (.int .i64 x.run) (.bool true)).run Try.prog W = .ok () (setBlock W w.heap.size o) := hup
          have HH := Lib.hid (And.intro hF (And.intro hM (And.intro hK (And.intro hf hmap))))
          have HT := Lib.hid (And.intro hds (And.intro ht1 ht2))
          have HFM := Lib.hid hfm
          clear hF hM hK hf ht1 ht2 hov hov' hmap hds hfo hfm
          go_upto_if 33 with (fail)
          clear c0 c1 c2 c3 hlk
          go_cut [] (fun wx => EvC wr w.heap.size x now kd aa (fireM (firesM D []) x) wx)
          case first =>
            rcases HFM.out with ⟨h1, rfl, rfl, h3⟩ | ⟨h1, rfl, rfl, h3⟩
            · have t2 : (x.kind == 2) = true := by simp [h1]
              have H3 := Lib.hid h3
              clear h1 h3
              go_wp2_with fail
              go_region_held3 (fun W => W.cell? ⟨wr.heap.size, 0, none⟩ = some (.int .i64 x.run)) (first | go_keep | go_simp) (fail)
              go_wp2_with fail
              go_meet
              case rel =>
                rw [H3.out]
                exact ⟨(setBlock_other _ _ _ _ hne).trans heap_lt2, (setBlock_other _ _ _ _ hne1).trans heap_new2, HH.out.2.2.2.2 _ (setBlock_same _ _ _ (by simp; omega)), ((((Keeps.refl (fun j => j = w.heap.size) wr).alloc _).alloc _).drew).setBlock (.inl rfl) _, by simp [setBlock_size]⟩
            · have t2 : (x.kind == 2) = false := by simp [h1]
              have H3 := Lib.hid h3
              clear h1 h3
              go_wp2_with fail
              go_meet
              case rel =>
                rw [H3.out]
                exact ⟨heap_lt2, heap_new2, (HH.out.2.1.alloc _).alloc _, ((Keeps.refl _ wr).alloc _).alloc _, by simp⟩
          case rest =>
            have h5 := hcut
            obtain ⟨x0, x1, x2, x3, l0⟩ := box4 h5.bx
            obtain ⟨⟨e0, e1, e2, e3, e4, e5⟩, ⟨e6, e7, e8, e9, e10⟩, l1⟩ := box11 (v := ⟨0, now, kd, aa, 0, .empty, .empty, 0, 0, .empty, none, 0, 0⟩) h5.be
            have HC := Lib.hid (And.intro h5 (HH.out.1.keep h5.keep (fun g' hg' e => by have := HH.out.2.2.2.1 g' hg'; omega)))
            have hsz := Lib.hid h5.size
            clear h5 hcut hup
            go_wp2_with (at_builtin; refine wp_appW (α := Fr) elemFr rfl (.tmp 39) (.tmp 44) rfl (HC.out.2.alloc _) ⟨x.run, now, kd, aa⟩ rfl rfl (heap_alloc_new _ _) (by omega) (by unfold maxLen; omega) ?_; intro a1 q1 w3 hr3 hk3 hf3)
            go_roundw
            case rel =>
              have hk4 : Keeps (fun j => (Value.slice a5 (firesL now D []).length p5).ownBlock = some j) wc w3 := ((Keeps.refl _ wc).alloc _).comp hk3
              have hk5 := hk4.size
              have hwk := hsz.out
              refine ⟨k + 1, by simp, hkn, by rw [HT.out.1, HT.out.2.2]; exact hr3, by rw [HT.out.1, HT.out.2.1]; exact HC.out.1.map.keep hk4 (fun h => by have := HH.out.2.2.2.1 _ h; omega), (HH.out.2.2.1.comp HC.out.1.keep).trans hk4 (fun j hj h => by have := HH.out.2.2.2.1 j h; omega), fun g' hg' => ?_⟩
              rcases hf3 g' hg' with h | h
              · exact HH.out.2.2.2.1 g' h
              · simp at h ⊢; omega
            case measure => simp [intOf]; omega
      · rw [if_neg hdu, List.append_nil] at hds
        have hdd : decide (now < x.due) = true := by simp; omega
        have HH := Lib.hid (And.intro hF (And.intro hM (And.intro hK hf)))
        have HT := Lib.hid hds
        clear hF hM hK hf hds
        go_wp2_with fail
        go_roundw
        case rel => exact ⟨k + 1, by simp, hkn, by rw [HT.out]; exact HH.out.1.alloc _, by rw [HT.out]; exact HH.out.2.1.alloc _, HH.out.2.2.1.alloc _, HH.out.2.2.2⟩
        case measure => simp [intOf]; omega
    · obtain rfl : k = l.length := by omega
      rw [List.take_length] at hF
      obtain ⟨a5, p5, rfl⟩ := hF.slice
      have HH := Lib.hid (And.intro hF (And.intro hK hf))
      clear hF hM hK hf
      go_wp2_with fail
      go_ret
      exact ⟨_, rfl, HH.out.1, (((Keeps.refl (fun j => j = w.heap.size) w).alloc _).comp HH.out.2.1).below (Nat.le_refl _) (fun j hj e => by omega)⟩
--]]firesL
end Go.Proofs.Ytkhphnidopbjjaa
