/- TimersPlays, walked: the queue and the document's list side by side. -/
import Derived.Test.YtkhphnidopbjjaaT8
import Derived.Test.YtkhphnidopbjjaaS1
namespace Go.Proofs.Ytkhphnidopbjjaa
open Go.RowKit Go.Own Go.Own.MapTy Go.Hm
open Go.Own.Cells (sz enc)
theorem TRef.keys {s : Hp} {Z : List It} {l : List Th} (h : TRef Z l) (R : Ref s Z) : (l.map Th.key).Nodup := by
  have h1 : (Z.map It.th).map Th.key = Z.map It.key := by rw [List.map_map]; rfl
  have := (h.perm.map Th.key).nodup_iff.1 (by rw [h1]; exact R.keys)
  exact this
theorem ap_any (v : Ev) (run : Int) (lv : Value) (l : List Th) (w : World) (H : RowAt w 110 lv l) (hn : l.length ≤ 100) (hs : l.Pairwise (fun a b => bef a b = true)) (hnd : (l.map Th.key).Nodup) (hvt : v.time ≤ 9223372036854775807) :
    Calls Try.prog 31 #[lv, .agg (stCells run v)] w (ApPost w lv (applyL l run v)) := by
  unfold applyL
  by_cases g1 : v.kind = 1
  · rw [if_pos g1]
    by_cases ga : 0 < v.a
    · rw [if_pos ga]; exact ap_put v run _ lv l w H hn hvt (.inr ⟨g1, ga, rfl⟩)
    · rw [if_neg ga]; exact ap_none v run lv l w H g1 ga
  · rw [if_neg g1]
    by_cases g2 : v.kind = 11
    · rw [if_pos g2]; exact ap_put v run _ lv l w H hn hvt (.inl ⟨g2, rfl⟩)
    · rw [if_neg g2]
      by_cases g3 : v.kind = 12 ∨ v.kind = 13
      · rw [if_pos g3]
        cases ha : l.any (fun y => decide (y.key = ⟨run, 1, v.a⟩)) with
        | true => exact ap_gone v run lv l w H hn hs hnd g3 ha
        | false => exact ap_gone_no v run lv l w H hn g3 ha
      · rw [if_neg g3]
        by_cases g4 : 16 ≤ v.kind ∧ v.kind ≤ 21
        · rw [if_pos g4]; exact ap_close v run lv l w H hn g4.1 g4.2
        · rw [if_neg g4]; exact ap_other v run lv l w H g1 g2 (fun h => g3 (.inl h)) (fun h => g3 (.inr h)) g4
/-- the script, as it stands in memory -/
def ReadsSteps (w : World) (a : Option Addr) (l : List (Int × Ev)) : Prop := ∀ (k : Nat) (p : Int × Ev), l[k]? = some p → ∃ b off, a = some ⟨b, off, none⟩ ∧ b < w.heap.size ∧ p.2.time ≤ 9223372036854775807 ∧
  ∀ (j : Nat) (u : Value), (stCells p.1 p.2)[j]? = some u → w.cell? ⟨b, off + k * 12 + j, none⟩ = some u
theorem steps_at {w wr : World} {b off k : Nat} {run : Int} {v : Ev} (hB : Below w.heap.size w wr) (hb : b < w.heap.size) (h : ∀ (j : Nat) (u : Value), (stCells run v)[j]? = some u → w.cell? ⟨b, off + k * 12 + j, none⟩ = some u) :
    (wr.cell? ⟨b, off + k * 12, none⟩ = some (.int .i64 run) ∧ wr.cell? ⟨b, off + k * 12 + 1, none⟩ = some (.int .i64 v.id) ∧ wr.cell? ⟨b, off + k * 12 + 2, none⟩ = some (.int .i64 v.time) ∧ wr.cell? ⟨b, off + k * 12 + 3, none⟩ = some (.int .i64 v.kind) ∧
    wr.cell? ⟨b, off + k * 12 + 4, none⟩ = some (.int .i64 v.a) ∧ wr.cell? ⟨b, off + k * 12 + 5, none⟩ = some (.int .i64 v.b)) ∧ wr.cell? ⟨b, off + k * 12 + 6, none⟩ = some (.string v.nm) ∧ wr.cell? ⟨b, off + k * 12 + 7, none⟩ = some (.string v.tx) ∧
    wr.cell? ⟨b, off + k * 12 + 8, none⟩ = some (.int .i64 v.vk) ∧ wr.cell? ⟨b, off + k * 12 + 9, none⟩ = some (.int .i64 v.vn) ∧ wr.cell? ⟨b, off + k * 12 + 10, none⟩ = some (.string v.vs) ∧ wr.cell? ⟨b, off + k * 12 + 11, none⟩ = some (.slice v.la v.ln v.lc) := by
  have c := fun (j : Nat) (u : Value) (hj : (stCells run v)[j]? = some u) => (hB.cell (p := ⟨b, off + k * 12 + j, none⟩) hb).trans (h j u hj)
  exact ⟨⟨c 0 _ rfl, c 1 _ rfl, c 2 _ rfl, c 3 _ rfl, c 4 _ rfl, c 5 _ rfl⟩, c 6 _ rfl, c 7 _ rfl, c 8 _ rfl, c 9 _ rfl, c 10 _ rfl, c 11 _ rfl⟩
theorem box12 {W : World} {b : Nat} {run : Int} {v : Ev} {T : TypeId} (h : W.heap[b]? = some (.cells (stCells run v) T (0, 0))) :
    (W.cell? ⟨b, 0, none⟩ = some (.int .i64 run) ∧ W.cell? ⟨b, 1, none⟩ = some (.int .i64 v.id) ∧ W.cell? ⟨b, 2, none⟩ = some (.int .i64 v.time) ∧ W.cell? ⟨b, 3, none⟩ = some (.int .i64 v.kind) ∧ W.cell? ⟨b, 4, none⟩ = some (.int .i64 v.a) ∧ W.cell? ⟨b, 5, none⟩ = some (.int .i64 v.b)) ∧
    W.cell? ⟨b, 6, none⟩ = some (.string v.nm) ∧ W.cell? ⟨b, 7, none⟩ = some (.string v.tx) ∧ W.cell? ⟨b, 8, none⟩ = some (.int .i64 v.vk) ∧ W.cell? ⟨b, 9, none⟩ = some (.int .i64 v.vn) ∧ W.cell? ⟨b, 10, none⟩ = some (.string v.vs) ∧ W.cell? ⟨b, 11, none⟩ = some (.slice v.la v.ln v.lc) ∧ b < W.heap.size := by
  refine ⟨⟨?_, ?_, ?_, ?_, ?_, ?_⟩, ?_, ?_, ?_, ?_, ?_, ?_, lt_of_heap h⟩
  all_goals (rw [cell_of_heap h]; rfl)
def TpRel (w : World) (hb : Nat) (n : Nat) (v23 v6 : Value) (wr : World) : Prop :=
  ∃ (k : Nat) (l : List Th) (lv mv : Value) (s : Hp) (Z : List It), v23 = .int .i64 k ∧ k ≤ n ∧ QM w hb lv mv s Z l k wr ∧ RowAt wr 110 v6 l ∧ Off hb lv mv v6 ∧ ∀ g, v6.ownBlock = some g → w.heap.size ≤ g
set_option maxRecDepth 100000 in
set_option maxHeartbeats 16000000 in
theorem tplays_walk (sc : List (Int × Ev)) (a : Option Addr) (cap : Nat) (zs : List Int) (az : Option Addr) (cz : Nat) (w : World) (hd : ReadsSteps w a sc) (hz : ReadsInts w az zs) (hmax : sc.length ≤ 9223372036854775807) (hzmax : zs.length ≤ 9223372036854775807) :
    Calls Try.prog 8 #[.slice a sc.length cap, .slice az zs.length cz] w fun e w' => e = .returned (.bool true) ∧ Below w.heap.size w w' := by
  have HD := Lib.hid (And.intro hd hz)
  clear hd hz
  by_cases hn : 80 < sc.length
  · go_enter Try.func8, Try.ntmps8
    go_wp2_with (go_at_call 29; refine (waits_true _).mono ?_; rintro e w1 ⟨rfl, hB1⟩)
    go_ret
    exact ⟨rfl, hB1⟩
  · by_cases hn2 : 80 < zs.length
    · go_enter Try.func8, Try.ntmps8
      go_wp2_with (go_at_call 29; refine (waits_true _).mono ?_; rintro e w1 ⟨rfl, hB1⟩)
      go_ret
      exact ⟨rfl, hB1⟩
    · have hn' : sc.length ≤ 80 := by omega
      have hn2' : zs.length ≤ 80 := by omega
      go_enter Try.func8, Try.ntmps8
      go_wp2_with (go_at_call 29; refine (waits_true _).mono ?_; rintro e w1 ⟨rfl, hB1⟩)
      go_loopw [23, 6] (fun v23 v6 wr => TpRel w w1.heap.size sc.length v23 v6 wr) (fun v23 _ _ => sc.length - (intOf v23).toNat)
      case atStart => exact ⟨0, [], _, _, _, _, rfl, Nat.zero_le _, QM.zero hB1, RowAt.nil _ _, fun g h => by simp [Value.ownBlock] at h, fun g h => by simp [Value.ownBlock] at h⟩
      case round =>
        obtain ⟨k, l, lv, mv, s, Z, rfl, hk, hQ, hR, hO, hF⟩ := hrel
        have hb0 := hQ.b0
        generalize hhb : w1.heap.size = hbk at *
        by_cases hkn : k < sc.length
        · obtain ⟨⟨run, v⟩, hp⟩ := elem_at hkn
          obtain ⟨b, off, rfl, hbl, hvt, hcs⟩ := HD.out.1 k _ hp
          obtain ⟨⟨c0, c1, c2, c3, c4, c5⟩, c6, c7, c8, c9, c10, c11⟩ := steps_at hQ.below hbl hcs
          have hblr : b < wr.heap.size := Nat.lt_of_lt_of_le hbl hQ.below.size
          have hk0 : (0 : Int) ≤ (k : Int) := by omega
          have hk1 : (k : Int) < (sc.length : Int) := by omega
          obtain ⟨l', c, hl'⟩ : ∃ l' c, applyL l run v = (l', c) := ⟨_, _, rfl⟩
          obtain ⟨at_, ct, rfl⟩ := hR.slice
          have HQ := Lib.hid (And.intro hQ (And.intro hR (And.intro hO hF)))
          have HL := Lib.hid hl'
          have HHB := Lib.hid hhb
          simp only at hvt
          clear hp hcs hQ hR hO hF hl' hhb
          go_wp2_with fail
          have BX := Lib.hid (heap_alloc_new wr (.cells (stCells run v) 73))
          have KA : Below wr.heap.size wr (wr.alloc (.cells (stCells run v) 73)) := (Below.refl _ _).alloc (Nat.le_refl _) _
          refine ((HQ.out.1.old KA).apply (by omega) v run).mono ?_
          rintro e w2 ⟨lv', mv', hA⟩
          obtain ⟨hret, ⟨s', Z', hq2⟩, hK, hFo⟩ := hA
          rw [HL.out] at hret hq2
          subst hret
          have bx2 : w2.heap[wr.heap.size]? = some (.cells (stCells run v) 73 (0, 0)) := (hK.block _ (by simp) (fun f => by have := HQ.out.1.hv.lt f; omega)).trans BX.out
          obtain ⟨⟨x0, x1, x2, x3, x4, x5⟩, x6, x7, x8, x9, x10, x11, lx⟩ := box12 bx2
          obtain ⟨hO2, hR2⟩ := HQ.out.2.2.1.step (HQ.out.2.1.alloc _) hK hFo
          have hl100 := HQ.out.1.hl
          have AP := Lib.hid (HL.out ▸ ap_any v run _ l w2 hR2 (by omega) HQ.out.1.tr.sorted (TRef.keys HQ.out.1.tr HQ.out.1.ref) hvt)
          have HQ2 := Lib.hid (And.intro hq2 bx2)
          have HO2 := Lib.hid (And.intro hO2 (fun g (h : w2.heap.size ≤ g) (f : foot hbk lv' mv' g) => Nat.lt_irrefl _ (Nat.lt_of_lt_of_le (hq2.hv.lt f) h)))
          have HF2 := Lib.hid hq2.below.size
          clear c0 c1 c2 c3 c4 c5 c6 c7 c8 c9 c10 c11 KA hK hFo bx2 hO2 hR2 hq2 hb0 hblr
          go_wp2_with fail
          refine AP.out.mono ?_
          rintro e w3 ⟨v3, rfl, hR3, hB3, hf3⟩
          obtain ⟨a3, c3, rfl⟩ := hR3.slice
          have q3 := HQ2.out.1.old hB3
          have hl3 : l'.length ≤ k + 1 := q3.hl
          have LK := Lib.hid (likeT_true _ _ _ _ _ _ _ _ w3 q3.hv q3.ref q3.tr hR3 (by omega))
          have HO3 := Lib.hid (show Off hbk lv' mv' (.slice a3 l'.length c3) ∧ ∀ g, (Value.slice a3 l'.length c3).ownBlock = some g → w.heap.size ≤ g from ⟨fun g hg => (hf3 g hg).elim (HO2.out.1 g) (HO2.out.2 g), fun g hg => (hf3 g hg).elim (HQ.out.2.2.2 g) (Nat.le_trans HF2.out)⟩)
          clear hf3
          have HQ3 := Lib.hid (And.intro q3 (And.intro hR3 (And.intro hB3 ((hB3.block _ lx).trans HQ2.out.2))))
          clear x0 x1 x2 x3 x4 x5 x6 x7 x8 x9 x10 x11 q3 hR3 hB3
          go_wp2_with fail
          refine LK.out.mono ?_
          rintro e w4 ⟨rfl, hB4⟩
          have hlx3 : wr.heap.size < w3.heap.size := lt_of_heap HQ3.out.2.2.2
          have q4 := HQ3.out.1.old hB4
          have hR4 := HQ3.out.2.1.below hB4
          obtain ⟨⟨x0, x1, x2, x3, x4, x5⟩, x6, x7, x8, x9, x10, x11, lx4⟩ := box12 ((hB4.block _ hlx3).trans HQ3.out.2.2.2)
          obtain ⟨r, hr⟩ : ∃ r, l'.any (fun y => decide (y.key = ⟨run, 1, v.a⟩)) = r := ⟨_, rfl⟩
          obtain ⟨ix, hix⟩ : ∃ ix, ix = idxT ⟨run, 1, v.a⟩ l' 0 := ⟨_, rfl⟩
          have hd : decide (0 ≤ ix) = r := by
            cases r with
            | true =>
              obtain ⟨i, _, h1, _, _⟩ := idxT_pos hr (k := 0)
              rw [hix, h1]; simp
            | false => rw [hix, idxT_neg hr]; rfl
          have OP := Lib.hid (fun (W : World) (K : Below w4.heap.size w4 W) => open_any run v.a r _ _ _ _ _ _ W (q4.old K).hv (q4.old K).ref ((q4.tr.any _).symm.trans hr))
          have FN := Lib.hid (fun (W : World) (K : Below w4.heap.size w4 W) => hix ▸ find_th run 1 v.a _ l' W (hR4.below K) (by omega))
          have HQ4 := Lib.hid (And.intro q4 (And.intro hR4 hB4))
          have hb4 := q4.b0
          clear q4 hR4 hB4 hr hix x1 x2 x3 x5 x6 x7 x8 x9 x10 x11 hlx3
          go_wp2_with fail
          refine wp_region_ext (by kernel_rfl) (by kernel_rfl) ?_
          repeat (go_big_quiet_step ((first | (go_at_call 33; exact ext_call (OP.out _ (ext_below _))) | (go_at_call 34; exact ext_call (FN.out _ (ext_below _))))))
          refine wpQuiet_nil ?_
          intro w5 hB5
          have HQ5 := Lib.hid (And.intro (HQ4.out.1.old hB5) (HQ4.out.2.1.below hB5))
          have hb5 := HQ5.out.1.b0
          clear x0 x4 lx4 hb4 hB5
          clear hd
          go_wp2_with fail
          by_cases hkz : k < zs.length
          · obtain ⟨z, hz⟩ := elem_at hkz
            obtain ⟨bz, offz, rfl, hcz, hbz⟩ := HD.out.2 k z hz
            have hcz5 : w5.cell? ⟨bz, offz + k, none⟩ = some (.int .i64 z) := (HQ5.out.1.below.cell (p := ⟨bz, offz + k, none⟩) hbz).trans hcz
            have hbz5 : bz < w5.heap.size := Nat.lt_of_lt_of_le hbz HQ5.out.1.below.size
            have hz1 : (k : Int) < (zs.length : Int) := by omega
            have hzd : decide ((k : Int) < (zs.length : Int)) = true := by simpa using hkz
            have FI := Lib.hid (fun (W : World) (K : Below w5.heap.size w5 W) => fires_any z _ _ _ _ _ _ _ W (HQ5.out.1.old K).hv (HQ5.out.1.old K).ref (HQ5.out.1.old K).tr (by have := HQ5.out.1.len; omega))
            have FT := Lib.hid (fun (W : World) (K : Below w5.heap.size w5 W) => firesT_any z _ l' W (HQ5.out.2.below K) (by omega))
            have hfl : (firesL z (dueTh z l') []).length ≤ 16384 := by
              have h1 := firesL_len z (dueTh z l') []
              have h2 := List.length_filter_le (fun x : Th => decide (x.due ≤ z)) l'
              unfold dueTh at *
              omega
            clear hz hcz hbz
            go_region_held3 (fun W => W.cell? ⟨bz, offz + k, none⟩ = some (.int .i64 z)) (first | go_keep | exact y5)
              ((first
                | (go_at_call 36; refine (FI.out _ ((Below.refl _ _).drew)).mono ?_; rintro e w6 ⟨v6, rfl, hR6, hB6, -⟩; obtain ⟨a6, c6, rfl⟩ := hR6.slice; have B6 := ((Below.refl w5.heap.size w5).drew).trans hB6; have y5 := (hB6.cell (p := ⟨bz, offz + k, none⟩) hbz5).trans hcz5)
                | (go_at_call 37; refine (FT.out _ B6).mono ?_; rintro e w7 ⟨v7, rfl, hR7, hB7⟩; obtain ⟨a7, c7, rfl⟩ := hR7.slice; have B7 := B6.trans (hB7.mono B6.size); have R67 := hR6.below hB7; have y5 := (B7.cell (p := ⟨bz, offz + k, none⟩) hbz5).trans hcz5)
                | (go_at_call 35; refine (sameF_true _ _ _ _ R67 hR7 hfl).mono ?_; rintro e w8 ⟨rfl, hB8⟩; have B8 := B7.trans (hB8.mono B7.size); have y5 := (B8.cell (p := ⟨bz, offz + k, none⟩) hbz5).trans hcz5)))
            have HE := Lib.hid B8
            clear hcz5 hR6 hB6 B6 y5 hR7 hB7 B7 R67 hB8 B8
            go_wp2_with fail
            go_roundw
            case rel => exact ⟨k + 1, l', lv', mv', s', Z', by simp, hkn, HQ5.out.1.old HE.out, HQ5.out.2.below HE.out, HO3.out.1, HO3.out.2⟩
            case measure => simp [intOf]; omega
          · have hzd : decide ((k : Int) < (zs.length : Int)) = false := by simpa using hkz
            have hzn : decide (k < zs.length) = false := by simpa using hkz
            refine wp_region_ext (by kernel_rfl) (by kernel_rfl) ?_
            repeat (go_big_quiet_step (fail))
            refine wpQuiet_nil ?_
            intro w6 hB6
            have HE := Lib.hid hB6
            clear hB6
            go_wp2_with fail
            go_roundw
            case rel => exact ⟨k + 1, l', lv', mv', s', Z', by simp, hkn, HQ5.out.1.old HE.out, HQ5.out.2.below HE.out, HO3.out.1, HO3.out.2⟩
            case measure => simp [intOf]; omega
        · obtain rfl : k = sc.length := by omega
          have HB := Lib.hid hQ.below
          clear hQ hR hO hF hhb
          go_wp2_with fail
          go_ret
          exact ⟨rfl, HB.out⟩
end Go.Proofs.Ytkhphnidopbjjaa
