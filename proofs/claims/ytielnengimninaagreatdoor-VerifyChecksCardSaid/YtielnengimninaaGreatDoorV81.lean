/- the document's rounds and ways (foliotref13.Round, Paths), walked. -/
import Derived.Test.YtielnengimninaaGreatDoorV80
namespace Go.Proofs.YtielnengimninaaGreatDoor
open Go.RowKit Go.Own Go.Own.MapTy Go.Va Go.Sort
open Go.Own.Cells (sz enc)
theorem elemBool : ElemOf Bool Tryz.prog 43 4 1 := elem_mk Tryz.underlying43 (z := .bool false) (n := 1) (by kernel_rfl) rfl rfl
theorem range_succ_map {α : Type} (f : Nat → α) (j : Nat) : (List.range j).map f ++ [f j] = (List.range (j + 1)).map f := by
  rw [List.range_succ, List.map_append]
  rfl
theorem there_init {n k0 : Nat} (h : k0 < n) : (List.range n).map (fun x => x == k0) = (List.replicate n false).set k0 true := by
  apply List.ext_getElem?
  intro j
  rw [List.getElem?_map, List.getElem?_set, List.length_replicate, List.getElem?_replicate]
  by_cases hj : j < n
  · rw [List.getElem?_range hj]
    by_cases e : k0 = j
    · subst e
      simp [hj]
    · rw [if_neg e, if_pos hj]
      have : (j == k0) = false := by rw [beq_eq_false_iff_ne]; exact fun h => e h.symm
      simp [this]
  · rw [List.getElem?_eq_none (by simp; omega)]
    by_cases e : k0 = j
    · omega
    · rw [if_neg e, if_neg hj]
      rfl
theorem set_out {t : List Bool} {x : Nat} (h : ¬ x < t.length) : t.set x true = t := List.set_eq_of_length_le (by omega)
set_option maxRecDepth 100000 in
set_option maxHeartbeats 8000000 in
theorem rround_any (F : Nat → Prop) (w : World) (i : IC) (p : Img) (H : IAt F w i p) (hi0 : imgL p = 0) (k0 : Nat) (hk : k0 < p.code.length) (r : Bool) (hr : roundR p.code k0 = r) :
    Calls Tryz.prog 18 #[.agg #[.slice i.ca i.cn i.cc, .slice i.ka i.kn i.kc, .slice i.na i.nn i.nc, .int .i64 i.pl], .int .i64 k0] w fun e w' => e = .returned (.bool r) ∧ Below w.heap.size w w' := by
  have OK := codeOk_of hi0
  have hop := code_all hi0
  have h512 := OK.len
  have l1 := H.lens.1
  obtain ⟨c, hc⟩ := elem_at hk
  obtain ⟨g, off, had, _, hg, _, m0, m1⟩ := H.code_at (Below.refl _ _) hc
  have okc := hop c (List.mem_of_getElem? hc)
  unfold roundR restsAt at hr
  rw [hc] at hr
  dsimp only at hr
  have HI := Lib.hid (And.intro H (And.intro OK (And.intro hop (And.intro hk l1))))
  obtain ⟨ca, cn, cc, ka, kn, kc, na, nn, nc, pl⟩ := i
  dsimp only at l1 had
  subst had
  have hkn : (k0 : Int) < cn := by omega
  rw [← l1] at h512
  obtain ⟨op, a⟩ := c
  dsimp only at m0 m1
  have RE := Lib.hid (rrests_any op a okc)
  generalize restsL ⟨op, a⟩ = rs at *
  have HL := Lib.hid l1
  clear H OK hop hi0 l1 hc okc hk
  dsimp only
  go_enter Tryz.func18, Tryz.ntmps18
  go_wp2_with fail
  obtain ⟨w0, hw0⟩ : ∃ w0, w0 = w.alloc (.cells #[.slice (some ⟨g, off, none⟩) cn cc, .slice ka kn kc, .slice na nn nc, .int .i64 pl] 26) := ⟨_, rfl⟩
  have B0 : Below w.heap.size w w0 := by rw [hw0]; exact (Below.refl _ _).alloc (Nat.le_refl _) _
  have X0 : BoxI w0 w.heap.size ⟨some ⟨g, off, none⟩, cn, cc, ka, kn, kc, na, nn, nc, pl⟩ := by rw [hw0]; exact heap_alloc_new _ _
  rw [← hw0]
  refine (RE.out _).mono ?_
  rintro e w1 ⟨rfl, hB1⟩
  have B1 := B0.trans (hB1.mono B0.size)
  have X1 := X0.below hB1
  have k1 := X1.c0
  have lx := X1.lt
  have H1 := Lib.hid (And.intro B1 X1)
  dsimp only at k1
  clear hw0 B0 X0 hB1 B1 X1 RE m0 m1
  cases rs with
  | true =>
    simp only [cond_true] at hr
    subst hr
    go_wp2_with fail
    go_ret
    exact ⟨rfl, H1.out.1⟩
  | false =>
    simp only [cond_false] at hr
    have HR := Lib.hid hr
    clear hr
    --[[r1
    go_wp2_with fail
    go_loopg [5, 6] cn (fun gk v5 v6 wr => ∃ j : Nat, v6 = .int .i64 j ∧ j ≤ cn ∧ gk = cn - j ∧ RowAt wr 4 v5 ((List.range j).map (fun x => x == k0)) ∧ (∀ g, v5.ownBlock = some g → w1.heap.size ≤ g) ∧ Below w1.heap.size w1 wr)
    case atStart => exact ⟨0, rfl, Nat.zero_le _, rfl, RowAt.nil _ _, (fun g h => by cases h), Below.refl _ _⟩
    case round =>
      obtain ⟨j, rfl, hj, hgk, hR, hO, hB⟩ := hrel
      have k2 := (hB.cell (p := ⟨w.heap.size, 0, none⟩) lx).trans k1
      have ly : w.heap.size < wr.heap.size := Nat.lt_of_lt_of_le lx hB.size
      obtain ⟨ha, hc, he⟩ := hR.slice
      rw [List.length_map, List.length_range] at he
      subst he
      have HX := Lib.hid (And.intro hgk (And.intro hR (And.intro hO hB)))
      clear hgk hR hO hB
      by_cases hjn : j < cn
      · have hjn' : (j : Int) < cn := by omega
        have hje : ((j : Int) == (k0 : Int)) = (j == k0) := by
          cases h : (j == k0) with
          | true => rw [beq_iff_eq] at h ⊢; omega
          | false => rw [beq_eq_false_iff_ne] at h ⊢; omega
        --[[r2
        go_wp2_with (at_builtin; go_must (refine wp_appW (α := Bool) elemBool rfl (.tmp 24) (.tmp 28) rfl (HX.out.2.1.alloc _) (j == k0) rfl rfl (heap_alloc_new _ _) (by simp; omega) (by simp; unfold maxLen; omega) ?_); intro a1 q1 w2 hr1 hk1 hf1; rw [range_succ_map (fun x => x == k0)] at hr1; simp only [List.length_map, List.length_range] at hr1 hf1; have HF := Lib.hid (And.intro hr1 (And.intro hk1 hf1)); clear hr1 hk1 hf1)
        go_roundg (cn - (j + 1))
        case measure => have := HX.out.1; omega
        case rel =>
          have hb := HX.out.2.2.2
          refine ⟨j + 1, by simp, by omega, rfl, HF.out.1, fun g hg => ?_, ?_⟩
          · rcases HF.out.2.2 g hg with h | h
            · exact HX.out.2.2.1 g h
            · have := hb.size; simp at h; omega
          · exact hb.trans (((Below.refl _ _).alloc hb.size _).trans (HF.out.2.1.below (by have := hb.size; simp; omega) (fun j hj e => by have := HX.out.2.2.1 j e; omega)))
        --]]r2
      · obtain rfl : j = cn := by omega
        have hjj : ¬ (j : Int) < j := by omega
        have hT := HX.out.2.1
        rw [there_init (show k0 < j by omega)] at hT
        have h0 : ((List.replicate j false).set k0 true)[k0]? = some true := by rw [List.getElem?_set_self (by simp; omega)]
        obtain ⟨tb, tf, rfl, htl⟩ := hT.addr h0
        have htN := HX.out.2.2.1 tb rfl
        have HT := Lib.hid (And.intro hT (And.intro HX.out.2.2.2 htN))
        clear hT h0 HX
        --[[r3
        go_wp2_with fail
        go_loopg [7] j (fun gk v7 wz => ∃ (k : Nat) (t : List Bool), v7 = .int .i64 k ∧ k ≤ j ∧ gk = j - k ∧ RowAt wz 4 (.slice (some ⟨tb, tf, none⟩) j hc) t ∧ t.length = j ∧ roundN p.code k0 (j - k) t = r ∧ Below w1.heap.size w1 wz)
        case atStart => exact ⟨0, _, rfl, Nat.zero_le _, rfl, HT.out.1, by simp, by have := HR.out; rw [← HL.out] at this; exact this, HT.out.2.1⟩
        case round =>
          obtain ⟨k, t, rfl, hkj, hgk, hT, htl2, hrn, hB⟩ := hrel
          have k3 := (hB.cell (p := ⟨w.heap.size, 0, none⟩) lx).trans k1
          have lz : w.heap.size < wr.heap.size := Nat.lt_of_lt_of_le lx hB.size
          by_cases hkk : k < j
          · have hkk' : (k : Int) < j := by omega
            have hsub : j - k = (j - (k + 1)) + 1 := by omega
            rw [hsub, roundN] at hrn
            obtain ⟨PR, hPR⟩ : ∃ PR, passI p.code k0 p.code.length 0 t = PR := ⟨_, rfl⟩
            rw [hPR] at hrn
            have hPR2 : passI p.code k0 j 0 t = PR := by rw [HL.out]; exact hPR
            have HK := Lib.hid (And.intro hgk (And.intro hrn (And.intro hT (And.intro hPR2 (And.intro hB htl2)))))
            clear hgk hrn hT hPR hPR2 hB htl2
            --[[r4
            go_wp2_with fail
            go_loopg [8] j (fun gk v8 wy => ∃ (x : Nat) (t' : List Bool), v8 = .int .i64 x ∧ x ≤ j ∧ gk = j - x ∧ RowAt wy 4 (.slice (some ⟨tb, tf, none⟩) j hc) t' ∧ t'.length = j ∧ passI p.code k0 (j - x) x t' = PR ∧ Below w1.heap.size w1 wy)
            case atStart => exact ⟨0, t, rfl, Nat.zero_le _, rfl, HK.out.2.2.1, HK.out.2.2.2.2.2, HK.out.2.2.2.1, HK.out.2.2.2.2.1⟩
            case round =>
              obtain ⟨x, t', rfl, hxj, hgk, hT, htl2, hpi, hB⟩ := hrel
              have k4 := (hB.cell (p := ⟨w.heap.size, 0, none⟩) lx).trans k1
              have lu : w.heap.size < wr.heap.size := Nat.lt_of_lt_of_le lx hB.size
              by_cases hxx : x < j
              · have hxx' : (x : Int) < j := by omega
                have hsub : j - x = (j - (x + 1)) + 1 := by omega
                rw [hsub, passI] at hpi
                obtain ⟨b, hb⟩ := elem_at (l := t') (k := x) (by omega)
                have t0 := row_bool hT hb
                have tlt : tb < wr.heap.size := hT.lt rfl
                rw [List.getD_eq_getElem?_getD, hb, Option.getD_some] at hpi
                obtain ⟨c, hcx⟩ := elem_at (l := p.code) (k := x) (by have := HL.out; omega)
                have BW := H1.out.1.trans (hB.mono H1.out.1.size)
                obtain ⟨g', off', e', _, hgw, hgr, m0, m1⟩ := HI.out.1.code_at BW hcx
                dsimp only at e'
                cases e'
                have okc := HI.out.2.2.1 c (List.mem_of_getElem? hcx)
                have a0 := HI.out.2.1.a0 c (List.mem_of_getElem? hcx)
                have NX := Lib.hid (fun W' (B' : Below w.heap.size w W') => rnext_any (HI.out.1.below B') x c hcx okc a0 (by omega))
                have hra : restsAt p.code x = restsL c := by unfold restsAt; rw [hcx]
                have hfa : followAt p.code x = followN c x := by unfold followAt; rw [hcx]
                rw [hra, hfa] at hpi
                have hfl := followN_len c x
                obtain ⟨op2, a2⟩ := c
                dsimp only at m0 m1
                have RE := Lib.hid (rrests_any op2 a2 okc)
                generalize restsL ⟨op2, a2⟩ = rs at *
                generalize followN ⟨op2, a2⟩ x = fl at *
                have HY := Lib.hid (And.intro hgk (And.intro hT (And.intro htl2 (And.intro hpi (And.intro hB (And.intro hfl BW))))))
                clear hgk hT htl2 hpi hB hfl BW hb hcx okc a0 hra hfa
                cases b with
                | false =>
                  --[[r5
                  go_wp2_with fail
                  go_roundg (j - (x + 1))
                  case measure => have := HY.out.1; omega
                  case rel => exact ⟨x + 1, t', by simp, by omega, rfl, HY.out.2.1, HY.out.2.2.1, HY.out.2.2.2.1, HY.out.2.2.2.2.1⟩
                  --]]r5
                | true =>
                  --[[r6
                  go_wp2_with fail
                  refine (RE.out _).mono ?_
                  rintro e w5 ⟨rfl, hB5⟩
                  have k5 := (hB5.cell (p := ⟨w.heap.size, 0, none⟩) lu).trans k4
                  have lv : w.heap.size < w5.heap.size := Nat.lt_of_lt_of_le lu hB5.size
                  have H5 := Lib.hid hB5
                  clear hB5 RE m0 m1 hgr hgw t0 tlt
                  cases rs with
                  | true =>
                    go_wp2_with fail
                    go_roundg (j - (x + 1))
                    case measure => have := HY.out.1; omega
                    case rel => exact ⟨x + 1, t', by simp, by omega, rfl, HY.out.2.1.below H5.out, HY.out.2.2.1, HY.out.2.2.2.1, HY.out.2.2.2.2.1.trans (H5.out.mono HY.out.2.2.2.2.1.size)⟩
                  | false =>
                    --[[r7
                    obtain ⟨RO, hRO⟩ : ∃ RO, rowI k0 fl t' = RO := ⟨_, rfl⟩
                    have hpi := HY.out.2.2.2.1
                    rw [hRO] at hpi
                    have hpi2 : RO.bind (fun t1 => passI p.code k0 (j - (x + 1)) (x + 1) t1) = PR := by revert hpi; clear hRO; cases RO <;> exact id
                    have B5 := HY.out.2.2.2.2.1.trans (H5.out.mono HY.out.2.2.2.2.1.size)
                    have XB := H1.out.2.below B5
                    have x1 := XB.c1
                    have x2 := XB.c2
                    have x3 := XB.c3
                    dsimp only at x1 x2 x3
                    have NN := Lib.hid (NX.out w5 (H1.out.1.trans (B5.mono H1.out.1.size)))
                    have HP := Lib.hid (And.intro hRO (And.intro hpi2 B5))
                    clear hpi hpi2 hRO B5 XB NX
                    go_wp2_with fail
                    refine NN.out.mono ?_
                    rintro e w6 ⟨fv, rfl, hfr, hff, hB6⟩
                    obtain ⟨fa, fc, rfl⟩ := hfr.slice
                    have HF := Lib.hid (And.intro hfr (And.intro hff (And.intro hB6 (And.intro (HP.out.2.2.trans (hB6.mono HP.out.2.2.size)) (HY.out.2.1.below (H5.out.trans (hB6.mono H5.out.size)))))))
                    clear hfr hff hB6 NN x1 x2 x3
                    go_wp2_with fail
                    go_loopg [10] (fl.length) (fun gk v10 wx => ∃ (y : Nat) (t1 : List Bool), v10 = .int .i64 y ∧ y ≤ fl.length ∧ gk = fl.length - y ∧ RowAt wx 4 (.slice (some ⟨tb, tf, none⟩) j hc) t1 ∧ t1.length = j ∧ rowI k0 (fl.drop y) t1 = RO ∧ RowAt wx 3 (.slice fa fl.length fc) fl ∧ Below w1.heap.size w1 wx)
                    case atStart => exact ⟨0, t', rfl, Nat.zero_le _, rfl, HF.out.2.2.2.2, HY.out.2.2.1, HP.out.1, HF.out.1, HF.out.2.2.2.1⟩
                    case round =>
                      obtain ⟨y, t1, rfl, hyl, hgk, hT, htl2, hro, hfr, hB⟩ := hrel
                      have hfl2 := HY.out.2.2.2.2.2.1
                      have k6 := (hB.cell (p := ⟨w.heap.size, 0, none⟩) lx).trans k1
                      have ls : w.heap.size < wr.heap.size := Nat.lt_of_lt_of_le lx hB.size
                      clear hfl2
                      by_cases hyy : y < fl.length
                      · have hyy' : (y : Int) < fl.length := by omega
                        obtain ⟨z, hz⟩ := elem_at hyy
                        have hdr : fl.drop y = z :: fl.drop (y + 1) := by
                          rw [List.drop_eq_getElem_cons (List.getElem?_eq_some_iff.1 hz).1, (List.getElem?_eq_some_iff.1 hz).2]
                        rw [hdr, rowI] at hro
                        obtain ⟨fg, foff, rfl, hfg⟩ := hfr.addr hz
                        have z0 := row_nat hfr hz
                        have HQ := Lib.hid (And.intro hgk (And.intro hT (And.intro htl2 (And.intro hro (And.intro hfr hB)))))
                        have tlt : tb < wr.heap.size := hT.lt rfl
                        have tfz : ∀ o, wr.frozen? ⟨tb, o, none⟩ = false := fun o => hT.frozen o
                        clear hgk hT htl2 hro hfr hB hdr hz
                        cases hzk : (z == k0) with
                        | true =>
                          have hzk' : ((z : Int) == (k0 : Int)) = true := by rw [beq_iff_eq] at hzk ⊢; omega
                          have hro := HQ.out.2.2.2.1
                          rw [hzk] at hro
                          have hro2 : none = RO := hro
                          have h2 := HP.out.2.1
                          rw [← hro2] at h2
                          have h2' : none = PR := h2
                          have h3 := HK.out.2.1
                          rw [← h2'] at h3
                          have h3' : true = r := h3
                          subst h3'
                          clear hro hro2 h2 h2' h3 hzk
                          --[[r8
                          go_wp2_with fail
                          go_ret
                          exact ⟨rfl, H1.out.1.trans (HQ.out.2.2.2.2.2.mono H1.out.1.size)⟩
                          --]]r8
                        | false =>
                          have hzk' : ((z : Int) == (k0 : Int)) = false := by rw [beq_eq_false_iff_ne] at hzk ⊢; omega
                          have hro := HQ.out.2.2.2.1
                          rw [hzk] at hro
                          have hro2 : rowI k0 (fl.drop (y + 1)) (t1.set z true) = RO := hro
                          have HO := Lib.hid hro2
                          clear hro hro2 hzk
                          by_cases hzn : z < j
                          · have hzn' : (z : Int) < j := by omega
                            obtain ⟨bz, hbz⟩ := elem_at (l := t1) (k := z) (by have := HQ.out.2.2.1; omega)
                            have y0 := row_bool HQ.out.2.1 hbz
                            have S7 := HQ.out.2.1.setOne hbz (y := true) (j := 0) (u := .bool true) (by decide) rfl
                            rw [show tf + (z * sz Bool + 0) = tf + z from by simp [Cells.sz]] at S7
                            have K8 : Keeps (fun j => j = tb) wr (wr.setCell ⟨tb, tf + z, none⟩ (.bool true)) := Keeps.setCell (S := fun j => j = tb) (p := ⟨tb, tf + z, none⟩) (Keeps.refl _ _) (.inl rfl) _
                            have HA := Lib.hid (And.intro S7 K8)
                            clear S7 K8 hbz
                            --[[r9
                            go_wp2_with fail
                            go_region
                            go_wp2_with fail
                            go_roundg (fl.length - (y + 1))
                            case measure => have := HQ.out.1; omega
                            case rel =>
                              refine ⟨y + 1, t1.set z true, by have := HY.out.2.2.2.2.2.1; simp; unfold wrap64; omega, by omega, rfl, HA.out.1.drew, by rw [List.length_set]; exact HQ.out.2.2.1, HO.out, (HQ.out.2.2.2.2.1.keep HA.out.2 (fun gz hg e => ?_)).drew, (HQ.out.2.2.2.2.2.trans (HA.out.2.below HQ.out.2.2.2.2.2.size (fun jz hj e => by have e : jz = tb := e; have := HT.out.2.2; omega))).drew⟩
                              have e : gz = tb := e
                              have := HF.out.2.1 gz hg
                              have := HY.out.2.1.lt (g := tb) rfl
                              have := H5.out.size
                              omega
                            --]]r9
                          · have hzn' : ¬ (z : Int) < j := by omega
                            --[[r10
                            go_wp2_with fail
                            go_region
                            go_wp2_with fail
                            go_roundg (fl.length - (y + 1))
                            case measure => have := HQ.out.1; omega
                            case rel => exact ⟨y + 1, t1, by have := HY.out.2.2.2.2.2.1; simp; unfold wrap64; omega, by omega, rfl, HQ.out.2.1.drew, HQ.out.2.2.1, by have := HO.out; rwa [set_out (by have := HQ.out.2.2.1; omega)] at this, HQ.out.2.2.2.2.1.drew, HQ.out.2.2.2.2.2.drew⟩
                            --]]r10
                      · obtain rfl : y = fl.length := by omega
                        have hyy' : ¬ (fl.length : Int) < fl.length := by omega
                        rw [List.drop_eq_nil_of_le (Nat.le_refl _), rowI] at hro
                        have h2 := HP.out.2.1
                        rw [← hro] at h2
                        have h2' : passI p.code k0 (j - (x + 1)) (x + 1) t1 = PR := h2
                        have HQ := Lib.hid (And.intro hT (And.intro htl2 (And.intro h2' hB)))
                        clear hT htl2 hro hfr hB h2 h2' hgk
                        --[[r11
                        go_wp2_with fail
                        go_roundg (j - (x + 1))
                        case measure => have := HY.out.1; omega
                        case rel => exact ⟨x + 1, t1, by simp, by omega, rfl, HQ.out.1, HQ.out.2.1, HQ.out.2.2.1, HQ.out.2.2.2⟩
                        --]]r11
                    --]]r7
                  --]]r6
              · obtain rfl : x = j := by omega
                have hxx' : ¬ (x : Int) < x := by omega
                rw [Nat.sub_self, passI] at hpi
                have h3 := HK.out.2.1
                rw [← hpi] at h3
                have h3' : roundN p.code k0 (x - (k + 1)) t' = r := h3
                have HQ := Lib.hid (And.intro hT (And.intro htl2 (And.intro h3' hB)))
                clear hT htl2 hpi h3 h3' hB hgk
                --[[r12
                go_wp2_with fail
                go_roundg (x - (k + 1))
                case measure => have := HK.out.1; omega
                case rel => exact ⟨k + 1, t', by simp, by omega, rfl, HQ.out.1, HQ.out.2.1, HQ.out.2.2.1, HQ.out.2.2.2⟩
                --]]r12
            --]]r4
          · obtain rfl : k = j := by omega
            have hkk' : ¬ (k : Int) < k := by omega
            rw [Nat.sub_self, roundN] at hrn
            subst hrn
            have HQ := Lib.hid hB
            clear hT htl2 hB hgk
            --[[r13
            go_wp2_with fail
            go_ret
            exact ⟨rfl, H1.out.1.trans (HQ.out.mono H1.out.1.size)⟩
            --]]r13
        --]]r3
    --]]r1
end Go.Proofs.YtielnengimninaaGreatDoor
