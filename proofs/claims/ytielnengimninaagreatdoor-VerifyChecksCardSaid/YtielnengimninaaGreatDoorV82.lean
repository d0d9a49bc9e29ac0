/- the document's ways (foliotref13.Paths), walked. -/
import Derived.Test.YtielnengimninaaGreatDoorV81
namespace Go.Proofs.YtielnengimninaaGreatDoor
open Go.RowKit Go.Own Go.Own.MapTy Go.Va Go.Sort
open Go.Own.Cells (sz enc)
def pthR (code : List In) (k j : Nat) : List Nat := (List.range j).map (pathF code k)
theorem pthR_len (code : List In) (k j : Nat) : (pthR code k j).length = j := by unfold pthR; simp
theorem pthR_succ (code : List In) (k j : Nat) : pthR code k j ++ [pathF code k j] = pthR code k (j + 1) := range_succ_map _ _
theorem pthR_zero (code : List In) (j : Nat) : pthR code 0 j = List.replicate j 1 := by
  unfold pthR
  apply List.ext_getElem?
  intro x
  rw [List.getElem?_map, List.getElem?_replicate]
  by_cases h : x < j
  · rw [List.getElem?_range h, if_pos h]; rfl
  · rw [List.getElem?_eq_none (by simp; omega), if_neg h]; rfl
theorem pthR_at {code : List In} {k j x : Nat} (h : x < j) : (pthR code k j)[x]? = some (pathF code k x) := by
  unfold pthR
  rw [List.getElem?_map, List.getElem?_range h]
  rfl
def pthG (code : List In) (k : Nat) (n x : Nat) : Nat := if x < code.length ∧ n < pathF code k x + 1 then pathF code k x + 1 else n
theorem pathF_succ (code : List In) (f k : Nat) : pathF code (f + 1) k = bif restsAt code k then 1 else (followAt code k).foldl (pthG code f) 1 := by rw [pathF]; rfl
theorem pthG_bd (code : List In) (k n x : Nat) (h : n ≤ k + 2) : pthG code k n x ≤ k + 2 := by
  unfold pthG
  split
  · have := (pathF_bd code k x).2; omega
  · exact h
set_option maxRecDepth 100000 in
set_option maxHeartbeats 8000000 in
theorem rpaths_any (F : Nat → Prop) (w : World) (i : IC) (p : Img) (H : IAt F w i p) (hi0 : imgL p = 0) (m : Nat) (hm : m ≤ 600) :
    Calls Tryz.prog 19 #[.agg #[.slice i.ca i.cn i.cc, .slice i.ka i.kn i.kc, .slice i.na i.nn i.nc, .int .i64 i.pl], .int .i64 m] w fun e w' => ∃ v, e = .returned v ∧ Hid (RowAt w' 3 v (pthR p.code m p.code.length) ∧ Below w.heap.size w w') := by
  have OK := codeOk_of hi0
  have hop := code_all hi0
  have h0 := (imgL_ok hi0).1
  have h512 := OK.len
  have l1 := H.lens.1
  have HI := Lib.hid (And.intro H (And.intro OK (And.intro hop l1)))
  obtain ⟨ca, cn, cc, ka, kn, kc, na, nn, nc, pl⟩ := i
  dsimp only at l1
  rw [← l1] at h0 h512
  have HL := Lib.hid (And.intro l1 (And.intro h0 (And.intro h512 hm)))
  clear H OK hop hi0 l1 h0 hm
  dsimp only
  go_enter Tryz.func19, Tryz.ntmps19
  go_wp2_with fail
  obtain ⟨w0, hw0⟩ : ∃ w0, w0 = w.alloc (.cells #[.slice ca cn cc, .slice ka kn kc, .slice na nn nc, .int .i64 pl] 26) := ⟨_, rfl⟩
  have B0 : Below w.heap.size w w0 := by rw [hw0]; exact (Below.refl _ _).alloc (Nat.le_refl _) _
  have X0 : BoxI w0 w.heap.size ⟨ca, cn, cc, ka, kn, kc, na, nn, nc, pl⟩ := by rw [hw0]; exact heap_alloc_new _ _
  rw [← hw0]
  have H1 := Lib.hid (And.intro B0 X0)
  have k1 := X0.c0
  have lx := X0.lt
  dsimp only at k1
  clear hw0 B0 X0
  go_loopg [5, 6] cn (fun gk v5 v6 wr => ∃ j : Nat, v6 = .int .i64 j ∧ j ≤ cn ∧ gk = cn - j ∧ RowAt wr 3 v5 (List.replicate j (1 : Nat)) ∧ (∀ g, v5.ownBlock = some g → w0.heap.size ≤ g) ∧ Below w0.heap.size w0 wr)
  case atStart => exact ⟨0, rfl, Nat.zero_le _, rfl, RowAt.nil _ _, (fun g h => by cases h), Below.refl _ _⟩
  case round =>
    obtain ⟨j, rfl, hj, hgk, hR, hO, hB⟩ := hrel
    have k2 := (hB.cell (p := ⟨w.heap.size, 0, none⟩) lx).trans k1
    have ly : w.heap.size < wr.heap.size := Nat.lt_of_lt_of_le lx hB.size
    obtain ⟨ha, hc, he⟩ := hR.slice
    rw [List.length_replicate] at he
    subst he
    have HX := Lib.hid (And.intro hgk (And.intro hR (And.intro hO hB)))
    clear hgk hR hO hB
    by_cases hjn : j < cn
    · have hjn' : (j : Int) < cn := by omega
      --[[r2
      go_wp2_with (at_builtin; go_must (refine wp_appW (α := Nat) elemN rfl (.tmp 20) (.tmp 21) rfl (HX.out.2.1.alloc _) 1 rfl rfl (heap_alloc_new _ _) (by simp; omega) (by simp; unfold maxLen; omega) ?_); intro a1 q1 w2 hr1 hk1 hf1; rw [List.length_replicate] at hr1; simp only [List.length_replicate] at hf1; have HF := Lib.hid (And.intro hr1 (And.intro hk1 hf1)); clear hr1 hk1 hf1)
      go_roundg (cn - (j + 1))
      case measure => have := HX.out.1; omega
      case rel =>
        have hb := HX.out.2.2.2
        refine ⟨j + 1, by simp, by omega, rfl, by have := HF.out.1; rwa [show List.replicate j (1 : Nat) ++ [1] = List.replicate (j + 1) 1 from (List.replicate_succ' ..).symm] at this, fun g hg => ?_, ?_⟩
        · rcases HF.out.2.2 g hg with h | h
          · exact HX.out.2.2.1 g h
          · have := hb.size; simp at h; omega
        · exact hb.trans (((Below.refl _ _).alloc hb.size _).trans (HF.out.2.1.below (by have := hb.size; simp; omega) (fun j hj e => by have := HX.out.2.2.1 j e; omega)))
      --]]r2
    · obtain rfl : j = cn := by omega
      have hjj : ¬ (j : Int) < j := by omega
      have HT := Lib.hid (And.intro HX.out.2.1 (And.intro HX.out.2.2.1 HX.out.2.2.2))
      clear HX
      --[[r3
      go_wp2_with fail
      go_loopg [5, 7] m (fun gk v5 v7 wz => ∃ k : Nat, v7 = .int .i64 k ∧ k ≤ m ∧ gk = m - k ∧ RowAt wz 3 v5 (pthR p.code k j) ∧ (∀ g, v5.ownBlock = some g → w0.heap.size ≤ g) ∧ Below w0.heap.size w0 wz)
      case atStart => exact ⟨0, rfl, Nat.zero_le _, rfl, by rw [pthR_zero]; exact HT.out.1, HT.out.2.1, HT.out.2.2⟩
      case round =>
        obtain ⟨k, rfl, hkj, hgk, hT, hO, hB⟩ := hrel
        have k3 := (hB.cell (p := ⟨w.heap.size, 0, none⟩) lx).trans k1
        have lz : w.heap.size < wr.heap.size := Nat.lt_of_lt_of_le lx hB.size
        have hm6 := HL.out.2.2.2
        clear hm6
        by_cases hkk : k < m
        · have hkk' : (k : Int) < m := by omega
          obtain ⟨wq, hwq⟩ : ∃ wq, wq = wr := ⟨_, rfl⟩
          rw [← hwq] at hT hB k3 lz ⊢
          clear hwq
          have h0j := HL.out.2.1
          obtain ⟨la, lc, hv⟩ := hT.slice
          rw [pthR_len] at hv
          subst hv
          obtain ⟨lb, lo, rfl, lbl⟩ := hT.addr (pthR_at (code := p.code) (k := k) h0j)
          have HK := Lib.hid (And.intro hgk (And.intro hT (And.intro hO (And.intro hB lbl))))
          clear hgk hT hO hB h0j lbl
          --[[r4
          go_wp2_with fail
          go_loopg [8, 9] j (fun gk v8 v9 wy => ∃ x : Nat, v9 = .int .i64 x ∧ x ≤ j ∧ gk = j - x ∧ RowAt wy 3 v8 (pthR p.code (k + 1) x) ∧ (∀ g, v8.ownBlock = some g → wq.heap.size ≤ g) ∧ Below wq.heap.size wq wy)
          case atStart => exact ⟨0, rfl, Nat.zero_le _, rfl, RowAt.nil _ _, (fun g h => by cases h), Below.refl _ _⟩
          case round =>
            obtain ⟨x, rfl, hxj, hgk, hT, hO, hB⟩ := hrel
            have k4 := (hB.cell (p := ⟨w.heap.size, 0, none⟩) lz).trans k3
            have lu : w.heap.size < wr.heap.size := Nat.lt_of_lt_of_le lz hB.size
            obtain ⟨na', nc', he⟩ := hT.slice
            rw [pthR_len] at he
            subst he
            by_cases hxx : x < j
            · have hxx' : (x : Int) < j := by omega
              obtain ⟨c, hcx⟩ := elem_at (l := p.code) (k := x) (by have := HL.out.1; omega)
              have BW := H1.out.1.trans ((HK.out.2.2.2.1.trans (hB.mono HK.out.2.2.2.1.size)).mono H1.out.1.size)
              obtain ⟨g', off', e', _, hgw, hgr, m0, m1⟩ := HI.out.1.code_at BW hcx
              dsimp only at e'
              subst e'
              have okc := HI.out.2.2.1 c (List.mem_of_getElem? hcx)
              have a0 := HI.out.2.1.a0 c (List.mem_of_getElem? hcx)
              have NX := Lib.hid (fun W' (B' : Below w.heap.size w W') => rnext_any (HI.out.1.below B') x c hcx okc a0 (by omega))
              have hpf := pathF_succ p.code k x
              have hra : restsAt p.code x = restsL c := by unfold restsAt; rw [hcx]
              have hfa : followAt p.code x = followN c x := by unfold followAt; rw [hcx]
              rw [hra, hfa] at hpf
              have hfl := followN_len c x
              obtain ⟨op2, a2⟩ := c
              dsimp only at m0 m1
              have RE := Lib.hid (rrests_any op2 a2 okc)
              generalize restsL ⟨op2, a2⟩ = rs at *
              generalize followN ⟨op2, a2⟩ x = fl at *
              have HY := Lib.hid (And.intro hgk (And.intro hT (And.intro hO (And.intro hB (And.intro hfl (And.intro BW hpf))))))
              clear hgk hT hO hB hfl BW hpf hcx okc a0 hra hfa
              --[[r5
              go_wp2_with fail
              refine (RE.out _).mono ?_
              rintro e w5 ⟨rfl, hB5⟩
              have k5 := (hB5.cell (p := ⟨w.heap.size, 0, none⟩) lu).trans k4
              have lv : w.heap.size < w5.heap.size := Nat.lt_of_lt_of_le lu hB5.size
              have H5 := Lib.hid (And.intro hB5 (And.intro (HY.out.2.1.below hB5) (HY.out.2.2.2.1.trans (hB5.mono HY.out.2.2.2.1.size))))
              clear hB5 RE m0 m1 hgr hgw
              cases rs with
              | true =>
                have hpf := HY.out.2.2.2.2.2.2
                simp only [cond_true] at hpf
                have HP := Lib.hid hpf
                clear hpf
                --[[r6
                go_wp2_with (at_builtin; go_must (refine wp_appW (α := Nat) elemN rfl (.tmp 79) (.tmp 81) rfl (H5.out.2.1.alloc _) 1 rfl rfl (heap_alloc_new _ _) (by rw [pthR_len]; omega) (by rw [pthR_len]; unfold maxLen; omega) ?_); intro a1 q1 w2 hr1 hk1 hf1; rw [pthR_len, show pthR p.code (k + 1) x ++ [1] = pthR p.code (k + 1) (x + 1) from (by rw [← pthR_succ, HP.out])] at hr1; rw [pthR_len] at hf1 ⊢; have HF := Lib.hid (And.intro hr1 (And.intro hk1 hf1)); clear hr1 hk1 hf1)
                go_roundg (j - (x + 1))
                case measure => have := HY.out.1; omega
                case rel =>
                  have hb := H5.out.2.2
                  refine ⟨x + 1, by simp, by omega, rfl, HF.out.1, fun g hg => ?_, ?_⟩
                  · rcases HF.out.2.2 g hg with h | h
                    · exact HY.out.2.2.1 g h
                    · have := hb.size; simp at h; omega
                  · exact hb.trans (((Below.refl _ _).alloc hb.size _).trans (HF.out.2.1.below (by have := hb.size; simp; omega) (fun j hj e => by have := HY.out.2.2.1 j e; omega)))
                --]]r6
              | false =>
                have hpf := HY.out.2.2.2.2.2.2
                simp only [cond_false] at hpf
                have B5 := HK.out.2.2.2.1.trans (H5.out.2.2.mono HK.out.2.2.2.1.size)
                have XB := H1.out.2.below B5
                have x1 := XB.c1
                have x2 := XB.c2
                have x3 := XB.c3
                dsimp only at x1 x2 x3
                have NN := Lib.hid (NX.out w5 (H1.out.1.trans (B5.mono H1.out.1.size)))
                have HP := Lib.hid (And.intro hpf B5)
                clear hpf B5 XB NX
                --[[r7
                go_wp2_with fail
                refine NN.out.mono ?_
                rintro e w6 ⟨fv, rfl, hfr, hff, hB6⟩
                obtain ⟨fa, fc, rfl⟩ := hfr.slice
                have HF := Lib.hid (And.intro hfr (And.intro (H5.out.2.1.below hB6) (And.intro (H5.out.2.2.trans (hB6.mono H5.out.2.2.size)) (HK.out.2.1.below (H5.out.2.2.trans (hB6.mono H5.out.2.2.size))))))
                have k6 := (hB6.cell (p := ⟨w.heap.size, 0, none⟩) lv).trans k5
                have ls : w.heap.size < w6.heap.size := Nat.lt_of_lt_of_le lv hB6.size
                clear hfr hff hB6 NN x1 x2 x3
                go_wp2_with fail
                go_loopg [12, 10] (fl.length) (fun gk v12 v10 wx => ∃ y a : Nat, v12 = .int .i64 y ∧ v10 = .int .i64 a ∧ y ≤ fl.length ∧ gk = fl.length - y ∧ a ≤ k + 2 ∧ (fl.drop y).foldl (pthG p.code k) a = pathF p.code (k + 1) x ∧ Below w6.heap.size w6 wx)
                case atStart => exact ⟨0, 1, rfl, rfl, Nat.zero_le _, rfl, by omega, by rw [List.drop_zero]; exact HP.out.1.symm, Below.refl _ _⟩
                case round =>
                  obtain ⟨y, a, rfl, rfl, hyl, hgk, ha2, hfo, hB⟩ := hrel
                  have hfl2 := HY.out.2.2.2.2.1
                  have k7 := (hB.cell (p := ⟨w.heap.size, 0, none⟩) ls).trans k6
                  have lt7 : w.heap.size < wr.heap.size := Nat.lt_of_lt_of_le ls hB.size
                  clear hfl2
                  by_cases hyy : y < fl.length
                  · have hyy' : (y : Int) < fl.length := by omega
                    obtain ⟨z, hz⟩ := elem_at hyy
                    have hdr : fl.drop y = z :: fl.drop (y + 1) := by
                      rw [List.drop_eq_getElem_cons (List.getElem?_eq_some_iff.1 hz).1, (List.getElem?_eq_some_iff.1 hz).2]
                    rw [hdr, List.foldl_cons] at hfo
                    have hfr := HF.out.1.below hB
                    obtain ⟨fg, foff, rfl, hfg⟩ := hfr.addr hz
                    have z0 := row_nat hfr hz
                    have hgb := pthG_bd p.code k a z ha2
                    by_cases hzn : z < j
                    · have hzn' : (z : Int) < j := by omega
                      have LR := HF.out.2.2.2.below hB
                      have lr0 := row_nat LR (pthR_at (code := p.code) (k := k) hzn)
                      have lbw : lb < wr.heap.size := LR.lt rfl
                      have hpb := (pathF_bd p.code k z).2
                      have hm6 := HL.out.2.2.2
                      have hge : pthG p.code k a z = if a < pathF p.code k z + 1 then pathF p.code k z + 1 else a := by
                        unfold pthG
                        have : z < p.code.length := by have := HL.out.1; omega
                        by_cases h : a < pathF p.code k z + 1
                        · rw [if_pos ⟨this, h⟩, if_pos h]
                        · rw [if_neg (fun h2 => h h2.2), if_neg h]
                      rw [hge] at hfo hgb
                      obtain ⟨pf, hpfe⟩ : ∃ pf, pathF p.code k z = pf := ⟨_, rfl⟩
                      rw [hpfe] at hfo hgb lr0 hpb
                      have hy1 : y + 1 ≤ fl.length := by omega
                      have HYW := Lib.hid (show wrap64 ((y : Int) + 1) = (y : Int) + 1 from by have := HY.out.2.2.2.2.1; unfold wrap64; omega)
                      have HMS := Lib.hid (show fl.length - (y + 1) < fl.length - y from by omega)
                      have HPW := Lib.hid (show IntKind.i64.wrap ((pf : Int) + 1) = (pf : Int) + 1 from IntWalk.i64_in _ (by omega))
                      have HPV := Lib.hid (show wrap64 ((pf : Int) + 1) = (pf : Int) + 1 from by unfold wrap64; omega)
                      have HQ := Lib.hid (And.intro hgk (And.intro hfo (And.intro hB hgb)))
                      clear hgk hfo hB hgb hge hpfe hfr LR hdr hz hpb hm6
                      by_cases hap : a < pf + 1
                      · have hap' : (a : Int) < (pf : Int) + 1 := by omega
                        --[[r8
                        have hpwk := HPW.out
                        have hpw := HPV.out
                        go_wp2_with fail
                        go_region
                        go_wp2_with fail
                        go_roundg (fl.length - (y + 1))
                        case measure => rw [HQ.out.1]; exact HMS.out
                        case rel => exact ⟨y + 1, pf + 1, by simp [HYW.out], by simp, hy1, rfl, by have := HQ.out.2.2.2; rw [if_pos hap] at this; exact this, by have := HQ.out.2.1; rw [if_pos hap] at this; exact this, HQ.out.2.2.1.drew⟩
                        --]]r8
                      · have hap' : (pf : Int) + 1 ≤ (a : Int) := by omega
                        have hd1 : decide ((a : Int) < (pf : Int) + 1) = false := decide_eq_false (by omega)
                        have hd2 : decide ((pf : Int) + 1 ≤ (a : Int)) = true := decide_eq_true hap'
                        have hap2 : ¬ (a : Int) < (pf : Int) + 1 := by omega
                        --[[r9
                        have hpwk := HPW.out
                        have hpw := HPV.out
                        go_wp2_with fail
                        go_region
                        go_wp2_with fail
                        go_roundg (fl.length - (y + 1))
                        case measure => rw [HQ.out.1]; exact HMS.out
                        case rel => exact ⟨y + 1, a, by simp [HYW.out], by simp, hy1, rfl, ha2, by have := HQ.out.2.1; rw [if_neg hap] at this; exact this, HQ.out.2.2.1.drew⟩
                        --]]r9
                    · have hzn' : ¬ (z : Int) < j := by omega
                      have hge : pthG p.code k a z = a := by
                        unfold pthG
                        have : ¬ z < p.code.length := by have := HL.out.1; omega
                        rw [if_neg (fun h2 => this h2.1)]
                      rw [hge] at hfo
                      have HQ := Lib.hid (And.intro hgk (And.intro hfo hB))
                      clear hgk hfo hB hge hfr hdr hz hgb
                      --[[r10
                      go_wp2_with fail
                      go_region
                      go_wp2_with fail
                      go_roundg (fl.length - (y + 1))
                      case measure => have := HQ.out.1; omega
                      case rel => exact ⟨y + 1, a, by have := HY.out.2.2.2.2.1; simp; unfold wrap64; omega, by simp, by omega, rfl, ha2, HQ.out.2.1, HQ.out.2.2.drew⟩
                      --]]r10
                  · obtain rfl : y = fl.length := by omega
                    have hyy' : ¬ (fl.length : Int) < fl.length := by omega
                    rw [List.drop_eq_nil_of_le (Nat.le_refl _), List.foldl_nil] at hfo
                    have HQ := Lib.hid (And.intro hfo (And.intro hB (And.intro (HF.out.2.1.below hB) (HF.out.2.2.1.trans (hB.mono HF.out.2.2.1.size)))))
                    clear hfo hB hgk
                    --[[r11
                    go_wp2_with (at_builtin; go_must (refine wp_appW (α := Nat) elemN rfl (.tmp 79) (.tmp 81) rfl (HQ.out.2.2.1.alloc _) a rfl rfl (heap_alloc_new _ _) (by rw [pthR_len]; omega) (by rw [pthR_len]; unfold maxLen; omega) ?_); intro a1 q1 w2 hr1 hk1 hf1; rw [pthR_len, show pthR p.code (k + 1) x ++ [a] = pthR p.code (k + 1) (x + 1) from (by rw [← pthR_succ, HQ.out.1])] at hr1; rw [pthR_len] at hf1 ⊢; have HG := Lib.hid (And.intro hr1 (And.intro hk1 hf1)); clear hr1 hk1 hf1)
                    go_roundg (j - (x + 1))
                    case measure => have := HY.out.1; omega
                    case rel =>
                      have hb := HQ.out.2.2.2
                      refine ⟨x + 1, by simp, by omega, rfl, HG.out.1, fun g hg => ?_, ?_⟩
                      · rcases HG.out.2.2 g hg with h | h
                        · exact HY.out.2.2.1 g h
                        · have := hb.size; simp at h; omega
                      · exact hb.trans (((Below.refl _ _).alloc hb.size _).trans (HG.out.2.1.below (by have := hb.size; simp; omega) (fun j hj e => by have := HY.out.2.2.1 j e; omega)))
                    --]]r11
                --]]r7
              --]]r5
            · obtain rfl : x = j := by omega
              have hxx' : ¬ (x : Int) < x := by omega
              have HQ := Lib.hid (And.intro hT (And.intro hO hB))
              clear hT hO hB hgk
              --[[r12
              go_wp2_with fail
              go_roundg (m - (k + 1))
              case measure => have := HK.out.1; omega
              case rel => exact ⟨k + 1, by have := HL.out.2.2.2; simp; unfold wrap64; omega, by omega, rfl, HQ.out.1, fun g hg => by have := HQ.out.2.1 g hg; have := HK.out.2.2.2.1.size; omega, HK.out.2.2.2.1.trans (HQ.out.2.2.mono HK.out.2.2.2.1.size)⟩
              --]]r12
          --]]r4
        · obtain rfl : k = m := by omega
          have hkk' : ¬ (k : Int) < k := by omega
          have HQ := Lib.hid (And.intro hT hB)
          clear hT hB hO hgk
          --[[r13
          go_wp2_with fail
          go_ret
          exact ⟨_, rfl, Lib.hid ⟨by rw [← HL.out.1]; exact HQ.out.1, H1.out.1.trans (HQ.out.2.mono H1.out.1.size)⟩⟩
          --]]r13
      --]]r3
end Go.Proofs.YtielnengimninaaGreatDoor
