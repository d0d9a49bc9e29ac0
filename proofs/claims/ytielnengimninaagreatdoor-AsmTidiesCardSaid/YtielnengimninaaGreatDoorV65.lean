/- AsmTidies, walked. -/
import Derived.Test.YtielnengimninaaGreatDoorV46
import Derived.Test.YtielnengimninaaGreatDoorV62
import Derived.Test.YtielnengimninaaGreatDoorV63
import Derived.Test.YtielnengimninaaGreatDoorV64
namespace Go.Proofs.YtielnengimninaaGreatDoor
open Go.RowKit Go.Own Go.Own.MapTy Go.Va Go.Sort
open Go.Own.Cells (sz enc)
theorem good_ok {p : Img} (h : goodL p = true) : imgL p = 0 ∧ (fitW.fitX 0 p.consts 100).1 = true := by
  unfold goodL at h
  cases h1 : (decide (60 < p.code.length) || (decide (20 < p.consts.length) || decide (20 < p.names.length))) with
  | true => rw [h1] at h; cases h
  | false =>
    rw [h1, cond_false, Bool.and_eq_true, Bool.and_eq_true] at h
    exact ⟨by simpa using h.2.2, h.1⟩
abbrev ICargs (i : IC) : Array Value := #[.agg #[.slice i.ca i.cn i.cc, .slice i.ka i.kn i.kc, .slice i.na i.nn i.nc, .int .i64 i.pl]]
--[[goodw
set_option maxRecDepth 100000 in
set_option maxHeartbeats 8000000 in
theorem tidies_walk {N : Nat} (i : IC) (p : Img) (W : World) (G : Gl Tryz.prog N W) (H : IAt (fun j => j < W.heap.size) W i p) (hb : Val.all.allL B64 p.consts) :
    Calls Tryz.prog 9 #[.agg #[.slice i.ca i.cn i.cc, .slice i.ka i.kn i.kc, .slice i.na i.nn i.nc, .int .i64 i.pl]] W fun en w' => en = .returned (.bool true) ∧ Below W.heap.size W w' := by
  have HG := Lib.hid G
  have HI := Lib.hid (And.intro H hb)
  have GA := Lib.hid (fun W' (K : Below W.heap.size W W') => good_any _ W' i p (H.below K) hb _ rfl)
  have TA := Lib.hid (fun W' (K : Below W.heap.size W W') (hw : ∀ x ∈ p.consts, x.wf) => tidy_any _ W' i p (H.below K) hw _ rfl)
  have hGO := @good_ok p
  obtain ⟨gd, hgd⟩ : ∃ gd, goodL p = gd := ⟨_, rfl⟩
  rw [hgd] at GA hGO
  have HGO := Lib.hid hGO
  obtain ⟨l1, l2, l3⟩ := H.lens
  have l4 := H.pl
  obtain ⟨ca, cn, cc, ka, kn, kc, na, nn, nc, pl⟩ := i
  dsimp only at l1 l2 l3 l4 GA TA HI ⊢
  have HL := Lib.hid (And.intro l1 (And.intro l2 (And.intro l3 l4)))
  clear G H hb hgd hGO l1 l2 l3 l4
  go_enter Tryz.func9, Tryz.ntmps9
  go_wp2_with fail
  obtain ⟨w0, hw0⟩ : ∃ w0, w0 = W.alloc (.cells #[.slice ca cn cc, .slice ka kn kc, .slice na nn nc, .int .i64 pl] 26) := ⟨_, rfl⟩
  have B0 : Below W.heap.size W w0 := by rw [hw0]; exact (Below.refl _ _).alloc (Nat.le_refl _) _
  have X0 : BoxI w0 W.heap.size ⟨ca, cn, cc, ka, kn, kc, na, nn, nc, pl⟩ := by rw [hw0]; exact boxI_new W ⟨ca, cn, cc, ka, kn, kc, na, nn, nc, pl⟩
  rw [← hw0]
  clear hw0
  refine (reads_true _ (HG.out.below B0)).mono ?_
  rintro en w1 ⟨rfl, hB1⟩
  have X1 := X0.below hB1
  have B1 := B0.trans (hB1.mono B0.size)
  have k0 := X1.c0
  have k1 := X1.c1
  have k2 := X1.c2
  have k3 := X1.c3
  have lx := X1.lt
  dsimp only at k0 k1 k2 k3
  have H1 := Lib.hid (And.intro B1 X1)
  clear B0 X0 B1 X1 hB1
  go_wp2_with fail
  refine (GA.out _ H1.out.1).mono ?_
  rintro en w2 ⟨rfl, hB2⟩
  have X2 := H1.out.2.below hB2
  have k0 := X2.c0
  have k1 := X2.c1
  have k2 := X2.c2
  have k3 := X2.c3
  have lx := X2.lt
  dsimp only at k0 k1 k2 k3
  have H2 := Lib.hid (And.intro (H1.out.1.trans (hB2.mono H1.out.1.size)) X2)
  clear X2 hB2 H1 GA
  cases gd with
  | true =>
    obtain ⟨hi, hf⟩ := HGO.out rfl
    have hwf := fits_wf hf HI.out.2
    obtain ⟨q, h1, h2, h3, h4, h5⟩ := tidy_laws hi
    have T1 := TA.out _ H2.out.1 hwf
    rw [h1] at T1
    have HT1 := Lib.hid T1
    have hqw : ∀ x ∈ q.consts, x.wf := by
      intro x hx
      have e : q = (tidyP p).1 := by rw [h1]
      have e2 : q = imgOf (putsI (meanP p) st0) := by rw [e, tidyP_puts hi]
      rw [e2] at hx
      rcases (puts_mem (meanP p) st0).1 x hx with hx | ⟨op, hx⟩
      · simp [st0] at hx
      · obtain ⟨c, hcc, e⟩ := List.mem_map.1 hx
        by_cases k1 : (ofL c.op).1.operand = 1
        · rw [argOf_1 k1] at e
          cases e
          obtain ⟨y, hy⟩ := (at_ok hi hcc).2.2.1 k1
          rw [hy]
          exact clone_wf y (hwf y (mem_of_get hy))
        · by_cases k2 : (ofL c.op).1.operand = 2
          · rw [argOf_2 k2] at e; cases e
          · by_cases k3 : (ofL c.op).1.operand = 3
            · rw [argOf_3 k3] at e; cases e
            · rw [argOf_4 k1 k2 k3] at e; cases e
    have HQ := Lib.hid (And.intro hi (And.intro hwf (And.intro h2 (And.intro h3 (And.intro h4 (And.intro h5 hqw))))))
    clear hi hf hwf h1 h2 h3 h4 h5 T1 hqw TA
    --[[g1
    go_wp2_with fail
    refine HT1.out.mono ?_
    rintro en w3 ⟨⟨da, dn, dc, ea, en, ec, fa, fn, fc, pm⟩, rfl, H3⟩
    dsimp only [IC.cells]
    have X3 := H2.out.2.below H3.out.2
    have hA3 := H3.out.1
    obtain ⟨w4, hw4⟩ : ∃ w4, w4 = w3.alloc (.cells #[.slice da dn dc, .slice ea en ec, .slice fa fn fc, .int .i64 pm] 26) := ⟨_, rfl⟩
    have B4 : Below w3.heap.size w3 w4 := by rw [hw4]; exact (Below.refl _ _).alloc (Nat.le_refl _) _
    have Y4 : BoxI w4 w3.heap.size ⟨da, dn, dc, ea, en, ec, fa, fn, fc, pm⟩ := by rw [hw4]; exact boxI_new w3 ⟨da, dn, dc, ea, en, ec, fa, fn, fc, pm⟩
    have X4 := X3.below B4
    have B24 := H3.out.2.trans (B4.mono H3.out.2.size)
    have T2 := tidy_any _ w4 _ q (hA3.below B4) HQ.out.2.2.2.2.2.2 _ HQ.out.2.2.1
    dsimp only at T2
    have HT2 := Lib.hid T2
    have y0 := Y4.c0
    have y1 := Y4.c1
    have y2 := Y4.c2
    have y3 := Y4.c3
    have ly := Y4.lt
    dsimp only at y0 y1 y2 y3
    have H4 := Lib.hid (And.intro (H2.out.1.trans (B24.mono H2.out.1.size)) (And.intro X4 (And.intro Y4 (hA3.below B4))))
    clear X3 hA3 B4 Y4 X4 B24 T2 H3 HT1
    go_wp2_with fail
    rw [← hw4]
    clear hw4
    refine HT2.out.mono ?_
    rintro en w5 ⟨⟨ga, gn, gc, ha, hn, hc, ia, in_, ic, po⟩, rfl, H5⟩
    dsimp only [IC.cells]
    obtain ⟨w6, hw6⟩ : ∃ w6, w6 = w5.alloc (.cells #[.slice ga gn gc, .slice ha hn hc, .slice ia in_ ic, .int .i64 po] 26) := ⟨_, rfl⟩
    have B6 : Below w5.heap.size w5 w6 := by rw [hw6]; exact (Below.refl _ _).alloc (Nat.le_refl _) _
    have Z6 : BoxI w6 w5.heap.size ⟨ga, gn, gc, ha, hn, hc, ia, in_, ic, po⟩ := by rw [hw6]; exact boxI_new w5 ⟨ga, gn, gc, ha, hn, hc, ia, in_, ic, po⟩
    have B46 := H5.out.2.trans (B6.mono H5.out.2.size)
    have X6 := H4.out.2.1.below B46
    have Y6 := H4.out.2.2.1.below B46
    have k0 := X6.c0
    have k1 := X6.c1
    have k2 := X6.c2
    have k3 := X6.c3
    have lx := X6.lt
    have y0 := Y6.c0
    have y1 := Y6.c1
    have y2 := Y6.c2
    have y3 := Y6.c3
    have ly := Y6.lt
    have z0 := Z6.c0
    have z1 := Z6.c1
    have z2 := Z6.c2
    have z3 := Z6.c3
    have lz := Z6.lt
    dsimp only at k0 k1 k2 k3 y0 y1 y2 y3 z0 z1 z2 z3
    have BW6 := H4.out.1.trans (B46.mono H4.out.1.size)
    have SA := Lib.hid (fun W' (K : Below w6.heap.size w6 W') => rsame_walk _ _ W' ⟨ca, cn, cc, ka, kn, kc, na, nn, nc, pl⟩ ⟨da, dn, dc, ea, en, ec, fa, fn, fc, pm⟩ p q (HI.out.1.below (BW6.trans (K.mono BW6.size))) (H4.out.2.2.2.below (B46.trans (K.mono B46.size))) HQ.out.1 HQ.out.2.2.2.1 HQ.out.2.1 HQ.out.2.2.2.2.2.2 HQ.out.2.2.2.2.1)
    have DA := Lib.hid (fun W' (K : Below w6.heap.size w6 W') => rtidy_walk _ W' ⟨da, dn, dc, ea, en, ec, fa, fn, fc, pm⟩ q (H4.out.2.2.2.below (B46.trans (K.mono B46.size))) HQ.out.2.2.2.1 HQ.out.2.2.2.2.2.2 HQ.out.2.2.2.2.2.1)
    have EA := Lib.hid (fun W' (K : Below w6.heap.size w6 W') => rimg_any _ W' ⟨da, dn, dc, ea, en, ec, fa, fn, fc, pm⟩ q (H4.out.2.2.2.below (B46.trans (K.mono B46.size))) _ HQ.out.2.2.2.2.2.2 HQ.out.2.2.2.1)
    have FA := Lib.hid (fun W' (K : Below w6.heap.size w6 W') (args : Array Value) (h : args = ICargs ⟨ga, gn, gc, ha, hn, hc, ia, in_, ic, po⟩ ∨ args = ICargs ⟨da, dn, dc, ea, en, ec, fa, fn, fc, pm⟩) =>
      (show Calls Tryz.prog 31 args W' (fun e w' => e = .returned (.string (imgS q)) ∧ Below W'.heap.size W' w') from by
        rcases h with rfl | rfl
        · exact rimgbytes_any _ W' ⟨ga, gn, gc, ha, hn, hc, ia, in_, ic, po⟩ q (H5.out.1.below (B6.trans (K.mono B6.size))) HQ.out.2.2.2.1 HQ.out.2.2.2.2.2.2
        · exact rimgbytes_any _ W' ⟨da, dn, dc, ea, en, ec, fa, fn, fc, pm⟩ q (H4.out.2.2.2.below (B46.trans (K.mono B46.size))) HQ.out.2.2.2.1 HQ.out.2.2.2.2.2.2))
    generalize imgS q = sq at *
    dsimp only at SA DA EA
    have HB6 := Lib.hid BW6
    clear B6 Z6 B46 X6 Y6 BW6 HT2
    --[[g2
    go_wp2_with fail
    rw [← hw6]
    clear hw6
    refine wp_region_ext (by kernel_rfl) (by kernel_rfl) ?_
    repeat (go_big_quiet_step (first | (go_at_call 27; exact ext_call (SA.out _ (Subtype.property _))) | (go_at_call 28; exact ext_call (DA.out _ (Subtype.property _))) | (go_at_call 16; exact ext_call (EA.out _ (Subtype.property _))) | (go_at_call 31; exact ext_call (FA.out _ (Subtype.property _) _ (by first | exact .inl rfl | exact .inr rfl)))))
    refine wpQuiet_nil ?_
    intro w7 hB7
    have H7 := Lib.hid (HB6.out.trans (hB7.mono HB6.out.size))
    clear hB7
    go_wp2_with fail
    go_ret
    exact ⟨by simp, H7.out⟩
    --]]g2
    --]]g1
  | false =>
    --[[b0
    by_cases c1 : 60 < cn
    · have e1 : (60 : Int) < cn := by omega
      go_wp2_with fail
      go_ret
      exact ⟨rfl, H2.out.1⟩
    · have e1 : ¬ (60 : Int) < cn := by omega
      by_cases c2 : 20 < kn
      · have e2 : (20 : Int) < kn := by omega
        go_wp2_with fail
        go_ret
        exact ⟨rfl, H2.out.1⟩
      · have e2 : ¬ (20 : Int) < kn := by omega
        by_cases c3 : 20 < nn
        · have e3 : (20 : Int) < nn := by omega
          go_wp2_with fail
          go_ret
          exact ⟨rfl, H2.out.1⟩
        · have e3 : ¬ (20 : Int) < nn := by omega
          --[[b1
          have hkn : kn ≤ 20 := by omega
          clear c1 c2 c3
          have d1 : decide ((60 : Int) < cn) = false := decide_eq_false e1
          have d2 : decide ((20 : Int) < kn) = false := decide_eq_false e2
          have d3 : decide ((20 : Int) < nn) = false := decide_eq_false e3
          go_wp2_with fail
          clear e1 e2 e3 d1 d2 d3
          obtain ⟨w3, hw3⟩ : ∃ w3, w3 = w2.alloc (.cells #[.int .i64 200] 3) := ⟨_, rfl⟩
          have B3 : Below w2.heap.size w2 w3 := by rw [hw3]; exact (Below.refl _ _).alloc (Nat.le_refl _) _
          have L3 : LX w3 w2.heap.size 200 := by rw [hw3]; exact heap_alloc_new _ _
          have X3 := H2.out.2.below B3
          rw [← hw3]
          have H3 := Lib.hid (And.intro (H2.out.1.trans (B3.mono H2.out.1.size)) (And.intro X3 L3))
          clear hw3 B3 L3 X3 k0 k1 k2 k3
          go_loopg [39] (p.consts.length) (fun gk v39 wr => FWRel w3 w2.heap.size 0 p.consts (fitW.fitX 0 p.consts 200) gk v39 wr)
          case atStart => exact ⟨0, 200, rfl, Nat.zero_le _, rfl, H3.out.2.2, Keeps.refl _ _, rfl, by decide, by decide⟩
          case round =>
            obtain ⟨a, cur, rfl, ha, hgk, hX, hK, hf, hc0, hc4⟩ := hrel
            have hbw : Below W.heap.size W wr := H3.out.1.trans (hK.below H3.out.1.size (fun j hj e => by have := H2.out.1.size; omega))
            have X4 := H3.out.2.1.keep hK (by omega)
            have k0 := X4.c0
            have k1 := X4.c1
            have k2 := X4.c2
            have k3 := X4.c3
            have lx := X4.lt
            dsimp only at k0 k1 k2 k3
            by_cases han : a < kn
            · obtain ⟨y, hy⟩ := elem_at (l := p.consts) (k := a) (by have := HL.out.2.1; omega)
              obtain ⟨g, off, c', rfl, hFg, hgW, hgl, hC, q0, q1, q2, q3⟩ := HI.out.1.const_at hbw hy
              rw [drop_get hy, fitX_cons] at hf
              have han' : (a : Int) < kn := by omega
              have hlW := H2.out.1.size
              have CA := Lib.hid (gfits_any _ y (Nat.le_refl _) w2.heap.size 0 cur c' (fun j => j < W.heap.size) _ (hX.keep (S := fun _ => False) ((Keeps.refl _ _).alloc (.cells #[.int .i64 c'.kind, .int .i64 c'.n, .string c'.s, .slice c'.la c'.ln c'.lc] 63)) (fun f => f)) (hC.keep (S := fun _ => False) ((Keeps.refl _ _).alloc _) (fun _ _ f => f)) (by omega) hc0 hc4 (Int.le_refl _) (by decide))
              have hbd := fitW_bd y 0 cur hc4
              generalize fitW 0 y cur = fv at *
              have HX := Lib.hid (And.intro hf (And.intro hgk (And.intro hK (And.intro hbd (And.intro hbw (lt_of_get hy))))))
              clear hf hgk hK hbd hC hX hy hbw X4 hlW
              --[[b2
              go_wp2_with fail
              refine CA.out.mono ?_
              rintro e w5 ⟨rfl, H5⟩
              have K5 := (HX.out.2.2.1.alloc (.cells #[.int .i64 c'.kind, .int .i64 c'.n, .string c'.s, .slice c'.la c'.ln c'.lc] 63)).trans H5.out.2 (fun _ _ e => e)
              have HK5 := Lib.hid K5
              clear K5 CA
              cases hfv : fv.1 with
              | false =>
                clear hfv
                go_wp2_with fail
                go_ret
                exact ⟨rfl, H3.out.1.trans (HK5.out.below H3.out.1.size (fun j hj e => by have := H2.out.1.size; omega))⟩
              | true =>
                have hr := HX.out.1
                rw [hfv] at hr
                simp only [cond_true] at hr
                have HR2 := Lib.hid (And.intro hr (HX.out.2.2.2.1.2 hfv))
                clear hr hfv
                go_wp2_with fail
                go_roundg (p.consts.length - (a + 1))
                case measure => have := HX.out.2.1; have := HX.out.2.2.2.2.2; omega
                case rel => exact ⟨a + 1, fv.2, by simp, HX.out.2.2.2.2.2, rfl, H5.out.1, HK5.out, HR2.out.1, HR2.out.2, HX.out.2.2.2.1.1⟩
              --]]b2
            · obtain rfl : a = kn := by have := HL.out.2.1; omega
              rw [List.drop_eq_nil_of_le (by have := HL.out.2.1; omega), fitX_nil] at hf
              have hwf := fits_wf (left := 200) (by rw [← hf]) HI.out.2
              have T1 := TA.out wr hbw hwf
              have PP := fun W' (K : Below W.heap.size W W') => print_prog _ W' ⟨ca, cn, cc, ka, a, kc, na, nn, nc, pl⟩ p (HI.out.1.below K) (HG.out.below K) hwf
              have KK := fun W' (K : Below W.heap.size W W') => rimg_any _ W' ⟨ca, cn, cc, ka, a, kc, na, nn, nc, pl⟩ p (HI.out.1.below K) _ hwf rfl
              have hT : tidyP p = bif imgL p != 0 then (noImg, imgL p) else tidyP p := by
                cases h : (imgL p != 0) with
                | true => unfold tidyP; rw [h]; rfl
                | false => rfl
              have hP : asmP p = bif imgL p != 0 then (⟨#[]⟩, imgL p) else asmP p := by
                cases h : (imgL p != 0) with
                | true => unfold asmP; rw [h]; rfl
                | false => rfl
              rw [hT] at T1
              generalize tidyP p = tp at *
              have PP2 : ∀ W', Below W.heap.size W W' → Calls Tryz.prog 25 _ W' (APrint W' (bif imgL p != 0 then (⟨#[]⟩, imgL p) else asmP p)) := fun W' K => by rw [← hP]; exact PP W' K
              generalize asmP p = ap at *
              generalize imgL p = ig at *
              have HT := Lib.hid T1
              have HP := Lib.hid PP2
              have HK := Lib.hid KK
              have HB := Lib.hid (And.intro hbw X4)
              have haa : ¬ (a : Int) < a := by omega
              clear hf hwf T1 PP PP2 KK hT hP hbw X4 hgk hX hK hc0 hc4 TA
              --[[b3
              go_wp2_with fail
              refine HT.out.mono ?_
              rintro e w4 ⟨⟨da, dn, dc, ea, en, ec, fa, fn, fc, pm⟩, rfl, H4⟩
              dsimp only [IC.cells]
              have hdn := H4.out.1.lens.1
              dsimp only at hdn
              obtain ⟨w5, hw5⟩ : ∃ w5, w5 = w4.alloc (.cells #[.slice da dn dc, .slice ea en ec, .slice fa fn fc, .int .i64 pm] 26) := ⟨_, rfl⟩
              have B5 : Below w4.heap.size w4 w5 := by rw [hw5]; exact (Below.refl _ _).alloc (Nat.le_refl _) _
              have Y5 : BoxI w5 w4.heap.size ⟨da, dn, dc, ea, en, ec, fa, fn, fc, pm⟩ := by rw [hw5]; exact boxI_new w4 ⟨da, dn, dc, ea, en, ec, fa, fn, fc, pm⟩
              have B45 := H4.out.2.trans (B5.mono H4.out.2.size)
              have X5 := HB.out.2.below B45
              have X4 := HB.out.2.below H4.out.2
              have k0 := X4.c0
              have k1 := X4.c1
              have k2 := X4.c2
              have k3 := X4.c3
              have lx := X4.lt
              dsimp only at k0 k1 k2 k3
              have H5 := Lib.hid (And.intro (HB.out.1.trans (B45.mono HB.out.1.size)) (And.intro X5 (And.intro Y5 hdn)))
              clear B5 Y5 B45 X5 X4 hdn H4 HT
              go_wp2_with fail
              rw [← hw5]
              clear hw5
              refine (HP.out _ H5.out.1).mono ?_
              rintro e w6 ⟨rfl, hB6⟩
              have X6 := H5.out.2.1.below hB6
              have Y6 := H5.out.2.2.1.below hB6
              have k0 := X6.c0
              have k1 := X6.c1
              have k2 := X6.c2
              have k3 := X6.c3
              have lx := X6.lt
              dsimp only at k0 k1 k2 k3
              have H6 := Lib.hid (And.intro (H5.out.1.trans (hB6.mono H5.out.1.size)) (And.intro X6 (And.intro Y6 H5.out.2.2.2)))
              clear X6 Y6 hB6 HP H5
              go_wp2_with fail
              refine (HK.out _ H6.out.1).mono ?_
              rintro e w7 ⟨rfl, hB7⟩
              have Y7 := H6.out.2.2.1.below hB7
              have y0 := Y7.c0
              have ly := Y7.lt
              dsimp only at y0
              have H7 := Lib.hid (And.intro (H6.out.1.trans (hB7.mono H6.out.1.size)) H6.out.2.2.2)
              clear Y7 hB7 HK H6 k0 k1 k2 k3
              cases hig : (ig == 0) with
              | true =>
                obtain rfl : ig = 0 := by simpa using hig
                clear hig
                go_wp2_with fail
                go_ret
                exact ⟨rfl, H7.out.1⟩
              | false =>
                have hig2 : (ig != 0) = true := by simpa using hig
                rw [hig2]
                rw [hig2] at H7
                simp only [cond_true]
                obtain rfl : dn = 0 := H7.out.2
                go_wp2_with fail
                go_ret
                exact ⟨rfl, H7.out.1⟩
              --]]b3
          --]]b1
    --]]b0
--]]goodw
end Go.Proofs.YtielnengimninaaGreatDoor
