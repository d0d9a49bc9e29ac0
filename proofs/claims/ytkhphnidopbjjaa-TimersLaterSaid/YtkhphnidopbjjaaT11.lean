/- TimersLater, walked. -/
import Derived.Test.YtkhphnidopbjjaaT10
import Derived.Test.YtkhphnidopbjjaaTl
namespace Go.Proofs.Ytkhphnidopbjjaa
open Go.RowKit Go.Own Go.Own.MapTy Go.Hm
open Go.Own.Cells (sz enc)
theorem box2 {W : World} {b : Nat} {c0 c1 : Value} {T : TypeId} (h : W.heap[b]? = some (.cells #[c0, c1] T (0, 0))) : W.cell? ⟨b, 0, none⟩ = some c0 ∧ W.cell? ⟨b, 1, none⟩ = some c1 ∧ b < W.heap.size := by
  refine ⟨?_, ?_, lt_of_heap h⟩
  all_goals (rw [cell_of_heap h]; rfl)
def TcRel (w3 : World) (r : Int) (F : List Fr) (v44 v10 : Value) (wr : World) : Prop :=
  ∃ k : Nat, v44 = .int .i64 k ∧ k ≤ F.length ∧ RowAt wr 87 v10 (ofRun r (F.take k)) ∧ Below w3.heap.size w3 wr ∧ ∀ g, v10.ownBlock = some g → w3.heap.size ≤ g
def TdRel (w5 : World) (r : Int) (F F1 : List Fr) (v61 v13 : Value) (wr : World) : Prop :=
  ∃ k : Nat, v61 = .int .i64 k ∧ k ≤ F1.length ∧ v13 = .int .i64 (ofRun r (F.take k)).length ∧ Below w5.heap.size w5 wr
set_option maxRecDepth 100000 in
set_option maxHeartbeats 16000000 in
theorem tlater_walk (sc : List (Int × Ev)) (a : Option Addr) (cap : Nat) (t0 t1 run : Int) (w : World) (hd : ReadsSteps w a sc) (hmax : sc.length ≤ 9223372036854775807) :
    Calls Try.prog 9 #[.slice a sc.length cap, .agg #[.int .i64 t0, .int .i64 t1], .int .i64 run] w fun e w' => e = .returned (.bool true) ∧ Below w.heap.size w w' := by
  have HD := Lib.hid hd
  clear hd
  have BW := Lib.hid ((Below.refl w.heap.size w).alloc (Nat.le_refl _) (.cells #[.int .i64 t0, .int .i64 t1] 86))
  by_cases hn : 80 < sc.length
  · go_enter Try.func9, Try.ntmps9
    go_wp2_with (go_at_call 29; refine (waits_true _).mono ?_; rintro e w1 ⟨rfl, hB1⟩)
    go_ret
    exact ⟨rfl, BW.out.trans (hB1.mono BW.out.size)⟩
  · by_cases htt : t1 < t0
    · go_enter Try.func9, Try.ntmps9
      go_wp2_with (go_at_call 29; refine (waits_true _).mono ?_; rintro e w1 ⟨rfl, hB1⟩; obtain ⟨hc1, hf1⟩ := bcell hB1)
      go_ret
      exact ⟨rfl, BW.out.trans (hB1.mono BW.out.size)⟩
    · have hn' : sc.length ≤ 80 := by omega
      go_enter Try.func9, Try.ntmps9
      go_wp2_with fail
      obtain ⟨wb, hwb⟩ : ∃ wb, wb = w.alloc (.cells #[.int .i64 t0, .int .i64 t1] 86) := ⟨_, rfl⟩
      rw [← hwb] at BW ⊢
      have bxb : wb.heap[w.heap.size]? = some (.cells #[.int .i64 t0, .int .i64 t1] 86 (0, 0)) := by rw [hwb]; exact heap_alloc_new w _
      clear hwb
      refine (waits_true _).mono ?_
      rintro e w1 ⟨rfl, hB1⟩
      obtain ⟨z0, z1, lz⟩ := box2 ((hB1.block _ (lt_of_heap bxb)).trans bxb)
      have BXB := Lib.hid bxb
      clear bxb
      go_wp2_with fail
      go_loopw [30] (fun v30 wr => ∃ k l lv mv s Z, v30 = .int .i64 (k : Nat) ∧ k ≤ sc.length ∧ QM wb w1.heap.size lv mv s Z l k wr) (fun v30 _ => sc.length - (intOf v30).toNat)
      case atStart => exact ⟨0, [], _, _, _, _, rfl, Nat.zero_le _, QM.zero hB1⟩
      case round =>
        obtain ⟨k, l, lv, mv, s, Z, rfl, hk, hQ⟩ := hrel
        have hb0 := hQ.b0
        have hbw : Below w.heap.size w wr := BW.out.trans (hQ.below.mono BW.out.size)
        generalize hhb : w1.heap.size = hbk at *
        by_cases hkn : k < sc.length
        ·
          --[[one
          obtain ⟨⟨rn, v⟩, hp⟩ := elem_at hkn
          obtain ⟨b, off, rfl, hbl, -, hcs⟩ := HD.out k _ hp
          obtain ⟨⟨c0, c1, c2, c3, c4, c5⟩, c6, c7, c8, c9, c10, c11⟩ := steps_at hbw hbl hcs
          have hblr : b < wr.heap.size := Nat.lt_of_lt_of_le hbl hbw.size
          have hk0 : (0 : Int) ≤ (k : Int) := by omega
          have hk1 : (k : Int) < (sc.length : Int) := by omega
          have HQ := Lib.hid hQ
          have HHB := Lib.hid hhb
          clear hp hcs hQ hhb hbw z0 z1 lz hB1
          go_wp2_with fail
          refine ((HQ.out.old ((Below.refl wr.heap.size wr).alloc (Nat.le_refl _) (.cells (stCells rn v) 73))).apply (by omega) v rn).mono ?_
          rintro e w2 ⟨lv', mv', hA⟩
          obtain ⟨hret, ⟨s', Z', hq2⟩, -, -⟩ := hA
          subst hret
          have HQ2 := Lib.hid hq2
          clear hq2 c0 c1 c2 c3 c4 c5 c6 c7 c8 c9 c10 c11
          go_wp2_with fail
          go_roundw
          case rel => exact ⟨k + 1, _, lv', mv', s', Z', by simp, hkn, HQ2.out⟩
          case measure => simp [intOf]; omega
          --]]one
        · obtain rfl : k = sc.length := by omega
          have q0 := hQ.more hn'
          have hll : l.length ≤ 80 := q0.hl
          obtain ⟨F, hFd⟩ : ∃ F, F = firesL t0 (dueTh t0 l) [] := ⟨_, rfl⟩
          obtain ⟨X, hX⟩ := fires_later (t := t0) (u := t1) (by omega) q0.tr.sorted
          rw [← hFd] at hX
          have hFt : ∀ f ∈ F, f.time = t0 := by rw [hFd]; exact firesL_time t0 _ _
          have hfl : ∀ u, (firesL u (dueTh u l) []).length ≤ 80 := fun u => by
            have h1 := firesL_len u (dueTh u l) []
            have h2 := List.length_filter_le (fun x : Th => decide (x.due ≤ u)) l
            unfold dueTh at *
            omega
          have hFl : F.length ≤ 80 := by rw [hFd]; exact hfl t0
          have FI := Lib.hid (show Calls Try.prog 36 #[.pointer (some ⟨hbk, 0, none⟩), .int .i64 t0] wr fun e w' => ∃ v, e = .returned v ∧ RowAt w' 87 v F ∧ Below wr.heap.size wr w' ∧ ∀ g, v.ownBlock = some g → wr.heap.size ≤ g from by
            have h := fires_any t0 _ _ _ _ _ _ _ wr q0.hv q0.ref q0.tr (by have := q0.len; omega)
            rw [← hFd] at h; exact h)
          obtain ⟨F1, hF1⟩ : ∃ F1, F1 = F.map (atT t1) ++ X := ⟨_, rfl⟩
          rw [← hF1] at hX
          have hF1l : F1.length ≤ 80 := by rw [← hX]; exact hfl t1
          have FJ := Lib.hid (fun (W : World) (K : Below wr.heap.size wr W) => show Calls Try.prog 36 #[.pointer (some ⟨hbk, 0, none⟩), .int .i64 t1] W fun e w' => ∃ v, e = .returned v ∧ RowAt w' 87 v F1 ∧ Below W.heap.size W w' ∧ ∀ g, v.ownBlock = some g → W.heap.size ≤ g from by
            have h := fires_any t1 _ _ _ _ _ _ _ W (q0.old K).hv (q0.old K).ref (q0.old K).tr (by have := q0.len; omega)
            rw [hX] at h; exact h)
          have bxr : wr.heap[w.heap.size]? = some (.cells #[.int .i64 t0, .int .i64 t1] 86 (0, 0)) := (q0.below.block _ (lt_of_heap BXB.out)).trans BXB.out
          have HF := Lib.hid (And.intro hF1 hFt)
          have HQ := Lib.hid q0
          have HBW := Lib.hid hbw
          have BX := Lib.hid bxr
          clear z0 z1 lz hB1 hQ q0 hbw hFd hX hFt hF1 hfl
          obtain ⟨z0, z1, lz⟩ := box2 bxr
          clear bxr hhb
          go_wp2_with fail
          refine FI.out.mono ?_
          rintro e w3 ⟨vf, rfl, hRF, hB3, -⟩
          obtain ⟨af, cf, rfl⟩ := hRF.slice
          have HR3 := Lib.hid (And.intro hRF hB3)
          obtain ⟨wo, rfl⟩ : ∃ wo : World, wo = wr := ⟨_, rfl⟩
          clear hRF hB3 z0 z1 lz
          go_wp2_with fail
          go_loopw [44, 10] (fun v44 v10 wr => TcRel w3 run F v44 v10 wr) (fun v44 _ _ => F.length - (intOf v44).toNat)
          case atStart => exact ⟨0, rfl, Nat.zero_le _, RowAt.nil _ _, Below.refl _ _, fun g h => by simp [Value.ownBlock] at h⟩
          case round =>
            obtain ⟨k, rfl, hk2, hR, hB, hf⟩ := hrel
            have hb := hB.size
            have hol : (ofRun run (F.take k)).length ≤ 80 := by have := ofRun_le run F k; have := ofRun_len run F; omega
            obtain ⟨a1, p1, rfl⟩ := hR.slice
            by_cases hkn2 : k < F.length
            ·
              --[[two
              obtain ⟨x, hx⟩ := elem_at hkn2
              have hRF := HR3.out.1.below hB
              obtain ⟨g, off, rfl, hgl⟩ := hRF.addr hx
              obtain ⟨⟨x0, x1, x2, x3, x4, x5⟩, x6, x7, x8, x9, x10, x11⟩ := row_fr hRF hx
              have hs := ofRun_snoc hx run
              have hk0 : (0 : Int) ≤ (k : Int) := by omega
              have hk1 : (k : Int) < (F.length : Int) := by omega
              clear hx hRF
              by_cases hr : x.run = run
              · rw [if_pos hr] at hs
                have hr1 : (x.run == run) = true := by simp [hr]
                have HH := Lib.hid (And.intro hR (And.intro hB (And.intro hf hs)))
                clear hR hB hf hs hr
                go_wp2_with (at_builtin; refine wp_appW (α := Fr) elemFr rfl (.tmp 52) (.tmp 54) rfl ((HH.out.1.alloc _).alloc _) x rfl rfl new2 (by omega) (by unfold maxLen; omega) ?_; intro a4 q4 w4 hr4 hk4 hf4)
                go_roundw
                case rel =>
                  have P := app_fresh (w := w3) (((Keeps.of_below HH.out.2.1 : Keeps (fun _ => False) w3 _).alloc _).alloc _) hk4 HH.out.2.2.1 hf4
                  exact ⟨k + 1, by simp, hkn2, by rw [HH.out.2.2.2]; exact hr4, P.1.below_of, P.2⟩
                case measure => simp [intOf]; omega
              · rw [if_neg hr, List.append_nil] at hs
                have hr1 : (x.run == run) = false := by simp [hr]
                have HH := Lib.hid (And.intro hR (And.intro hB (And.intro hf hs)))
                clear hR hB hf hs hr
                go_wp2_with fail
                go_roundw
                case rel => exact ⟨k + 1, by simp, hkn2, by rw [HH.out.2.2.2]; exact HH.out.1.alloc _, HH.out.2.1.alloc hb _, HH.out.2.2.1⟩
                case measure => simp [intOf]; omega
              --]]two
            · obtain rfl : k = F.length := by omega
              rw [List.take_length] at hR
              rw [List.take_length]
              obtain ⟨wp, rfl⟩ : ∃ wp : World, wp = wr := ⟨_, rfl⟩
              have hB6 : Below wo.heap.size wo wp := HR3.out.2.trans (hB.mono HR3.out.2.size)
              obtain ⟨z0, z1, lz⟩ := box2 ((hB6.block _ (lt_of_heap BX.out)).trans BX.out)
              have hb6 : hbk < wp.heap.size := Nat.lt_of_lt_of_le hb0 hB6.size
              have HR := Lib.hid (And.intro hR hB6)
              have hol2 : (ofRun run F).length ≤ 80 := by have := ofRun_len run F; omega
              clear hR hB hf hB6
              go_wp2_with fail
              refine (FJ.out _ HR.out.2).mono ?_
              rintro e w5 ⟨vg, rfl, hRG, hB5, -⟩
              obtain ⟨ag, cg, rfl⟩ := hRG.slice
              have HR5 := Lib.hid (And.intro hRG (And.intro (HR.out.1.below hB5) (HR.out.2.trans (hB5.mono HR.out.2.size))))
              clear hRG hB5 z0 z1 lz
              go_wp2_with fail
              go_loopw [61, 13] (fun v61 v13 wr => TdRel w5 run F F1 v61 v13 wr) (fun v61 _ _ => F1.length - (intOf v61).toNat)
              case atStart => exact ⟨0, rfl, Nat.zero_le _, by simp [ofRun], Below.refl _ _⟩
              case round =>
                obtain ⟨k, rfl, hk3, rfl, hB⟩ := hrel
                have hb := hB.size
                have hle := ofRun_le run F k
                by_cases hkn3 : k < F1.length
                ·
                  --[[three
                  obtain ⟨x, hx⟩ := elem_at hkn3
                  have hRG := HR5.out.1.below hB
                  obtain ⟨g, off, rfl, hgl⟩ := hRG.addr hx
                  obtain ⟨⟨x0, x1, x2, x3, x4, x5⟩, x6, x7, x8, x9, x10, x11⟩ := row_fr hRG hx
                  have hk0 : (0 : Int) ≤ (k : Int) := by omega
                  have hk1 : (k : Int) < (F1.length : Int) := by omega
                  have hxF : k < F.length → ∃ y, F[k]? = some y ∧ x = atT t1 y ∧ y.time = t0 := fun h => by
                    obtain ⟨y, hy⟩ := elem_at h
                    refine ⟨y, hy, ?_, HF.out.2 y (List.mem_of_getElem? hy)⟩
                    rw [HF.out.1, List.getElem?_append_left (by simpa using h), List.getElem?_map, hy] at hx
                    simpa using hx.symm
                  have hmono : (ofRun run (F.take k)).length ≤ (ofRun run (F.take (k + 1))).length := by
                    by_cases h : k < F.length
                    · obtain ⟨y, hy⟩ := elem_at h
                      rw [ofRun_snoc hy run, List.length_append]; omega
                    · rw [ofRun_past (by omega), ofRun_past (by omega)]; exact Nat.le_refl _
                  have hle1 := ofRun_le run F (k + 1)
                  clear hx hRG
                  by_cases hr : x.run = run
                  · have hr1 : (x.run == run) = true := by simp [hr]
                    have hr2 : (x.run != run) = false := by simp [hr]
                    by_cases hke : (ofRun run (F.take k)).length = (ofRun run F).length
                    · have hke1 : ((ofRun run (F.take k)).length == (ofRun run F).length) = true := by simp [hke]
                      have hkn4 : (ofRun run (F.take (k + 1))).length = (ofRun run (F.take k)).length := by omega
                      have HH := Lib.hid (And.intro hB hkn4)
                      generalize (ofRun run (F.take k)).length = m at *
                      clear hB hkn4 hr hxF hmono
                      have hke2 : ((m : Int) == ((ofRun run F).length : Int)) = true := by simp [hke]
                      clear hke
                      go_wp2_with fail
                      go_roundw
                      case rel => exact ⟨k + 1, by simp, hkn3, by rw [HH.out.2], HH.out.1.alloc hb _⟩
                      case measure => simp [intOf]; omega
                    · have hkF : k < F.length := by
                        rcases Nat.lt_or_ge k F.length with h | h
                        · exact h
                        · exact absurd (by rw [ofRun_past h]) hke
                      obtain ⟨y, hy, hxy, hyt⟩ := hxF hkF
                      have hyr : y.run = run := by rw [hxy] at hr; exact hr
                      have hone := ofRun_at hy hyr
                      have hsn := ofRun_snoc hy run
                      rw [if_pos hyr] at hsn
                      have hR1 := HR5.out.2.1.below hB
                      obtain ⟨g1, off1, rfl, hgl1⟩ := hR1.addr hone
                      obtain ⟨⟨y0, y1, y2, y3, y4, y5⟩, y6, y7, y8, y9, y10, y11⟩ := row_fr hR1 hone
                      rw [hyt] at y2
                      have hxk : x.kind = y.kind := by rw [hxy]; rfl
                      have hxa : x.a = y.a := by rw [hxy]; rfl
                      rw [hxk] at x3
                      rw [hxa] at x4
                      have hB7 : Below wo.heap.size wo wr := HR5.out.2.2.trans (hB.mono HR5.out.2.2.size)
                      obtain ⟨z0, z1, lz⟩ := box2 ((hB7.block _ (lt_of_heap BX.out)).trans BX.out)
                      have hke1 : ((ofRun run (F.take k)).length == (ofRun run F).length) = false := by simp [hke]
                      have hml : (ofRun run (F.take k)).length < (ofRun run F).length := by omega
                      have hl1 : (ofRun run (F.take (k + 1))).length = (ofRun run (F.take k)).length + 1 := by rw [hsn, List.length_append]; rfl
                      have HH := Lib.hid (And.intro hB hl1)
                      generalize (ofRun run (F.take k)).length = m at *
                      clear hB hr hxF hmono hR1 hone hsn hy hxy hyt hyr hxk hxa hB7 hke hl1
                      have hm0 : (0 : Int) ≤ (m : Int) := by omega
                      have hm1 : (m : Int) < ((ofRun run F).length : Int) := by omega
                      go_wp2_with fail
                      refine wp_region_ext (by kernel_rfl) (by kernel_rfl) ?_
                      repeat (go_big_quiet_step ((go_at_call 38; exact ext_call (same_true _ _ _ _))))
                      refine wpQuiet_nil ?_
                      intro w7 hB7
                      clear x0 x1 x2 x3 x4 x5 x6 x7 x8 x9 x10 x11 y0 y1 y2 y3 y4 y5 y6 y7 y8 y9 y10 y11 z0 z1
                      go_wp2_with fail
                      go_roundw
                      case rel =>
                        have hB8 := (((Below.refl _ wr).alloc (Nat.le_refl _) _).trans (hB7.mono (by simp)))
                        exact ⟨k + 1, by simp, hkn3, by rw [HH.out.2]; rfl, HH.out.1.trans (hB8.mono hb)⟩
                      case measure => simp [intOf]; omega
                  · have hr1 : (x.run == run) = false := by simp [hr]
                    have hr2 : (x.run != run) = true := by simp [hr]
                    have hkn4 : ofRun run (F.take (k + 1)) = ofRun run (F.take k) := by
                      by_cases h : k < F.length
                      · obtain ⟨y, hy, rfl, _⟩ := hxF h
                        rw [ofRun_snoc hy run, if_neg (show ¬ y.run = run from hr), List.append_nil]
                      · rw [ofRun_past (by omega), ofRun_past (by omega)]
                    have HH := Lib.hid (And.intro hB hkn4)
                    clear hB hkn4 hr hxF hmono
                    go_wp2_with fail
                    go_roundw
                    case rel => exact ⟨k + 1, by simp, hkn3, by rw [HH.out.2], HH.out.1.alloc hb _⟩
                    case measure => simp [intOf]; omega
                  --]]three
                · obtain rfl : k = F1.length := by omega
                  have he : ofRun run (F.take F1.length) = ofRun run F := ofRun_past (by rw [HF.out.1]; simp) run
                  rw [he]
                  have HB := Lib.hid hB
                  clear hB he hle
                  go_wp2_with fail
                  go_ret
                  have hB7 := HR5.out.2.2.trans (HB.out.mono HR5.out.2.2.size)
                  exact ⟨rfl, HBW.out.trans (hB7.mono HBW.out.size)⟩
end Go.Proofs.Ytkhphnidopbjjaa
