/- TimersFire, walked. -/
import Derived.Test.YtkhphnidopbjjaaT9
import Derived.Test.YtkhphnidopbjjaaTf
namespace Go.Proofs.Ytkhphnidopbjjaa
open Go.RowKit Go.Own Go.Own.MapTy Go.Hm
open Go.Own.Cells (sz enc)
/-- between two rounds of the first loop -/
def TaRel (w : World) (hb n : Nat) (v20 : Value) (wr : World) : Prop :=
  ∃ (k : Nat) (l : List Th) (lv mv : Value) (s : Hp) (Z : List It), v20 = .int .i64 k ∧ k ≤ n ∧ QM w hb lv mv s Z l k wr ∧ KOK l
/-- between two rounds of the second loop -/
def TbRel (w : World) (hb : Nat) (l : List Th) (now : Int) (F : List Fr) (vf v35 : Value) (wr : World) : Prop :=
  ∃ (k : Nat) (lk : List Th) (lv mv : Value) (s : Hp) (Z : List It), v35 = .int .i64 k ∧ k ≤ F.length ∧ QM w hb lv mv s Z lk (80 + k) wr ∧ RowAt wr 87 vf F ∧ Off hb lv mv vf ∧ FireInv l now F k lk
theorem QM.more {w0 wr : World} {hb : Nat} {lv mv : Value} {s : Hp} {Z : List It} {l : List Th} {n m : Nat} (h : QM w0 hb lv mv s Z l n wr) (hm : n ≤ m) : QM w0 hb lv mv s Z l m wr :=
  ⟨h.below, h.hv, h.ref, h.tr, h.fw, h.s0, by have := h.s1; omega, by have := h.len; omega⟩
set_option maxRecDepth 100000 in
set_option maxHeartbeats 16000000 in
theorem tfire_walk (sc : List (Int × Ev)) (a : Option Addr) (cap : Nat) (now : Int) (w : World) (hd : ReadsSteps w a sc) (hmax : sc.length ≤ 9223372036854775807) :
    Calls Try.prog 10 #[.slice a sc.length cap, .int .i64 now] w fun e w' => e = .returned (.bool true) ∧ Below w.heap.size w w' := by
  have HD := Lib.hid hd
  clear hd
  by_cases hn : 80 < sc.length
  · go_enter Try.func10, Try.ntmps10
    go_wp2_with (go_at_call 29; refine (waits_true _).mono ?_; rintro e w1 ⟨rfl, hB1⟩)
    go_ret
    exact ⟨rfl, hB1⟩
  · have hn' : sc.length ≤ 80 := by omega
    go_enter Try.func10, Try.ntmps10
    go_wp2_with (go_at_call 29; refine (waits_true _).mono ?_; rintro e w1 ⟨rfl, hB1⟩)
    go_loopw [20] (fun v20 wr => TaRel w w1.heap.size sc.length v20 wr) (fun v20 _ => sc.length - (intOf v20).toNat)
    case atStart => exact ⟨0, [], _, _, _, _, rfl, Nat.zero_le _, QM.zero hB1, KOK.nil⟩
    case round =>
      obtain ⟨k, l, lv, mv, s, Z, rfl, hk, hQ, hK⟩ := hrel
      have hb0 := hQ.b0
      generalize hhb : w1.heap.size = hbk at *
      by_cases hkn : k < sc.length
      ·
        --[[one
        obtain ⟨⟨run, v⟩, hp⟩ := elem_at hkn
        obtain ⟨b, off, rfl, hbl, -, hcs⟩ := HD.out k _ hp
        obtain ⟨⟨c0, c1, c2, c3, c4, c5⟩, c6, c7, c8, c9, c10, c11⟩ := steps_at hQ.below hbl hcs
        have hblr : b < wr.heap.size := Nat.lt_of_lt_of_le hbl hQ.below.size
        have hk0 : (0 : Int) ≤ (k : Int) := by omega
        have hk1 : (k : Int) < (sc.length : Int) := by omega
        have HQ := Lib.hid (And.intro hQ hK)
        have HHB := Lib.hid hhb
        clear hp hcs hQ hK hhb
        go_wp2_with fail
        refine ((HQ.out.1.old ((Below.refl wr.heap.size wr).alloc (Nat.le_refl _) (.cells (stCells run v) 73))).apply (by omega) v run).mono ?_
        rintro e w2 ⟨lv', mv', hA⟩
        obtain ⟨hret, ⟨s', Z', hq2⟩, -, -⟩ := hA
        subst hret
        have HQ2 := Lib.hid hq2
        clear hq2 c0 c1 c2 c3 c4 c5 c6 c7 c8 c9 c10 c11
        go_wp2_with fail
        go_roundw
        case rel => exact ⟨k + 1, _, lv', mv', s', Z', by simp, hkn, HQ2.out, HQ.out.2.apply run v⟩
        case measure => simp [intOf]; omega
        --]]one
      · obtain rfl : k = sc.length := by omega
        have q0 := hQ.more hn'
        have LN := Lib.hid (show Calls Try.prog 15 #[.pointer (some ⟨hbk, 0, none⟩)] wr fun e w' => e = .returned (.int .i64 l.length) ∧ wr = w' from by
          have h := len_any _ _ _ _ _ wr q0.hv
          rw [← q0.ref.len, ← q0.tr.len] at h
          exact h)
        have hll : l.length ≤ 80 := q0.hl
        have FI := Lib.hid (fires_any now _ _ _ _ _ _ _ wr q0.hv q0.ref q0.tr (by have := q0.len; omega))
        have HQ := Lib.hid (And.intro q0 (And.intro hK (TRef.keys q0.tr q0.ref)))
        have HHB := Lib.hid hhb
        clear hQ hK q0 hhb
        go_wp2_with fail
        refine LN.out.mono ?_
        rintro e wl ⟨rfl, rfl⟩
        go_wp2_with fail
        refine FI.out.mono ?_
        rintro e w3 ⟨vf, rfl, hRF, hB3, hF3⟩
        obtain ⟨F, hFd⟩ : ∃ F, F = firesL now (dueTh now l) [] := ⟨_, rfl⟩
        rw [← hFd] at hRF
        have hFl : F.length ≤ 80 := by
          have h1 := firesL_len now (dueTh now l) []
          have h2 := List.length_filter_le (fun x : Th => decide (x.due ≤ now)) l
          rw [hFd]
          unfold dueTh at *
          omega
        obtain ⟨af, cf, rfl⟩ := hRF.slice
        have q3 := HQ.out.1.old hB3
        have ST := Lib.hid (show TbRel w hbk l now F (.slice af F.length cf) (.int .i64 ((0 : Nat) : Int)) w3 from ⟨0, l, lv, mv, s, Z, rfl, Nat.zero_le _, q3, hRF, fun g hg f => by have h1 := hF3 g hg; have h2 := HQ.out.1.hv.lt f; omega, hFd ▸ FireInv.zero l now⟩)
        obtain ⟨wo, rfl⟩ : ∃ wo : World, wo = wr := ⟨_, rfl⟩
        have hb3 := q3.b0
        clear hRF hB3 hF3 hFd q3
        go_wp2_with fail
        go_loopw [35] (fun v35 wr => TbRel w hbk l now F (.slice af F.length cf) v35 wr) (fun v35 _ => F.length - (intOf v35).toNat)
        case atStart => exact ST.out
        case round =>
          obtain ⟨k, lk, lv1, mv1, s1, Z1, rfl, hk, hQ1, hR1, hO1, hI1⟩ := hrel
          have hb1 := hQ1.b0
          have hlk : lk.length ≤ 160 := by have := hQ1.hl; omega
          by_cases hkn : k < F.length
          ·
            --[[two
            obtain ⟨x, hx⟩ := elem_at hkn
            obtain ⟨i1, i2, i3, i4, i5⟩ := hI1.step HQ.out.2.2 HQ.out.2.1 hx
            obtain ⟨g, off, rfl, hgl⟩ := hR1.addr hx
            obtain ⟨⟨x0, x1, x2, x3, x4, x5⟩, x6, x7, x8, x9, x10, x11⟩ := row_fr hR1 hx
            have hk0 : (0 : Int) ≤ (k : Int) := by omega
            have hk1 : (k : Int) < (F.length : Int) := by omega
            rw [i1] at x2
            have ht : (now == now) = true := by simp
            have HI := Lib.hid (And.intro i4 i5)
            have HQ1 := Lib.hid (And.intro hQ1 (And.intro hR1 hO1))
            have EV : evOf x = ⟨0, now, x.kind, x.a, 0, .empty, .empty, 0, 0, .empty, none, 0, 0⟩ := by unfold evOf; rw [i1]
            have AP := Lib.hid (fun (W : World) (K : Below wr.heap.size wr W) => (show Calls Try.prog 30 #[.pointer (some ⟨hbk, 0, none⟩), .int .i64 x.run, .agg (evCells ⟨0, now, x.kind, x.a, 0, .empty, .empty, 0, 0, .empty, none, 0, 0⟩)] W (fun e w2 => ∃ lv' mv', e = .returned (.int .i64 0) ∧ TbRel w hbk l now F (.slice (some ⟨g, off, none⟩) F.length cf) (.int .i64 ((k + 1 : Nat) : Int)) w2 ∧ lv' = lv' ∧ mv' = mv') from by
              rw [← EV]
              refine ((HQ1.out.1.old K).apply (by omega) (evOf x) x.run).mono ?_
              rintro e w2 ⟨lv', mv', hA⟩
              obtain ⟨hret, ⟨s', Z', hq2⟩, hKk, hFo⟩ := hA
              obtain ⟨hO2, hR2⟩ := HQ1.out.2.2.step (HQ1.out.2.1.below K) hKk hFo
              refine ⟨lv', mv', ?_, ⟨k + 1, (applyL lk x.run (evOf x)).1, lv', mv', s', Z', rfl, hkn, ?_, hR2, hO2, ?_⟩, rfl, rfl⟩
              · rw [hret, HI.out.1]
              · exact hq2
              · exact HI.out.2))
            have BA := Lib.hid ((Below.refl wr.heap.size wr).alloc (Nat.le_refl _) (.cells #[.int .i64 x.run, .int .i64 0, .int .i64 now, .int .i64 x.kind, .int .i64 x.a, .int .i64 0, .string .empty, .string .empty, .int .i64 0, .int .i64 0, .string .empty, .slice none 0 0] 87))
            have hlb : wr.heap.size < wr.heap.size + 1 := by omega
            rcases i2 with h12 | h20
            · have t2 : (x.kind == 12) = true := by simp [h12]
              have OP := Lib.hid (open_any x.run x.a true _ _ _ _ _ _ _ (HQ1.out.1.old BA.out).hv (HQ1.out.1.old BA.out).ref (((HQ1.out.1.old BA.out).tr.any _).symm.trans (i3 h12)))
              clear i1 i3 i4 i5 hx hI1 hQ1 hR1 hO1 EV h12
              go_wp2_with fail
              refine OP.out.mono ?_
              rintro e w4 ⟨rfl, hB4⟩
              obtain ⟨hc4, hf4⟩ := bcell hB4
              have HB4 := Lib.hid (BA.out.trans (hB4.mono BA.out.size))
              have hs4 := hB4.size
              simp only [World.size_alloc] at hs4
              clear hB4
              go_wp2_with fail
              refine (AP.out _ HB4.out).mono ?_
              rintro e w5 ⟨lv', mv', rfl, hT, -, -⟩
              have HT := Lib.hid hT
              clear hT hc4 hf4
              go_wp2_with fail
              go_roundw
              case rel => exact HT.out
              case measure => simp [intOf]; omega
            · have t2 : (x.kind == 12) = false := by simp [h20]
              clear i1 i3 i4 i5 hx hI1 hQ1 hR1 hO1 EV h20
              go_wp2_with fail
              refine (AP.out _ BA.out).mono ?_
              rintro e w5 ⟨lv', mv', rfl, hT, -, -⟩
              have HT := Lib.hid hT
              clear hT
              go_wp2_with fail
              go_roundw
              case rel => exact HT.out
              case measure => simp [intOf]; omega
            --]]two
          · obtain rfl : k = F.length := by omega
            --[[three
            obtain ⟨hdu, hle⟩ := hI1.last
            have hnd := hI1.none_due
            have hgt : ¬ (l.length : Int) < (lk.length : Int) := by omega
            have hgt2 : decide (l.length < lk.length) = false := by simp; omega
            have NX : ∃ (t : Int) (ok : Bool), (ok = true → now < t) ∧ Calls Try.prog 39 #[.pointer (some ⟨hbk, 0, none⟩)] wr fun e w' => e = .returned (.tuple #[.int .i64 t, .bool ok]) ∧ Below wr.heap.size wr w' := by
              rcases Nat.eq_zero_or_pos Z1.length with h0 | h0
              · have hZ : Z1 = [] := List.eq_nil_of_length_eq_zero h0
                subst hZ
                exact ⟨0, false, by simp, next_none _ _ _ _ _ wr hQ1.hv hQ1.ref⟩
              · obtain ⟨x, hx⟩ := elem_at h0
                exact ⟨x.due, true, fun _ => hdu x.th (hQ1.tr.perm.mem_iff.1 (List.mem_map.2 ⟨x, List.mem_of_getElem? hx, rfl⟩)), next_some x _ _ _ _ _ _ wr hQ1.hv hQ1.ref hx⟩
            obtain ⟨t, ok, hok, NXT⟩ := NX
            have HQ1 := Lib.hid hQ1
            have NX := Lib.hid NXT
            have HND := Lib.hid hnd
            have HOK := Lib.hid hok
            clear hQ1 hR1 hO1 hI1 NXT hdu hle hnd hok
            go_wp2_with fail
            refine NX.out.mono ?_
            rintro e w4 ⟨rfl, hB4⟩
            have q4 := HQ1.out.old hB4
            have LN2 := Lib.hid (show Calls Try.prog 15 #[.pointer (some ⟨hbk, 0, none⟩)] w4 fun e w' => e = .returned (.int .i64 lk.length) ∧ w4 = w' from by
              have h := len_any _ _ _ _ _ w4 q4.hv
              rw [← q4.ref.len, ← q4.tr.len] at h
              exact h)
            have FI2 := Lib.hid (show Calls Try.prog 36 #[.pointer (some ⟨hbk, 0, none⟩), .int .i64 now] w4 fun e w' => ∃ v, e = .returned v ∧ RowAt w' 87 v ([] : List Fr) ∧ Below w4.heap.size w4 w' ∧ ∀ g, v.ownBlock = some g → w4.heap.size ≤ g from by
              have h := fires_any now _ _ _ _ _ _ _ w4 q4.hv q4.ref q4.tr (by have := q4.len; omega)
              rw [HND.out] at h
              exact h)
            have HQ4 := Lib.hid q4
            have hb4 := q4.b0
            clear hB4 q4
            cases ok with
            | true =>
              have h1 : ¬ t ≤ now := by have := HOK.out rfl; omega
              go_wp2_with fail
              refine LN2.out.mono ?_
              rintro e w5 ⟨rfl, rfl⟩
              go_wp2_with fail
              refine FI2.out.mono ?_
              rintro e w5 ⟨v5, rfl, hR5, hB5, -⟩
              obtain ⟨a5, c5, rfl⟩ := hR5.slice
              simp only [List.length_nil]
              have q5 := HQ4.out.old hB5
              have RT := Lib.hid (right_any _ _ _ _ _ w5 q5.hv q5.ref.good (by rw [← q5.ref.len]; have := q5.len; omega))
              have HQ5 := Lib.hid q5
              have hb5 := q5.b0
              clear hR5 hB5 q5
              go_wp2_with fail
              refine RT.out.mono ?_
              rintro e w6 ⟨rfl, hB6⟩
              go_wp2_with fail
              go_ret
              exact ⟨rfl, HQ5.out.below.trans (hB6.mono HQ5.out.below.size)⟩
            | false =>
              go_wp2_with fail
              refine LN2.out.mono ?_
              rintro e w5 ⟨rfl, rfl⟩
              go_wp2_with fail
              refine FI2.out.mono ?_
              rintro e w5 ⟨v5, rfl, hR5, hB5, -⟩
              obtain ⟨a5, c5, rfl⟩ := hR5.slice
              simp only [List.length_nil]
              have q5 := HQ4.out.old hB5
              have RT := Lib.hid (right_any _ _ _ _ _ w5 q5.hv q5.ref.good (by rw [← q5.ref.len]; have := q5.len; omega))
              have HQ5 := Lib.hid q5
              have hb5 := q5.b0
              clear hR5 hB5 q5
              go_wp2_with fail
              refine RT.out.mono ?_
              rintro e w6 ⟨rfl, hB6⟩
              go_wp2_with fail
              go_ret
              exact ⟨rfl, HQ5.out.below.trans (hB6.mono HQ5.out.below.size)⟩
            --]]three
end Go.Proofs.Ytkhphnidopbjjaa
