/- the document's numbers, quoted texts and values as texts, walked (foliotref03.digits, Number, Quote, Print). the document's values as texts, walked (foliotref03.Print). the document's labels, walked (foliotref12.target, Label). the document's lines of a program, walked (foliotref12.Text). AsmPrints, walked. -/
import Derived.Test.YtielnengimninaaGreatDoorV58
import Derived.Test.YtielnengimninaaGreatDoorV69
import Derived.Test.YtielnengimninaaGreatDoorV60
import Derived.Test.YtielnengimninaaGreatDoorV46
import Derived.Test.YtielnengimninaaGreatDoorV62
import Derived.Test.YtielnengimninaaGreatDoorV63
import Derived.Test.YtielnengimninaaGreatDoorV64
namespace Go.Proofs.YtielnengimninaaGreatDoor
open Go.RowKit Go.Own Go.Own.MapTy Go.Va Go.Sort
open Go.Own.Cells (sz enc)
def decB (n : Nat) : ByteArray := ⟨(Lib.decDigits n).toArray⟩
def DgRel (w : World) (n : Nat) (gk : Nat) (v0 v3 : Value) (wr : World) : Prop :=
  ∃ (m : Nat) (S : ByteArray), v0 = .int .u64 m ∧ v3 = .string S ∧ gk = m ∧ m < 18446744073709551616 ∧ Hid (Lib.decDigits n = (if m < 10 then [] else Lib.decDigits (m / 10)) ++ S.data.toList ∧ S.size ≤ 20 ∧ Below w.heap.size w wr)
theorem dec_step (m : Nat) (h : ¬ m < 10) : Lib.decDigits m = Lib.decDigits (m / 10) ++ [UInt8.ofNat (48 + m % 10)] := by rw [Lib.decDigits, dif_neg h]
theorem dec_one (m : Nat) (h : m < 10) : Lib.decDigits m = [UInt8.ofNat (48 + m % 10)] := by rw [Lib.decDigits, dif_pos h, Nat.mod_eq_of_lt h]
--[[digits
set_option maxRecDepth 100000 in
set_option maxHeartbeats 8000000 in
theorem digits_any (n : Nat) (hn : n < 18446744073709551616) (w : World) : Calls Tryz.prog 97 #[.int .u64 n] w fun e w' => e = .returned (.string (decB n)) ∧ Below w.heap.size w w' := by
  have HS := Lib.hid (show Lib.decDigits n = (if n < 10 then [] else Lib.decDigits (n / 10)) ++ [UInt8.ofNat (48 + n % 10)] from by
    split
    · rename_i h; rw [dec_one n h]; rfl
    · rename_i h; rw [dec_step n h])
  have HD := Lib.hid (show (Lib.decDigits n).length ≤ 20 from by rw [Lib.decDigits_length]; exact Lib.nDigits_le20 n hn)
  go_enter Tryz.func97, Tryz.ntmps97
  go_wp2_with fail
  go_loopg [0, 3] n (fun gk v0 v3 wr => DgRel w n gk v0 v3 wr)
  case atStart => exact ⟨n, _, rfl, rfl, rfl, hn, Lib.hid ⟨HS.out, by show 1 ≤ 20; decide, (Below.refl _ _).alloc (Nat.le_refl _) _⟩⟩
  case round =>
    obtain ⟨m, S, rfl, rfl, hgk, hm, HX⟩ := hrel
    have HG := Lib.hid hgk
    clear hgk
    have hSz := HX.out.2.1
    cases hc : decide ((10 : Int) ≤ m) with
    | true =>
      have hm10 : 10 ≤ m := by have := of_decide_eq_true hc; omega
      have hq : IntKind.u64.wrap ((m : Int) / 10) = ((m / 10 : Nat) : Int) := by simp [IntKind.wrap, IntKind.bits, IntKind.signed]; omega
      obtain ⟨q, hq2⟩ : ∃ q, q = m / 10 := ⟨_, rfl⟩
      rw [← hq2] at hq
      have hqm : q < m := by omega
      have HQ := Lib.hid hq2
      have hsum : ¬ 9223372036854775807 < 1 + S.size := by omega
      clear hq2
      --[[dr
      go_wp2_with fail
      go_roundg q
      case measure => rw [HG.out]; exact hqm
      case rel =>
        have h5 := HX.out.1
        rw [if_neg (by omega), ← HQ.out] at h5
        have h6 : Lib.decDigits q = (if q < 10 then [] else Lib.decDigits (q / 10)) ++ [UInt8.ofNat (48 + q % 10)] := by
          split
          · rename_i h; rw [dec_one q h]; rfl
          · rename_i h; rw [dec_step q h]
        rw [show UInt8.ofNat (48 + q % 10) = 48 + UInt8.ofNat (q % 10) by rw [UInt8.ofNat_add]; rfl] at h6
        generalize 48 + UInt8.ofNat (q % 10) = y at *
        have h7 : Lib.decDigits n = (if q < 10 then [] else Lib.decDigits (q / 10)) ++ ((⟨#[y]⟩ ++ S : ByteArray).data.toList) := by
          rw [h5, h6, ByteArray.data_append, Array.toList_append, List.append_assoc]
        refine ⟨q, _, rfl, rfl, rfl, by omega, Lib.hid ⟨h7, ?_, (HX.out.2.2).alloc HX.out.2.2.size _⟩⟩
        have h8 := congrArg List.length h7
        rw [List.length_append] at h8
        have h9 := HD.out
        have e : (⟨#[y]⟩ ++ S : ByteArray).data.toList.length = (⟨#[y]⟩ ++ S : ByteArray).size := Array.length_toList
        omega
      --]]dr
    | false =>
      have hm10 : m < 10 := by have := of_decide_eq_false hc; omega
      have h5 := HX.out.1
      rw [if_pos hm10, List.nil_append] at h5
      have HE := Lib.hid (show S = decB n from ByteArray.ext (by unfold decB; rw [h5]))
      clear h5
      --[[de
      go_wp2_with fail
      go_ret
      exact ⟨by rw [HE.out]; rfl, HX.out.2.2⟩
      --]]de
--]]digits
--[[number
set_option maxRecDepth 100000 in
set_option maxHeartbeats 8000000 in
theorem rnumber_any (n : Int) (h0 : -9223372036854775808 ≤ n) (h1 : n ≤ 9223372036854775807) (w : World) : Calls Tryz.prog 62 #[.int .i64 n] w fun e w' => e = .returned (.string (itoaB n)) ∧ Below w.heap.size w w' := by
  by_cases hn : n < 0
  · have hw : wrap64 (n + 1) = n + 1 := by unfold wrap64; omega
    have hw2 : wrap64 (-(n + 1)) = -(n + 1) := by unfold wrap64; omega
    have hc : IntKind.u64.wrap (-(n + 1)) = -(n + 1) := by simp [IntKind.wrap, IntKind.bits, IntKind.signed]; omega
    have hm : IntKind.u64.wrap (-(n + 1) + 1) = ((n.natAbs : Nat) : Int) := by simp [IntKind.wrap, IntKind.bits, IntKind.signed]; omega
    have DA := Lib.hid (fun W => digits_any n.natAbs (by omega) W)
    have HE := Lib.hid (show (⟨#[45]⟩ ++ decB n.natAbs : ByteArray) = itoaB n from by
      apply ByteArray.ext
      unfold decB itoaB Lib.itoa
      rw [if_pos hn, ByteArray.data_append]
      simp)
    have hz : (decB n.natAbs).size ≤ 20 := by
      show (Lib.decDigits n.natAbs).toArray.size ≤ 20
      rw [List.size_toArray, Lib.decDigits_length]
      exact Lib.nDigits_le20 _ (by omega)
    generalize n.natAbs = k at *
    generalize decB k = dk at *
    go_enter Tryz.func62, Tryz.ntmps62
    go_wp2_with fail
    refine (DA.out _).mono ?_
    rintro e w1 ⟨rfl, hB1⟩
    have H1 := Lib.hid hB1
    clear hB1
    go_wp2_with fail
    go_ret
    exact ⟨by rw [← HE.out]; rfl, H1.out⟩
  · obtain ⟨k, rfl⟩ : ∃ k : Nat, n = k := ⟨n.toNat, by omega⟩
    have hc : IntKind.u64.wrap (k : Int) = k := by simp [IntKind.wrap, IntKind.bits, IntKind.signed]; omega
    have DA := Lib.hid (fun W => digits_any k (by omega) W)
    have HE := Lib.hid (show decB k = itoaB (k : Int) from by
      unfold decB itoaB
      rw [Lib.itoa_nonneg])
    go_enter Tryz.func62, Tryz.ntmps62
    go_wp2_with fail
    refine (DA.out _).mono ?_
    rintro e w1 ⟨rfl, hB1⟩
    have H1 := Lib.hid hB1
    clear hB1
    go_wp2_with fail
    go_ret
    exact ⟨by rw [← HE.out]; rfl, H1.out⟩
--]]number
theorem one_at {s : ByteArray} {i : Nat} (h : i < s.size) : (s.extract i (i + 1)).data.toList = [s[i]] := by
  have e : (s.extract i (i + 1)).data.toList = (s.data.toList.drop i).take 1 := by simp [ByteArray.data_extract]
  rw [e, drop_at h]
  rfl
theorem hexT_fin : ∀ k : Fin 16, ((⟨#[48, 49, 50, 51, 52, 53, 54, 55, 56, 57, 97, 98, 99, 100, 101, 102]⟩ : ByteArray).extract k.1 (k.1 + 1)).data.toList = [hexD k.1] := by decide +kernel
theorem hexT_at {k : Nat} (h : k < 16) : ((⟨#[48, 49, 50, 51, 52, 53, 54, 55, 56, 57, 97, 98, 99, 100, 101, 102]⟩ : ByteArray).extract k (k + 1)).data.toList = [hexD k] := hexT_fin ⟨k, h⟩
theorem wrap16 (k : Nat) (hk : k < 16) : wrap64 (k : Int) = k ∧ wrap64 ((k : Int) + 1) = (k : Int) + 1 ∧ (k : Int) + 1 ≤ 16 := by
  unfold wrap64
  omega
theorem hexS_fin : ∀ k : Fin 16, ((⟨#[48, 49, 50, 51, 52, 53, 54, 55, 56, 57, 97, 98, 99, 100, 101, 102]⟩ : ByteArray).extract k.1 (k.1 + 1)).size = 1 := by decide +kernel
theorem hexS_at {k : Nat} (h : k < 16) : ((⟨#[48, 49, 50, 51, 52, 53, 54, 55, 56, 57, 97, 98, 99, 100, 101, 102]⟩ : ByteArray).extract k (k + 1)).size = 1 := hexS_fin ⟨k, h⟩
--[[quote
set_option maxRecDepth 100000 in
set_option maxHeartbeats 8000000 in
theorem rquote_any (s : ByteArray) (hs : s.size ≤ 1099511627776) (w : World) : Calls Tryz.prog 61 #[.string s] w fun e w' => e = .returned (.string (quoteB s)) ∧ Below w.heap.size w w' := by
  go_enter Tryz.func61, Tryz.ntmps61
  go_wp2_with fail
  go_loopg [5, 3] (s.size) (fun gk v5 v3 wr => ∃ (i : Nat) (S : ByteArray), v5 = .int .i64 i ∧ v3 = .string S ∧ i ≤ s.size ∧ gk = s.size - i ∧ S.size ≤ 4 * i ∧ Hid (S.data.toList = (s.data.toList.take i).flatMap escL ∧ Below w.heap.size w wr))
  case atStart => exact ⟨0, ⟨#[]⟩, rfl, rfl, Nat.zero_le _, rfl, Nat.zero_le _, Lib.hid ⟨by simp, Below.refl _ _⟩⟩
  case round =>
    obtain ⟨i, S, rfl, rfl, hi, hgk, hz, HX⟩ := hrel
    have HG := Lib.hid hgk
    clear hgk
    by_cases hin : i < s.size
    · have hin' : (i : Int) < s.size := by omega
      have hwi : wrap64 ((i : Int) + 1) = (i : Int) + 1 := by unfold wrap64; omega
      have hnext : (s.data.toList.take (i + 1)).flatMap escL = (s.data.toList.take i).flatMap escL ++ escL s[i] := by
        have e : s.data.toList.take (i + 1) = s.data.toList.take i ++ [s[i]] := by
          rw [List.take_add_one, List.getElem?_eq_getElem (by simpa using hin)]
          rfl
        rw [e, List.flatMap_append]
        simp
      have HN := Lib.hid (And.intro hnext (one_at hin))
      have hx : s[i].toNat < 256 := s[i].toNat_lt
      clear hnext
      --[[q0
      have fin : ∀ (S' : ByteArray) (W : World), S'.data.toList = S.data.toList ++ escL s[i] → S'.size ≤ S.size + 4 → Below w.heap.size w W → ∃ (j : Nat) (T : ByteArray), Value.int .i64 ((i : Int) + 1) = .int .i64 j ∧ Value.string S' = .string T ∧ j ≤ s.size ∧ s.size - (i + 1) = s.size - j ∧ T.size ≤ 4 * j ∧ Hid (T.data.toList = (s.data.toList.take j).flatMap escL ∧ Below w.heap.size w W) := by
        intro S' W h1 h2 h3
        refine ⟨i + 1, S', by simp, rfl, by omega, rfl, by omega, Lib.hid ⟨?_, h3⟩⟩
        rw [h1, HN.out.1, HX.out.1]
      have FIN := Lib.hid fin
      clear fin
      by_cases c1 : s[i].toNat = 34 ∨ s[i].toNat = 92
      · have hesc : escL s[i] = [92, s[i]] := by unfold escL; rw [if_pos c1]
        have HE := Lib.hid hesc
        have hsz : (s.extract i (i + 1)).size = 1 := by simp; omega
        have hlit : (⟨#[92]⟩ : ByteArray).size = 1 := rfl
        clear hesc
        have c1' : (((s[i].toNat : Nat) : Int) == 34) = true ∨ ((((s[i].toNat : Nat) : Int) == 34) = false ∧ (((s[i].toNat : Nat) : Int) == 92) = true) := by
          rcases c1 with h | h <;> rw [h]
          · exact .inl rfl
          · exact .inr ⟨rfl, rfl⟩
        clear c1
        --[[qa
        rcases c1' with c1' | ⟨c1', c2'⟩
        · go_wp2_with fail
          go_roundg (s.size - (i + 1))
          case measure => have := HG.out; omega
          case rel =>
            refine FIN.out _ _ ?_ ?_ HX.out.2
            · rw [ByteArray.data_append, ByteArray.data_append, Array.toList_append, Array.toList_append, HN.out.2, HE.out]; rfl
            · rw [ByteArray.size_append, ByteArray.size_append, hsz]; omega
        · go_wp2_with fail
          go_roundg (s.size - (i + 1))
          case measure => have := HG.out; omega
          case rel =>
            refine FIN.out _ _ ?_ ?_ HX.out.2
            · rw [ByteArray.data_append, ByteArray.data_append, Array.toList_append, Array.toList_append, HN.out.2, HE.out]; rfl
            · rw [ByteArray.size_append, ByteArray.size_append, hsz]; omega
        --]]qa
      · have n1 : (((s[i].toNat : Nat) : Int) == 34) = false := by rw [beq_eq_false_iff_ne]; omega
        have n2 : (((s[i].toNat : Nat) : Int) == 92) = false := by rw [beq_eq_false_iff_ne]; omega
        by_cases c2 : 32 ≤ s[i].toNat ∧ s[i].toNat < 127
        · have hesc : escL s[i] = [s[i]] := by unfold escL; rw [if_neg c1, if_neg (by omega)]
          have HE := Lib.hid hesc
          have hsz : (s.extract i (i + 1)).size = 1 := by simp; omega
          have d1 : decide ((32 : Int) ≤ ((s[i].toNat : Nat) : Int)) = true := decide_eq_true (by omega)
          have d2 : decide (((s[i].toNat : Nat) : Int) < 127) = true := decide_eq_true (by omega)
          have d3 : (32 : Int) ≤ ((s[i].toNat : Nat) : Int) := by omega
          have d4 : ((s[i].toNat : Nat) : Int) < 127 := by omega
          clear hesc c1 c2
          --[[qb
          go_wp2_with fail
          go_roundg (s.size - (i + 1))
          case measure => have := HG.out; omega
          case rel =>
            refine FIN.out _ _ ?_ ?_ HX.out.2
            · rw [ByteArray.data_append, Array.toList_append, HN.out.2, HE.out]
            · rw [ByteArray.size_append, hsz]; omega
          --]]qb
        · have hx := s[i].toNat_lt
          have hesc : escL s[i] = [92, 120, hexD (s[i].toNat / 16), hexD (s[i].toNat % 16)] := by unfold escL; rw [if_neg c1, if_pos (by omega)]
          have HE := Lib.hid hesc
          have c2' : decide ((32 : Int) ≤ ((s[i].toNat : Nat) : Int)) = false ∨ (decide ((32 : Int) ≤ ((s[i].toNat : Nat) : Int)) = true ∧ decide (((s[i].toNat : Nat) : Int) < 127) = false) := by
            by_cases h : 32 ≤ s[i].toNat
            · exact .inr ⟨decide_eq_true (by omega), decide_eq_false (by omega)⟩
            · exact .inl (decide_eq_false (by omega))
          clear hesc c1 c2
          have c2'' : (¬ (32 : Int) ≤ ((s[i].toNat : Nat) : Int)) ∨ ((32 : Int) ≤ ((s[i].toNat : Nat) : Int) ∧ ¬ ((s[i].toNat : Nat) : Int) < 127) := c2'.imp of_decide_eq_false (fun h => ⟨of_decide_eq_true h.1, of_decide_eq_false h.2⟩)
          clear c2'
          --[[qc
          rcases c2'' with c4 | ⟨c4, c5⟩
          ·
            go_wp2_with fail
            obtain ⟨x, hxe⟩ : ∃ x, x = s[i].toNat := ⟨_, rfl⟩
            rw [← hxe]
            rw [← hxe] at hx
            have HE2 := Lib.hid (show escL s[i] = [92, 120, hexD (x / 16), hexD (x % 16)] by rw [HE.out, hxe])
            clear hxe c4 n1 n2
            obtain ⟨xa, hxae⟩ : ∃ a, a = x / 16 := ⟨_, rfl⟩
            obtain ⟨xb, hxbe⟩ : ∃ a, a = x % 16 := ⟨_, rfl⟩
            have hxa : xa < 16 := by omega
            have hxb : xb < 16 := by omega
            rw [← hxae, ← hxbe] at HE2
            obtain ⟨wa, wa1, ga⟩ := wrap16 xa hxa
            have HWB := Lib.hid (wrap16 xb hxb)
            have ht : (x : Int).tmod 16 = (xb : Int) := by rw [hxbe]; rfl
            have hq : (x : Int).tdiv 16 = (xa : Int) := by rw [hxae]; rfl
            have hq2 : (x : Int) / 16 = (xa : Int) := by rw [hxae]; rfl
            have ht2 : (x : Int) % 16 = (xb : Int) := by rw [hxbe]; rfl
            have HH := Lib.hid (And.intro (hexT_at hxa) (hexT_at hxb))
            clear hxae hxbe
            obtain ⟨hex, hhex⟩ : ∃ h : ByteArray, h = ⟨#[48, 49, 50, 51, 52, 53, 54, 55, 56, 57, 97, 98, 99, 100, 101, 102]⟩ := ⟨_, rfl⟩
            rw [← hhex]
            have la : (hex.extract xa (xa + 1)).size = 1 := by rw [hhex]; exact hexS_at hxa
            have lb : (hex.extract xb (xb + 1)).size = 1 := by rw [hhex]; exact hexS_at hxb
            have l16 : hex.size = 16 := by rw [hhex]; rfl
            have l2 : (⟨#[92, 120]⟩ : ByteArray).size = 2 := rfl
            have HHX := Lib.hid hhex
            have HB := Lib.hid (And.intro hxa hxb)
            clear hhex hxa hxb
            refine wp_region_ext (by kernel_rfl) (by kernel_rfl) ?_
            have HT := Lib.hid (And.intro ht ht2)
            clear ht ht2
            go_big_quiet_step (fail)
            go_big_quiet_step (fail)
            go_big_quiet_step (fail)
            go_big_quiet_step (fail)
            go_big_quiet_step (fail)
            go_big_quiet_step (fail)
            go_big_quiet_step (fail)
            clear hq hq2
            go_big_quiet_step (fail)
            go_big_quiet_step (fail)
            go_big_quiet_step (fail)
            go_big_quiet_step (fail)
            clear wa wa1 ga
            have ht := HT.out.1
            go_big_quiet_step (fail)
            go_big_quiet_step (fail)
            go_big_quiet_step (fail)
            clear ht
            have wb1 := HWB.out.2.1
            have gb := HWB.out.2.2
            repeat (go_big_quiet_step (fail))
            refine wpQuiet_nil ?_
            intro w7 hB7
            have H7 := Lib.hid (HX.out.2.trans (hB7.mono HX.out.2.size))
            clear hB7 la lb l16 l2 wb1 gb hx
            obtain rfl := HHX.out
            go_wp2_with fail
            go_roundg (s.size - (i + 1))
            case measure => have := HG.out; omega
            case rel =>
              refine FIN.out _ _ ?_ ?_ H7.out
              · rw [ByteArray.data_append, ByteArray.data_append, ByteArray.data_append, Array.toList_append, Array.toList_append, Array.toList_append, HH.out.1, HH.out.2, HE2.out]; rfl
              · rw [ByteArray.size_append, ByteArray.size_append, ByteArray.size_append, hexS_at HB.out.1, hexS_at HB.out.2]; exact Nat.le_refl _
          ·
            go_wp2_with fail
            obtain ⟨x, hxe⟩ : ∃ x, x = s[i].toNat := ⟨_, rfl⟩
            rw [← hxe]
            rw [← hxe] at hx
            have HE2 := Lib.hid (show escL s[i] = [92, 120, hexD (x / 16), hexD (x % 16)] by rw [HE.out, hxe])
            clear hxe c4 c5 n1 n2
            obtain ⟨xa, hxae⟩ : ∃ a, a = x / 16 := ⟨_, rfl⟩
            obtain ⟨xb, hxbe⟩ : ∃ a, a = x % 16 := ⟨_, rfl⟩
            have hxa : xa < 16 := by omega
            have hxb : xb < 16 := by omega
            rw [← hxae, ← hxbe] at HE2
            obtain ⟨wa, wa1, ga⟩ := wrap16 xa hxa
            have HWB := Lib.hid (wrap16 xb hxb)
            have ht : (x : Int).tmod 16 = (xb : Int) := by rw [hxbe]; rfl
            have hq : (x : Int).tdiv 16 = (xa : Int) := by rw [hxae]; rfl
            have hq2 : (x : Int) / 16 = (xa : Int) := by rw [hxae]; rfl
            have ht2 : (x : Int) % 16 = (xb : Int) := by rw [hxbe]; rfl
            have HH := Lib.hid (And.intro (hexT_at hxa) (hexT_at hxb))
            clear hxae hxbe
            obtain ⟨hex, hhex⟩ : ∃ h : ByteArray, h = ⟨#[48, 49, 50, 51, 52, 53, 54, 55, 56, 57, 97, 98, 99, 100, 101, 102]⟩ := ⟨_, rfl⟩
            rw [← hhex]
            have la : (hex.extract xa (xa + 1)).size = 1 := by rw [hhex]; exact hexS_at hxa
            have lb : (hex.extract xb (xb + 1)).size = 1 := by rw [hhex]; exact hexS_at hxb
            have l16 : hex.size = 16 := by rw [hhex]; rfl
            have l2 : (⟨#[92, 120]⟩ : ByteArray).size = 2 := rfl
            have HHX := Lib.hid hhex
            have HB := Lib.hid (And.intro hxa hxb)
            clear hhex hxa hxb
            refine wp_region_ext (by kernel_rfl) (by kernel_rfl) ?_
            have HT := Lib.hid (And.intro ht ht2)
            clear ht ht2
            go_big_quiet_step (fail)
            go_big_quiet_step (fail)
            go_big_quiet_step (fail)
            go_big_quiet_step (fail)
            go_big_quiet_step (fail)
            go_big_quiet_step (fail)
            go_big_quiet_step (fail)
            clear hq hq2
            go_big_quiet_step (fail)
            go_big_quiet_step (fail)
            go_big_quiet_step (fail)
            go_big_quiet_step (fail)
            clear wa wa1 ga
            have ht := HT.out.1
            go_big_quiet_step (fail)
            go_big_quiet_step (fail)
            go_big_quiet_step (fail)
            clear ht
            have wb1 := HWB.out.2.1
            have gb := HWB.out.2.2
            repeat (go_big_quiet_step (fail))
            refine wpQuiet_nil ?_
            intro w7 hB7
            have H7 := Lib.hid (HX.out.2.trans (hB7.mono HX.out.2.size))
            clear hB7 la lb l16 l2 wb1 gb hx
            obtain rfl := HHX.out
            go_wp2_with fail
            go_roundg (s.size - (i + 1))
            case measure => have := HG.out; omega
            case rel =>
              refine FIN.out _ _ ?_ ?_ H7.out
              · rw [ByteArray.data_append, ByteArray.data_append, ByteArray.data_append, Array.toList_append, Array.toList_append, Array.toList_append, HH.out.1, HH.out.2, HE2.out]; rfl
              · rw [ByteArray.size_append, ByteArray.size_append, ByteArray.size_append, hexS_at HB.out.1, hexS_at HB.out.2]; exact Nat.le_refl _
          --]]qc
      --]]q0
    · obtain rfl : i = s.size := by omega
      have hii : ¬ (s.size : Int) < s.size := by omega
      have h5 := HX.out.1
      rw [List.take_of_length_le (by simp)] at h5
      have HE := Lib.hid (show ((⟨#[34]⟩ ++ S) ++ ⟨#[34]⟩ : ByteArray) = quoteB s from by
        apply ByteArray.ext
        unfold quoteB quoteL
        rw [ByteArray.data_append, ByteArray.data_append, ← h5]
        simp)
      clear h5
      --[[qe
      go_wp2_with fail
      go_ret
      exact ⟨by rw [← HE.out]; rfl, HX.out.2⟩
      --]]qe
--]]quote
end Go.Proofs.YtielnengimninaaGreatDoor
namespace Go.Proofs.YtielnengimninaaGreatDoor
open Go.RowKit Go.Own Go.Own.MapTy Go.Va Go.Sort
open Go.Own.Cells (sz enc)
def RPIH (n : Nat) : Prop := ∀ (x : Val), x.parts ≤ n → ∀ (ck cn : Int) (cs : ByteArray) (la : Option Addr) (ln lc : Nat) (F : Nat → Prop) (w : World), CF F w ⟨ck, cn, cs, la, ln, lc⟩ x → x.wf → szV x ≤ 1073741824 →
  Calls Tryz.prog 60 #[.agg #[.int .i64 ck, .int .i64 cn, .string cs, .slice la ln lc]] w fun e w' => e = .returned (.string (printV x)) ∧ Below w.heap.size w w'
--[[p0
set_option maxRecDepth 100000 in
set_option maxHeartbeats 8000000 in
theorem rprint_nil (x : Val)
    (ck cn : Int) (cs : ByteArray) (la : Option Addr) (ln lc : Nat) (F : Nat → Prop) (w : World) (C : CF F w ⟨ck, cn, cs, la, ln, lc⟩ x) (hw : x.wf) (hz : szV x ≤ 1073741824)
    (k1 : (ck == 1) = false) (k2 : (ck == 2) = false) (k3 : (ck == 3) = false) :
    Calls Tryz.prog 60 #[.agg #[.int .i64 ck, .int .i64 cn, .string cs, .slice la ln lc]] w fun e w' => e = .returned (.string (printV x)) ∧ Below w.heap.size w w'
    := by
  have hh := And.intro hw hz
  have h1 : ck = x.kind := C.kind
  have HB : Hid ((⟨#[110, 105, 108]⟩ : ByteArray) = printV x) := Lib.hid (by
    rw [printV_eq, ← h1, k1, k2, k3]
    rfl)
  clear C hw hz h1 hh
  go_enter Tryz.func60, Tryz.ntmps60
  go_wp2_with fail
  go_ret
  exact ⟨by rw [← HB.out]; rfl, (Below.refl _ _).alloc (Nat.le_refl _) _⟩
--]]p0
--[[p1
set_option maxRecDepth 100000 in
set_option maxHeartbeats 8000000 in
theorem rprint_int (x : Val)
    (ck cn : Int) (cs : ByteArray) (la : Option Addr) (ln lc : Nat) (F : Nat → Prop) (w : World) (C : CF F w ⟨ck, cn, cs, la, ln, lc⟩ x) (hw : x.wf) (hz : szV x ≤ 1073741824)
    (k1 : ck = 1) :
    Calls Tryz.prog 60 #[.agg #[.int .i64 ck, .int .i64 cn, .string cs, .slice la ln lc]] w fun e w' => e = .returned (.string (printV x)) ∧ Below w.heap.size w w'
    := by
  have hh := And.intro hw hz
  have h1 : ck = x.kind := C.kind
  have h2 : cn = x.num := C.n
  have hb := ((Val.wf_eq x).1 hw).2.1
  rw [← h2] at hb
  subst k1
  have HB : Hid (itoaB cn = printV x) := Lib.hid (by
    rw [printV_eq, ← h1, ← h2]
    rfl)
  have IA := Lib.hid (fun W => rnumber_any cn hb.1 hb.2 W)
  generalize itoaB cn = ns at *
  clear C hw hz h1 h2 hb hh
  go_enter Tryz.func60, Tryz.ntmps60
  go_wp2_with fail
  refine (IA.out _).mono ?_
  rintro e w5 ⟨rfl, hB5⟩
  have H5 := Lib.hid (((Below.refl w.heap.size w).alloc (Nat.le_refl _) (.cells #[.int .i64 1, .int .i64 cn, .string cs, .slice la ln lc] 63)).trans (hB5.mono (by simp)))
  clear hB5
  go_wp2_with fail
  go_ret
  exact ⟨by rw [← HB.out]; rfl, H5.out⟩
--]]p1
--[[p2
set_option maxRecDepth 100000 in
set_option maxHeartbeats 8000000 in
theorem rprint_text (x : Val)
    (ck cn : Int) (cs : ByteArray) (la : Option Addr) (ln lc : Nat) (F : Nat → Prop) (w : World) (C : CF F w ⟨ck, cn, cs, la, ln, lc⟩ x) (hw : x.wf) (hz : szV x ≤ 1073741824)
    (k2 : ck = 2) :
    Calls Tryz.prog 60 #[.agg #[.int .i64 ck, .int .i64 cn, .string cs, .slice la ln lc]] w fun e w' => e = .returned (.string (printV x)) ∧ Below w.heap.size w w'
    := by
  have hh := And.intro hw hz
  have h1 : ck = x.kind := C.kind
  have h3 : cs = x.txt := C.s
  subst k2
  have hcs : cs.size ≤ 1099511627776 := by
    rw [szV_eq, ← h1, ← h3] at hz
    have hz : 4 * cs.size + 30 ≤ 1073741824 := hz
    omega
  have HB : Hid (quoteB cs = printV x) := Lib.hid (by
    rw [printV_eq, ← h1, ← h3]
    rfl)
  have IA := Lib.hid (fun W => rquote_any cs hcs W)
  generalize quoteB cs = ns at *
  clear C hw hz h1 h3 hh
  go_enter Tryz.func60, Tryz.ntmps60
  go_wp2_with fail
  refine (IA.out _).mono ?_
  rintro e w5 ⟨rfl, hB5⟩
  have H5 := Lib.hid (((Below.refl w.heap.size w).alloc (Nat.le_refl _) (.cells #[.int .i64 2, .int .i64 cn, .string cs, .slice la ln lc] 63)).trans (hB5.mono (by simp)))
  clear hB5
  go_wp2_with fail
  go_ret
  exact ⟨by rw [← HB.out]; rfl, H5.out⟩
--]]p2
/-- what is not yet printed of a list, behind so many -/
def restP (l : List Val) (i : Nat) : List UInt8 := if i = 0 then bodyL l else sepL (l.drop i)
theorem restP_next {l : List Val} {i : Nat} {z : Val} (h : l.drop i = z :: l.drop (i + 1)) : restP l i = (if i = 0 then [] else [32]) ++ (prL z ++ restP l (i + 1)) := by
  unfold restP
  rw [if_neg (Nat.succ_ne_zero i)]
  by_cases hi : i = 0
  · subst hi
    rw [if_pos rfl, if_pos rfl]
    have e : l = z :: l.drop 1 := by simpa using h
    rw [e, bodyL]
    simp
  · rw [if_neg hi, if_neg hi, h]
    unfold sepL
    rw [List.flatMap_cons]
    simp
--[[p3
set_option maxRecDepth 100000 in
set_option maxHeartbeats 8000000 in
theorem rprint_list (n : Nat) (IH : RPIH n) (x : Val) (hx : x.parts ≤ n + 1)
    (ck cn : Int) (cs : ByteArray) (la : Option Addr) (ln lc : Nat) (F : Nat → Prop) (w : World) (C : CF F w ⟨ck, cn, cs, la, ln, lc⟩ x) (hw : x.wf) (hz : szV x ≤ 1073741824)
    (k3 : ck = 3) (g off : Nat) (E : ELs F w la ln x.list g off) :
    Calls Tryz.prog 60 #[.agg #[.int .i64 ck, .int .i64 cn, .string cs, .slice la ln lc]] w fun e w' => e = .returned (.string (printV x)) ∧ Below w.heap.size w w'
    := by
  have h1 : ck = x.kind := C.kind
  subst k3
  have hlm := E.max
  unfold maxLen at hlm
  have HE := Lib.hid E
  have HI := Lib.hid IH
  have HL := Lib.hid E.len
  have HW := Lib.hid (Val.wfL_iff.1 ((Val.wf_eq x).1 hw).2.2.2)
  have hsz := printV_size x hw
  have hbl : (bodyL x.list).length + 2 = (printV x).size := by
    have h5 := congrArg List.length (prL_list h1.symm)
    have h6 : (prL x).length = (printV x).size := by unfold prL; exact Array.length_toList
    rw [h6] at h5
    rw [h5]
    simp
  have hzl : szV.szL x.list ≤ 1073741824 := by
    rw [szV_eq, ← h1] at hz
    have hz : szV.szL x.list + 30 ≤ 1073741824 := hz
    omega
  have HZ := Lib.hid (And.intro (show (bodyL x.list).length ≤ 1073741824 by omega) (And.intro hzl (prL_list h1.symm)))
  clear C E IH hw hz h1 hsz hbl hzl
  go_enter Tryz.func60, Tryz.ntmps60
  go_wp2_with fail
  obtain ⟨w1, hw1⟩ : ∃ w1, w1 = w.alloc (.cells #[.int .i64 3, .int .i64 cn, .string cs, .slice la ln lc] 63) := ⟨_, rfl⟩
  have p3 : w1.heap[w.heap.size]? = some (.cells #[.int .i64 3, .int .i64 cn, .string cs, .slice la ln lc] 63 (0, 0)) := by rw [hw1]; exact heap_alloc_new _ _
  have B1 : Below w.heap.size w w1 := by rw [hw1]; exact (Below.refl _ _).alloc (Nat.le_refl _) _
  rw [← hw1]
  have H1 := Lib.hid (And.intro p3 B1)
  clear hw1 p3 B1
  go_loopg [4, 3] (x.list.length) (fun gk v4 v3 wr => ∃ (i : Nat) (S : ByteArray), v4 = .int .i64 i ∧ v3 = .string S ∧ i ≤ x.list.length ∧ gk = x.list.length - i ∧ Hid (S.data.toList ++ restP x.list i = bodyL x.list ∧ Below w1.heap.size w1 wr))
  case atStart => exact ⟨0, ⟨#[]⟩, rfl, rfl, Nat.zero_le _, rfl, Lib.hid ⟨rfl, Below.refl _ _⟩⟩
  case round =>
    obtain ⟨i, S, rfl, rfl, hi, hgk, HX⟩ := hrel
    have BW := H1.out.2.trans (HX.out.2.mono H1.out.2.size)
    have b3 := (HX.out.2.block _ (lt_of_heap H1.out.1)).trans H1.out.1
    have p3 : wr.cell? ⟨w.heap.size, 3, none⟩ = some (.slice la ln lc) := by rw [cell_of_heap b3]; rfl
    have s0 := lt_of_heap b3
    clear b3
    have hSz : S.data.toList.length + (restP x.list i).length ≤ 1073741824 := by
      have := congrArg List.length HX.out.1
      rw [List.length_append] at this
      have := HZ.out.1
      omega
    have hSs : S.data.toList.length = S.size := Array.length_toList
    by_cases hin : i < ln
    · obtain ⟨z, c', hzz, hla, hdr, hgl, hC, q0, q1, q2, q3⟩ := HE.out.get BW hin
      have hin' : (i : Int) < ln := by omega
      have hbs := HX.out.1
      rw [restP_next hdr] at hbs hSz
      rw [List.length_append, List.length_append] at hSz
      have hzm := List.mem_of_getElem? hzz
      have CA := Lib.hid (HI.out z (by have := Val.parts_lt (v := x) hzm; omega) c'.kind c'.n c'.s c'.la c'.ln c'.lc F wr hC (HW.out z hzm) (Nat.le_trans (szL_mem hzm) HZ.out.2.1))
      have hze : (prL z).length = (printV z).size := by unfold prL; exact Array.length_toList
      have hzs : (printV z).size ≤ 1073741824 := by omega
      have hSb : S.size ≤ 1073741824 := by omega
      have HH := Lib.hid (And.intro hbs (And.intro BW (And.intro hgk (And.intro (show (printV z).data.toList = prL z from rfl) (List.getElem?_eq_some_iff.1 hzz).1))))
      generalize printV z = bz at *
      subst hla
      clear hzz hC hdr hbs BW hgk hze hSz hSs hzm
      by_cases hi0 : i = 0
      · have hip : ¬ (0 : Int) < i := by omega
        have HI0 := Lib.hid hi0
        clear hi0
        --[[p31
        go_wp2_with fail
        refine CA.out.mono ?_
        rintro e w5 ⟨rfl, hB5⟩
        have H5 := Lib.hid hB5
        clear hB5
        go_wp2_with fail
        go_roundg (x.list.length - (i + 1))
        case measure => have := HH.out.2.2.1; have := HH.out.2.2.2.2; omega
        case rel =>
          refine ⟨i + 1, _, by simp, rfl, HH.out.2.2.2.2, rfl, Lib.hid ⟨?_, HX.out.2.trans (H5.out.mono HX.out.2.size)⟩⟩
          have hb := HH.out.1
          rw [if_pos HI0.out, List.nil_append, ← HH.out.2.2.2.1] at hb
          rw [ByteArray.data_append, Array.toList_append, List.append_assoc]
          exact hb
        --]]p31
      · have hip : (0 : Int) < i := by omega
        have zs : (⟨#[32]⟩ : ByteArray).size = 1 := rfl
        --[[p32
        go_wp2_with fail
        refine CA.out.mono ?_
        rintro e w5 ⟨rfl, hB5⟩
        have H5 := Lib.hid hB5
        clear hB5
        go_wp2_with fail
        go_roundg (x.list.length - (i + 1))
        case measure => have := HH.out.2.2.1; have := HH.out.2.2.2.2; omega
        case rel =>
          refine ⟨i + 1, _, by simp, rfl, HH.out.2.2.2.2, rfl, Lib.hid ⟨?_, HX.out.2.trans (H5.out.mono HX.out.2.size)⟩⟩
          have hb := HH.out.1
          rw [if_neg hi0, ← HH.out.2.2.2.1] at hb
          rw [ByteArray.data_append, ByteArray.data_append, Array.toList_append, Array.toList_append, List.append_assoc, List.append_assoc]
          exact hb
        --]]p32
    · obtain rfl : i = ln := by have := HL.out; omega
      have hbs := HX.out.1
      have hr0 : restP x.list i = [] := by
        unfold restP
        split
        · rename_i h0
          have : x.list = [] := List.eq_nil_of_length_eq_zero (by rw [← HL.out]; exact h0)
          rw [this]
          rfl
        · rw [List.drop_eq_nil_of_le (by have := HL.out; omega)]
          rfl
      rw [hr0, List.append_nil] at hbs
      have HH := Lib.hid (And.intro (show ((⟨#[91]⟩ ++ S) ++ ⟨#[93]⟩ : ByteArray) = printV x from by
        apply ByteArray.ext
        apply Array.toList_inj.1
        rw [ByteArray.data_append, ByteArray.data_append, Array.toList_append, Array.toList_append, hbs]
        exact HZ.out.2.2.symm) BW)
      have e3 : ¬ (i : Int) < i := by omega
      have hSb : S.size ≤ 1073741824 := by omega
      clear hbs BW hgk hSz hSs hr0
      --[[p33
      go_wp2_with fail
      go_ret
      exact ⟨by rw [← HH.out.1]; rfl, HH.out.2⟩
      --]]p33
--]]p3
theorem rprint_any : ∀ n, RPIH n
  | 0 => fun x h => by have := x.parts_pos; omega
  | n + 1 => fun x hx ck cn cs la ln lc F w C hw hz => by
    obtain ⟨g, off, E⟩ := C.l.els
    by_cases k1 : ck = 1
    · exact rprint_int x ck cn cs la ln lc F w C hw hz k1
    · by_cases k2 : ck = 2
      · exact rprint_text x ck cn cs la ln lc F w C hw hz k2
      · by_cases k3 : ck = 3
        · exact rprint_list n (rprint_any n) x hx ck cn cs la ln lc F w C hw hz k3 g off E
        · exact rprint_nil x ck cn cs la ln lc F w C hw hz (by simpa using k1) (by simpa using k2) (by simpa using k3)
end Go.Proofs.YtielnengimninaaGreatDoor
namespace Go.Proofs.YtielnengimninaaGreatDoor
open Go.RowKit Go.Own Go.Own.MapTy Go.Va Go.Sort
open Go.Own.Cells (sz enc)
/-- do others jump to an instruction? -/
def tgtL (code : List In) (a : Int) : Bool := code.any fun c => (ofL c.op).1.operand == 4 && c.a == a
theorem tgt_lab1 (code : List In) (a : Int) : (MapTy.get (lab1 [] code) a).isSome = tgtL code a := by
  rw [Bool.eq_iff_iff, get_lab1_some]
  unfold tgtL
  rw [List.any_eq_true]
  simp [MapTy.get]
/-- how many of so many instructions others jump to -/
def cntT (code : List In) : Nat → Nat → Nat
  | _, 0 => 0
  | i, k + 1 => (bif tgtL code (i : Int) then 1 else 0) + cntT code (i + 1) k
theorem cntT_last (code : List In) : ∀ (k i : Nat), cntT code i (k + 1) = cntT code i k + (bif tgtL code ((i + k : Nat) : Int) then 1 else 0)
  | 0, i => by rw [cntT, cntT, cntT]; simp
  | k + 1, i => by
    rw [cntT, cntT_last code k (i + 1), cntT]
    rw [show i + 1 + k = i + (k + 1) by omega]
    omega
theorem cntT_le (code : List In) : ∀ (k i : Nat), cntT code i k ≤ k
  | 0, i => Nat.le_refl _
  | k + 1, i => by
    have := cntT_le code k (i + 1)
    rw [cntT]
    cases tgtL code (i : Int) <;> simp <;> omega
theorem lab2_same : ∀ (f i n : Nat) (m : List (Int × ByteArray)) (x : Nat), (x < i ∨ i + f ≤ x) → MapTy.get (lab2 m i n f) (x : Int) = MapTy.get m (x : Int) := fun f i n m x h => by
  obtain ⟨g, g1, _⟩ := lab2_names f i n m
  exact g1 x h
theorem lab2_exact (code : List In) : ∀ (f i n : Nat) (m : List (Int × ByteArray)) (x : Nat), (∀ y : Nat, i ≤ y → (MapTy.get m (y : Int)).isSome = tgtL code (y : Int)) → i ≤ x → x < i + f →
    MapTy.get (lab2 m i n f) (x : Int) = if tgtL code (x : Int) = true then some (labName (n + cntT code i (x + 1 - i))) else none
  | 0, i, n, m, x, _, h1, h2 => by omega
  | f + 1, i, n, m, x, hm, h1, h2 => by
    have hi := hm i (Nat.le_refl _)
    cases ht : tgtL code (i : Int) with
    | false =>
      have e : lab2 m i n (f + 1) = lab2 m (i + 1) n f := by rw [lab2, hi, ht]; rfl
      rw [e]
      by_cases hx : x = i
      · subst hx
        rw [lab2_same _ _ _ _ _ (.inl (by omega)), ht, if_neg (by simp)]
        rw [ht] at hi
        cases hg : MapTy.get m (x : Int) with
        | none => rfl
        | some s => rw [hg] at hi; cases hi
      · rw [lab2_exact code f (i + 1) n m x (fun y hy => hm y (by omega)) (by omega) (by omega)]
        rw [show x + 1 - i = (x + 1 - (i + 1)) + 1 by omega, cntT, ht]
        simp
    | true =>
      have e : lab2 m i n (f + 1) = lab2 (upd m (i : Int) (labName (n + 1))) (i + 1) (n + 1) f := by rw [lab2, hi, ht]; rfl
      rw [e]
      by_cases hx : x = i
      · subst hx
        rw [lab2_same _ _ _ _ _ (.inl (by omega)), get_upd, if_pos rfl, ht, if_pos rfl]
        rw [show x + 1 - x = 0 + 1 by omega, cntT, cntT, ht]
        rfl
      · rw [lab2_exact code f (i + 1) (n + 1) _ x (fun y hy => by rw [get_upd, if_neg (by omega)]; exact hm y (by omega)) (by omega) (by omega)]
        rw [show x + 1 - i = (x + 1 - (i + 1)) + 1 by omega, cntT, ht]
        simp only [cond_true]
        rw [show n + 1 + cntT code (i + 1) (x + 1 - (i + 1)) = n + (1 + cntT code (i + 1) (x + 1 - (i + 1))) by omega]
/-- the label of an instruction -/
theorem labs_exact {code : List In} {x : Nat} (h : x < code.length) : MapTy.get (labsL code) (x : Int) = if tgtL code (x : Int) = true then some (labName (cntT code 0 (x + 1))) else none := by
  unfold labsL
  rw [lab2_exact code code.length 0 0 (lab1 [] code) x (fun y _ => tgt_lab1 code y) (by omega) (by omega)]
  rw [Nat.zero_add, Nat.sub_zero]
--[[target
set_option maxRecDepth 100000 in
set_option maxHeartbeats 8000000 in
theorem target_any (F : Nat → Prop) (w : World) (i : IC) (p : Img) (H : IAt F w i p) (h0 : imgL p = 0) (a : Int) :
    Calls Tryz.prog 57 #[.agg #[.slice i.ca i.cn i.cc, .slice i.ka i.kn i.kc, .slice i.na i.nn i.nc, .int .i64 i.pl], .int .i64 a] w fun e w' => e = .returned (.bool (tgtL p.code a)) ∧ Below w.heap.size w w' := by
  have b1 := (imgL_ok h0).2.1
  have l1 := H.lens.1
  have hAt := fun (c : In) (hc : c ∈ p.code) => (at_ok h0 hc).1
  have HI := Lib.hid (And.intro H hAt)
  obtain ⟨ca, cn, cc, ka, kn, kc, na, nn, nc, pl⟩ := i
  dsimp only at l1
  have HL := Lib.hid l1
  rw [← l1] at b1
  clear H hAt l1 h0
  dsimp only
  go_enter Tryz.func57, Tryz.ntmps57
  go_wp2_with fail
  obtain ⟨w0, hw0⟩ : ∃ w0, w0 = w.alloc (.cells #[.slice ca cn cc, .slice ka kn kc, .slice na nn nc, .int .i64 pl] 26) := ⟨_, rfl⟩
  have B0 : Below w.heap.size w w0 := by rw [hw0]; exact (Below.refl _ _).alloc (Nat.le_refl _) _
  have X0 : BoxI w0 w.heap.size ⟨ca, cn, cc, ka, kn, kc, na, nn, nc, pl⟩ := by rw [hw0]; exact boxI_new w ⟨ca, cn, cc, ka, kn, kc, na, nn, nc, pl⟩
  rw [← hw0]
  have H0 := Lib.hid (And.intro B0 X0)
  clear hw0 B0 X0
  go_loopg [5] (p.code.length) (fun gk v5 wr => ∃ k : Nat, v5 = .int .i64 k ∧ k ≤ p.code.length ∧ gk = p.code.length - k ∧ Hid (tgtL (p.code.drop k) a = tgtL p.code a ∧ Below w0.heap.size w0 wr))
  case atStart => exact ⟨0, rfl, Nat.zero_le _, rfl, Lib.hid ⟨rfl, Below.refl _ _⟩⟩
  case round =>
    obtain ⟨k, rfl, hk, hgk, HX⟩ := hrel
    have XB := H0.out.2.below HX.out.2
    have k0 := XB.c0
    have lx := XB.lt
    dsimp only at k0
    have BW := H0.out.1.trans (HX.out.2.mono H0.out.1.size)
    clear XB
    by_cases hin : k < cn
    · obtain ⟨⟨op, av⟩, hx⟩ := elem_at (l := p.code) (k := k) (by have := HL.out; omega)
      obtain ⟨g, off, rfl, _, _, hg, m0, m1⟩ := HI.out.1.code_at BW hx
      dsimp only at m0 m1
      have hin' : (k : Int) < cn := by omega
      have hyes := ok_range.1 (HI.out.2 _ (mem_of_get hx))
      have OP := Lib.hid (fun W => operand_any op hyes.1 hyes.2 W)
      have htd := HX.out.1
      unfold tgtL at htd
      rw [drop_get hx, List.any_cons] at htd
      have HT := Lib.hid (And.intro htd (And.intro hgk (And.intro (lt_of_get hx) BW)))
      have hbd := operand_bd6 op
      have hoc : (opC (ofL op).1.operand == 116) = ((ofL op).1.operand == 4) := by
        rcases hbd with e | e | e | e | e | e <;> rw [e] <;> rfl
      generalize opC (ofL op).1.operand = oc at *
      generalize (ofL op).1.operand = kd at *
      clear hx hyes htd hgk BW hbd
      cases hc : (kd == 4) with
      | false =>
        rw [hc] at hoc
        --[[t0
        go_wp2_with fail
        refine (OP.out _).mono ?_
        rintro e w7 ⟨rfl, hB7⟩
        have H7 := Lib.hid (HX.out.2.trans (hB7.mono HX.out.2.size))
        clear hB7
        go_wp2_with fail
        go_roundg (p.code.length - (k + 1))
        case measure => have := HT.out.2.1; have := HT.out.2.2.1; omega
        case rel =>
          refine ⟨k + 1, by simp, HT.out.2.2.1, rfl, Lib.hid ⟨?_, H7.out⟩⟩
          have h := HT.out.1
          rw [hc, Bool.false_and, Bool.false_or] at h
          exact h
        --]]t0
      | true =>
        rw [hc] at hoc
        cases ha : (av == a) with
        | false =>
          --[[t1
          go_wp2_with fail
          refine (OP.out _).mono ?_
          rintro e w7 ⟨rfl, hB7⟩
          have XB := H0.out.2.below (HX.out.2.trans (hB7.mono HX.out.2.size))
          have k0 := XB.c0
          have lx := XB.lt
          dsimp only at k0
          have m1 := (hB7.cell (p := ⟨g, _, none⟩) hg).trans m1
          have hg7 := Nat.lt_of_lt_of_le hg hB7.size
          have H7 := Lib.hid (HX.out.2.trans (hB7.mono HX.out.2.size))
          clear hB7 XB
          go_wp2_with fail
          go_roundg (p.code.length - (k + 1))
          case measure => have := HT.out.2.1; have := HT.out.2.2.1; omega
          case rel =>
            refine ⟨k + 1, by simp, HT.out.2.2.1, rfl, Lib.hid ⟨?_, H7.out⟩⟩
            have h := HT.out.1
            rw [hc, ha, Bool.true_and, Bool.false_or] at h
            exact h
          --]]t1
        | true =>
          --[[t2
          go_wp2_with fail
          refine (OP.out _).mono ?_
          rintro e w7 ⟨rfl, hB7⟩
          have XB := H0.out.2.below (HX.out.2.trans (hB7.mono HX.out.2.size))
          have k0 := XB.c0
          have lx := XB.lt
          dsimp only at k0
          have m1 := (hB7.cell (p := ⟨g, _, none⟩) hg).trans m1
          have hg7 := Nat.lt_of_lt_of_le hg hB7.size
          have H7 := Lib.hid (HT.out.2.2.2.trans (hB7.mono HT.out.2.2.2.size))
          clear hB7 XB
          go_wp2_with fail
          go_ret
          refine ⟨?_, H7.out⟩
          have h := HT.out.1
          rw [hc, ha, Bool.true_and, Bool.true_or] at h
          have h2 : tgtL p.code a = true := h.symm
          rw [h2]
          rfl
          --]]t2
    · obtain rfl : k = cn := by have := HL.out; omega
      have e3 : ¬ (k : Int) < k := by omega
      have htd := HX.out.1
      rw [List.drop_eq_nil_of_le (by have := HL.out; omega)] at htd
      have HB := Lib.hid (And.intro htd BW)
      clear htd BW hgk
      --[[t3
      go_wp2_with fail
      go_ret
      refine ⟨?_, HB.out.2⟩
      rw [← HB.out.1]
      rfl
      --]]t3
--]]target
--[[label
set_option maxRecDepth 100000 in
set_option maxHeartbeats 8000000 in
theorem label12_any (F : Nat → Prop) (w : World) (i : IC) (p : Img) (H : IAt F w i p) (h0 : imgL p = 0) (a : Nat) (ha : a < p.code.length) :
    Calls Tryz.prog 58 #[.agg #[.slice i.ca i.cn i.cc, .slice i.ka i.kn i.kc, .slice i.na i.nn i.nc, .int .i64 i.pl], .int .i64 a] w fun e w' => e = .returned (.string (labName (cntT p.code 0 (a + 1)))) ∧ Below w.heap.size w w' := by
  have b1 := (imgL_ok h0).2.1
  have TA := Lib.hid (fun W (K : Below w.heap.size w W) (b : Int) => target_any F W i p (H.below K) h0 b)
  have ha5 : a < 512 := by omega
  have HN : Hid (∀ k, k ≤ 1000 → ∀ W, Calls Tryz.prog 62 #[.int .i64 (k : Nat)] W fun e w' => e = .returned (.string (itoaB (k : Nat))) ∧ Below W.heap.size W w') := Lib.hid (fun k hk W => rnumber_any (k : Nat) (by omega) (by omega) W)
  obtain ⟨ca, cn, cc, ka, kn, kc, na, nn, nc, pl⟩ := i
  dsimp only at TA
  generalize p.code = code at *
  clear H h0 b1 ha
  dsimp only
  go_enter Tryz.func58, Tryz.ntmps58
  go_wp2_with fail
  obtain ⟨w0, hw0⟩ : ∃ w0, w0 = w.alloc (.cells #[.slice ca cn cc, .slice ka kn kc, .slice na nn nc, .int .i64 pl] 26) := ⟨_, rfl⟩
  have B0 : Below w.heap.size w w0 := by rw [hw0]; exact (Below.refl _ _).alloc (Nat.le_refl _) _
  have X0 : BoxI w0 w.heap.size ⟨ca, cn, cc, ka, kn, kc, na, nn, nc, pl⟩ := by rw [hw0]; exact boxI_new w ⟨ca, cn, cc, ka, kn, kc, na, nn, nc, pl⟩
  rw [← hw0]
  have H0 := Lib.hid (And.intro B0 X0)
  clear hw0 B0 X0
  go_loopg [6, 5] (a + 1) (fun gk v6 v5 wr => ∃ k n : Nat, v6 = .int .i64 k ∧ v5 = .int .i64 n ∧ k ≤ a + 1 ∧ gk = a + 1 - k ∧ n ≤ k ∧ Hid (n = cntT code 0 k ∧ Below w0.heap.size w0 wr))
  case atStart => exact ⟨0, 0, rfl, rfl, Nat.zero_le _, rfl, Nat.le_refl _, Lib.hid ⟨rfl, Below.refl _ _⟩⟩
  case round =>
    obtain ⟨k, n, rfl, rfl, hk, hgk, hn, HX⟩ := hrel
    have XB := H0.out.2.below HX.out.2
    have k0 := XB.c0
    have k1 := XB.c1
    have k2 := XB.c2
    have k3 := XB.c3
    have lx := XB.lt
    dsimp only at k0 k1 k2 k3
    have BW := Lib.hid (H0.out.1.trans (HX.out.2.mono H0.out.1.size))
    have HG := Lib.hid hgk
    clear XB hgk
    by_cases hka : k ≤ a
    · have hka' : (k : Int) ≤ a := by omega
      have CA := Lib.hid (TA.out wr BW.out k)
      have hnx := cntT_last code k 0
      rw [Nat.zero_add] at hnx
      cases ht : tgtL code (k : Int) with
      | true =>
        rw [ht] at CA hnx
        have HN2 := Lib.hid hnx
        clear hnx ht
        --[[l1
        go_wp2_with fail
        refine CA.out.mono ?_
        rintro e w7 ⟨rfl, hB7⟩
        have H7 := Lib.hid (HX.out.2.trans (hB7.mono HX.out.2.size))
        clear hB7
        go_wp2_with fail
        go_roundg (a + 1 - (k + 1))
        case measure => have := HG.out; omega
        case rel => exact ⟨k + 1, n + 1, by simp, by simp, by omega, rfl, by omega, Lib.hid ⟨by rw [HN2.out, ← HX.out.1]; rfl, H7.out⟩⟩
        --]]l1
      | false =>
        rw [ht] at CA hnx
        have HN2 := Lib.hid hnx
        clear hnx ht
        --[[l2
        go_wp2_with fail
        refine CA.out.mono ?_
        rintro e w7 ⟨rfl, hB7⟩
        have H7 := Lib.hid (HX.out.2.trans (hB7.mono HX.out.2.size))
        clear hB7
        go_wp2_with fail
        go_roundg (a + 1 - (k + 1))
        case measure => have := HG.out; omega
        case rel => exact ⟨k + 1, n, by simp, rfl, by omega, rfl, by omega, Lib.hid ⟨by rw [HN2.out, ← HX.out.1]; rfl, H7.out⟩⟩
        --]]l2
    · obtain rfl : k = a + 1 := by omega
      have hno : ¬ ((a + 1 : Nat) : Int) ≤ a := by omega
      have hno2 : ¬ ((a : Int) + 1) ≤ a := by omega
      have CA := Lib.hid (HN.out n (by omega) wr)
      have HE := Lib.hid (show (⟨#[108]⟩ ++ itoaB (n : Int) : ByteArray) = labName (cntT code 0 (a + 1)) by rw [← HX.out.1]; rfl)
      have hz : (itoaB (n : Int)).size ≤ 21 := itoaB_size (by omega) (by omega)
      have zs : (⟨#[108]⟩ : ByteArray).size = 1 := rfl
      generalize itoaB (n : Int) = ns at *
      --[[l3
      go_wp2_with fail
      refine CA.out.mono ?_
      rintro e w7 ⟨rfl, hB7⟩
      have H7 := Lib.hid (BW.out.trans (hB7.mono BW.out.size))
      clear hB7
      go_wp2_with fail
      go_ret
      exact ⟨by rw [← HE.out]; rfl, H7.out⟩
      --]]l3
--]]label
end Go.Proofs.YtielnengimninaaGreatDoor
namespace Go.Proofs.YtielnengimninaaGreatDoor
open Go.RowKit Go.Own Go.Own.MapTy Go.Va Go.Sort
open Go.Own.Cells (sz enc)
def textP (p : Img) : ByteArray := ⟨(codeP p (labsL p.code) 0 p.code).toArray⟩
theorem asmP_text {p : Img} (h : imgL p = 0) : asmP p = (textP p, 0) := by
  unfold asmP
  rw [h]
  rfl
/-- what is printed so far -/
structure TxF (p : Img) (k : Nat) (S : ByteArray) : Prop where
  e : S.data.toList ++ codeP p (labsL p.code) k (p.code.drop k) = codeP p (labsL p.code) 0 p.code
theorem TxF.next {p : Img} {k : Nat} {S S1 S2 : ByteArray} {c : In} (h : TxF p k S) (hx : p.code[k]? = some c) (h1 : S1.data.toList = S.data.toList ++ headP (labsL p.code) k) (h2 : S2.data.toList = S1.data.toList ++ ((⟨#[32, 32]⟩ ++ (ofL c.op).1.name : ByteArray).data.toList ++ (argP p (labsL p.code) (ofL c.op).1.operand c.a.toNat ++ [10]))) : TxF p (k + 1) S2 := by
  have he := h.e
  rw [drop_get hx, codeP, lineP] at he
  refine ⟨?_⟩
  rw [h2, h1, ← he]
  simp only [List.append_assoc]
theorem app_list (a b : ByteArray) : (a ++ b).data.toList = a.data.toList ++ b.data.toList := by rw [ByteArray.data_append, Array.toList_append]
--[[walk
set_option maxRecDepth 100000 in
set_option maxHeartbeats 8000000 in
theorem text12_any (F : Nat → Prop) (w : World) (i : IC) (p : Img) (H : IAt F w i p) (h0 : imgL p = 0) (hw : ∀ x ∈ p.consts, x.wf) :
    Calls Tryz.prog 26 #[.agg #[.slice i.ca i.cn i.cc, .slice i.ka i.kn i.kc, .slice i.na i.nn i.nc, .int .i64 i.pl]] w fun e w' => e = .returned (.string (textP p)) ∧ Below w.heap.size w w' := by
  have b1 := (imgL_ok h0).2.1
  have b2 := (imgL_ok h0).2.2.1
  have b3 := (imgL_ok h0).2.2.2.1
  have b5 := (imgL_ok h0).2.2.2.2.2.1
  obtain ⟨l1, l2, l3⟩ := H.lens
  have hAt := fun (c : In) (hc : c ∈ p.code) => at_ok h0 hc
  have hnm := fun (x : ByteArray) (hx : x ∈ p.names) => names_ok (imgL_ok h0).2.2.2.2.2.2.2.1 x hx
  have hck := fun (x : Val) (hx : x ∈ p.consts) => const_sz h0 x hx
  have TA := Lib.hid (fun W (K : Below w.heap.size w W) (b : Int) => target_any F W i p (H.below K) h0 b)
  have LA := Lib.hid (fun W (K : Below w.heap.size w W) (b : Nat) (hb : b < p.code.length) => label12_any F W i p (H.below K) h0 b hb)
  have HI := Lib.hid (And.intro H (And.intro hAt (And.intro hw (And.intro hck (And.intro hnm b5)))))
  obtain ⟨ca, cn, cc, ka, kn, kc, na, nn, nc, pl⟩ := i
  dsimp only at l1 l2 l3 TA LA
  have HL := Lib.hid (And.intro l1 (And.intro l2 l3))
  rw [← l1] at b1
  rw [← l2] at b2
  rw [← l3] at b3
  clear H hAt hw l1 l2 l3 h0 hck hnm b5
  dsimp only
  go_enter Tryz.func26, Tryz.ntmps26
  go_wp2_with fail
  obtain ⟨w0, hw0⟩ : ∃ w0, w0 = w.alloc (.cells #[.slice ca cn cc, .slice ka kn kc, .slice na nn nc, .int .i64 pl] 26) := ⟨_, rfl⟩
  have B0 : Below w.heap.size w w0 := by rw [hw0]; exact (Below.refl _ _).alloc (Nat.le_refl _) _
  have X0 : BoxI w0 w.heap.size ⟨ca, cn, cc, ka, kn, kc, na, nn, nc, pl⟩ := by rw [hw0]; exact boxI_new w ⟨ca, cn, cc, ka, kn, kc, na, nn, nc, pl⟩
  rw [← hw0]
  have H0 := Lib.hid (And.intro B0 X0)
  clear hw0 B0 X0
  go_loopg [4, 3] (p.code.length) (fun gk v4 v3 wr => ∃ (k : Nat) (S : ByteArray), v4 = .int .i64 k ∧ v3 = .string S ∧ k ≤ p.code.length ∧ gk = p.code.length - k ∧ S.size ≤ 20200 * k ∧ Hid (TxF p k S ∧ Below w0.heap.size w0 wr))
  case atStart => exact ⟨0, ⟨#[]⟩, rfl, rfl, Nat.zero_le _, rfl, Nat.zero_le _, Lib.hid ⟨⟨rfl⟩, Below.refl _ _⟩⟩
  case round =>
    obtain ⟨k, S, rfl, rfl, hk, hgk, hz, HX⟩ := hrel
    have XB := H0.out.2.below HX.out.2
    have k0 := XB.c0
    have k1 := XB.c1
    have k2 := XB.c2
    have k3 := XB.c3
    have lx := XB.lt
    dsimp only at k0 k1 k2 k3
    have BW := Lib.hid (H0.out.1.trans (HX.out.2.mono H0.out.1.size))
    have HG := Lib.hid hgk
    clear XB hgk
    by_cases hin : k < cn
    · obtain ⟨⟨op, av⟩, hx⟩ := elem_at (l := p.code) (k := k) (by have := HL.out.1; omega)
      have hin' : (k : Int) < cn := by omega
      obtain ⟨ok, a0, aC, aN, aP, aT, aK, aO⟩ := HI.out.2.1 _ (mem_of_get hx)
      dsimp only at ok a0 aC aN aP aT aK aO
      have hkl := lt_of_get hx
      have hlab := labs_exact hkl
      have HQ := Lib.hid (And.intro hx (And.intro (And.intro aC (And.intro aN (And.intro aP (And.intro aT (And.intro aK aO))))) (Nat.succ_le_of_lt hkl)))
      have HO := Lib.hid (And.intro ok a0)
      clear ok a0 aC aN aP aT aK aO
      --[[main
      have CA := Lib.hid (TA.out wr BW.out k)
      generalize htg : tgtL p.code (k : Int) = tg at *
      go_wp2_with fail
      refine CA.out.mono ?_
      rintro e w5 ⟨rfl, hB5⟩
      have XB := H0.out.2.below (HX.out.2.trans (hB5.mono HX.out.2.size))
      have k0 := XB.c0
      have k1 := XB.c1
      have k2 := XB.c2
      have k3 := XB.c3
      have lx := XB.lt
      dsimp only at k0 k1 k2 k3
      have H5 := Lib.hid (And.intro (BW.out.trans (hB5.mono BW.out.size)) (HX.out.2.trans (hB5.mono HX.out.2.size)))
      clear hB5 XB CA
      have HTG := Lib.hid hlab
      clear hlab htg hx
      go_upto_if 15 with (fail)
      go_cut [3] (fun v3 wx => ∃ S1 : ByteArray, v3 = .string S1 ∧ S1.size ≤ S.size + 24 ∧ Hid (S1.data.toList = S.data.toList ++ headP (labsL p.code) k ∧ Below w5.heap.size w5 wx))
      case first =>
        cases tg with
        | true =>
          have hlab := HTG.out
          rw [if_pos rfl] at hlab
          have LB := Lib.hid (LA.out w5 H5.out.1 k hkl)
          have hls := lab_size (code := p.code) (by have := HL.out.1; omega) hlab
          have HH := Lib.hid (show headP (labsL p.code) k = (labName (cntT p.code 0 (k + 1)) ++ ⟨#[58, 10]⟩ : ByteArray).data.toList by unfold headP; rw [hlab])
          generalize labName (cntT p.code 0 (k + 1)) = lb at *
          have z2 : (⟨#[58, 10]⟩ : ByteArray).size = 2 := rfl
          clear hlab
          --[[h1
          go_wp2_with fail
          refine LB.out.mono ?_
          rintro e w6 ⟨rfl, hB6⟩
          have H6 := Lib.hid hB6
          clear hB6
          go_wp2_with fail
          go_meet
          case rel =>
            refine ⟨_, rfl, ?_, Lib.hid ⟨?_, H6.out⟩⟩
            · rw [ByteArray.size_append, ByteArray.size_append, z2]; omega
            · rw [app_list, HH.out]
          --]]h1
        | false =>
          have hlab := HTG.out
          rw [if_neg (by simp)] at hlab
          have HH := Lib.hid (show headP (labsL p.code) k = [] by unfold headP; rw [hlab])
          clear hlab
          --[[h2
          go_wp2_with fail
          go_meet
          case rel => exact ⟨S, rfl, Nat.le_add_right _ _, Lib.hid ⟨by rw [HH.out, List.append_nil], Below.refl _ _⟩⟩
          --]]h2
      case rest =>
        --[[rst
        obtain ⟨S1, rfl, hz1, HC⟩ := hcut
        obtain ⟨w6, rfl⟩ : ∃ w6 : World, w6 = wc := ⟨_, rfl⟩
        have BW6 := Lib.hid (And.intro (H5.out.1.trans (HC.out.2.mono H5.out.1.size)) (H5.out.2.trans (HC.out.2.mono H5.out.2.size)))
        have XB := H0.out.2.below BW6.out.2
        have k0 := XB.c0
        have k1 := XB.c1
        have k2 := XB.c2
        have k3 := XB.c3
        have lx := XB.lt
        dsimp only at k0 k1 k2 k3
        obtain ⟨g, off, rfl, _, _, hg, m0, m1⟩ := HI.out.1.code_at BW6.out.1 HQ.out.1
        dsimp only at m0 m1
        have hyes := ok_range.1 HO.out.1
        have NA := Lib.hid (fun W => opname_any op hyes.1 hyes.2 W)
        have OP := Lib.hid (fun W => operand_any op hyes.1 hyes.2 W)
        have hns := name_size op
        have hbd := operand_bd6 op
        have HS1 := Lib.hid HC.out.1
        have hargs : ∀ (nm A : ByteArray) (AL : List UInt8), nm = (ofL op).1.name → argP p (labsL p.code) (ofL op).1.operand av.toNat = AL → A.data.toList = AL → (((S1 ++ (⟨#[32, 32]⟩ ++ nm)) ++ A) ++ ⟨#[10]⟩ : ByteArray).data.toList = S1.data.toList ++ ((⟨#[32, 32]⟩ ++ (ofL op).1.name : ByteArray).data.toList ++ (argP p (labsL p.code) (ofL op).1.operand av.toNat ++ [10])) := by
          intro nm A AL h1 h2 h3
          rw [app_list, app_list, app_list, h3, h1, h2, List.append_assoc, List.append_assoc]
        have hargs0 : ∀ (nm : ByteArray), nm = (ofL op).1.name → argP p (labsL p.code) (ofL op).1.operand av.toNat = [] → ((S1 ++ (⟨#[32, 32]⟩ ++ nm)) ++ ⟨#[10]⟩ : ByteArray).data.toList = S1.data.toList ++ ((⟨#[32, 32]⟩ ++ (ofL op).1.name : ByteArray).data.toList ++ (argP p (labsL p.code) (ofL op).1.operand av.toNat ++ [10])) := by
          intro nm h1 h2
          rw [app_list, app_list, h1, h2, List.append_assoc]
          rfl
        have HAR := Lib.hid (And.intro hargs hargs0)
        obtain ⟨nm, hnm⟩ : ∃ nm, nm = (ofL op).1.name := ⟨_, rfl⟩
        rw [← hnm] at NA hns
        have HNM := Lib.hid hnm
        obtain ⟨kd, hkd⟩ : ∃ kd, kd = (ofL op).1.operand := ⟨_, rfl⟩
        rw [← hkd] at OP hbd
        have HKD := Lib.hid hkd
        have ha0 := HO.out.2
        have e0 : (⟨#[32, 32]⟩ : ByteArray).size = 2 := rfl
        have e1 : (⟨#[32]⟩ : ByteArray).size = 1 := rfl
        have e2 : (⟨#[10]⟩ : ByteArray).size = 1 := rfl
        clear hyes hargs hargs0 hnm hkd XB
        go_wp2_with fail
        obtain ⟨w7, hw7⟩ : ∃ w7, w7 = w6.alloc (.cells #[.int .i64 op, .int .i64 av] 45) := ⟨_, rfl⟩
        have B7 : Below w6.heap.size w6 w7 := by rw [hw7]; exact (Below.refl _ _).alloc (Nat.le_refl _) _
        have Y7 : w7.heap[w6.heap.size]? = some (.cells #[.int .i64 op, .int .i64 av] 45 (0, 0)) := by rw [hw7]; exact heap_alloc_new _ _
        rw [← hw7]
        clear hw7
        refine (NA.out _).mono ?_
        rintro e w8 ⟨rfl, hB8⟩
        have Y8 := (hB8.block _ (lt_of_heap Y7)).trans Y7
        have u0 : w8.cell? ⟨w6.heap.size, 0, none⟩ = some (.int .i64 op) := by rw [cell_of_heap Y8]; rfl
        have lu := lt_of_heap Y8
        have B68 := B7.trans (hB8.mono B7.size)
        clear B7 Y7 hB8 NA m0 m1
        go_wp2_with fail
        refine (OP.out _).mono ?_
        rintro e w9 ⟨rfl, hB9⟩
        have Y9 := (hB9.block _ (lt_of_heap Y8)).trans Y8
        have u1 : w9.cell? ⟨w6.heap.size, 1, none⟩ = some (.int .i64 av) := by rw [cell_of_heap Y9]; rfl
        have lu := lt_of_heap Y9
        have B69 := B68.trans (hB9.mono B68.size)
        have BW9 := Lib.hid (And.intro (BW6.out.1.trans (B69.mono BW6.out.1.size)) (BW6.out.2.trans (B69.mono BW6.out.2.size)))
        have XB := H0.out.2.below BW9.out.2
        have k0 := XB.c0
        have k1 := XB.c1
        have k2 := XB.c2
        have k3 := XB.c3
        have lx := XB.lt
        dsimp only at k0 k1 k2 k3
        clear Y8 Y9 hB9 B68 B69 OP XB u0
        rcases hbd with rfl | rfl | rfl | rfl | rfl | rfl
        ·
          --[[a0
          go_wp2_with fail
          go_roundg (p.code.length - (k + 1))
          case measure => have := HG.out; have := HQ.out.2.2; omega
          case rel =>
            refine ⟨k + 1, _, by simp, rfl, HQ.out.2.2, rfl, ?_, Lib.hid ⟨HX.out.1.next HQ.out.1 HS1.out (HAR.out.2 nm HNM.out (by rw [← HKD.out]; rfl)), BW9.out.2⟩⟩
            simp only [ByteArray.size_append]
            have e0 : (⟨#[32, 32]⟩ : ByteArray).size = 2 := rfl
            have e1 : (⟨#[32]⟩ : ByteArray).size = 1 := rfl
            have e2 : (⟨#[10]⟩ : ByteArray).size = 1 := rfl
            omega
          --]]a0
        · obtain ⟨x, hxc⟩ := HQ.out.2.1.1 HKD.out.symm
          obtain ⟨an, rfl⟩ : ∃ n : Nat, av = n := ⟨av.toNat, by omega⟩
          have hxc : p.consts[an]? = some x := hxc
          obtain ⟨g2, off2, d, rfl, _, _, hg2, hC, x0, x1, x2, x3⟩ := HI.out.1.const_at BW9.out.1 hxc
          have ian : (an : Int) < kn := by have := lt_of_get hxc; have := HL.out.2.1; omega
          have hxm := mem_of_get hxc
          have hsz := HI.out.2.2.2.1 x hxm
          have hps := printV_size x (HI.out.2.2.1 x hxm)
          have CB := Lib.hid (rprint_any x.parts x (Nat.le_refl _) d.kind d.n d.s d.la d.ln d.lc F w9 hC (HI.out.2.2.1 x hxm) (by omega))
          have HAP := Lib.hid (show argP p (labsL p.code) (ofL op).1.operand (an : Int).toNat = (⟨#[32]⟩ ++ printV x : ByteArray).data.toList by
            rw [← HKD.out]
            show (⟨#[32]⟩ ++ printV (p.consts[an]?.getD vNil) : ByteArray).data.toList = _
            rw [show p.consts[an]? = some x from hxc]
            rfl)
          generalize printV x = bz at *
          clear hxc hC hxm
          --[[a1
          go_wp2_with fail
          refine CB.out.mono ?_
          rintro e w10 ⟨rfl, hB10⟩
          have H10 := Lib.hid (BW9.out.2.trans (hB10.mono BW9.out.2.size))
          clear hB10 CB
          go_wp2_with fail
          go_roundg (p.code.length - (k + 1))
          case measure => have := HG.out; have := HQ.out.2.2; omega
          case rel =>
            refine ⟨k + 1, _, by simp, rfl, HQ.out.2.2, rfl, ?_, Lib.hid ⟨HX.out.1.next HQ.out.1 HS1.out (HAR.out.1 nm _ _ HNM.out HAP.out rfl), H10.out⟩⟩
            simp only [ByteArray.size_append]
            have e0 : (⟨#[32, 32]⟩ : ByteArray).size = 2 := rfl
            have e1 : (⟨#[32]⟩ : ByteArray).size = 1 := rfl
            have e2 : (⟨#[10]⟩ : ByteArray).size = 1 := rfl
            omega
          --]]a1
        · obtain ⟨sx, hxs⟩ := HQ.out.2.1.2.1 HKD.out.symm
          obtain ⟨an, rfl⟩ : ∃ n : Nat, av = n := ⟨av.toNat, by omega⟩
          have hxs : p.names[an]? = some sx := hxs
          obtain ⟨g2, off2, rfl, _, _, hg2, x0⟩ := HI.out.1.name_at BW9.out.1 hxs
          have ian : (an : Int) < nn := by have := lt_of_get hxs; have := HL.out.2.2; omega
          have hsz := HI.out.2.2.2.2.1 sx (mem_of_get hxs)
          have hps := quoteB_size sx
          have CB := Lib.hid (rquote_any sx (by omega) w9)
          have HAP := Lib.hid (show argP p (labsL p.code) (ofL op).1.operand (an : Int).toNat = (⟨#[32]⟩ ++ quoteB sx : ByteArray).data.toList by
            rw [← HKD.out]
            show (⟨#[32]⟩ ++ quoteB (p.names[an]?.getD ⟨#[]⟩) : ByteArray).data.toList = _
            rw [hxs]
            rfl)
          generalize quoteB sx = bz at *
          clear hxs
          --[[a2
          go_wp2_with fail
          refine CB.out.mono ?_
          rintro e w10 ⟨rfl, hB10⟩
          have H10 := Lib.hid (BW9.out.2.trans (hB10.mono BW9.out.2.size))
          clear hB10 CB
          go_wp2_with fail
          go_roundg (p.code.length - (k + 1))
          case measure => have := HG.out; have := HQ.out.2.2; omega
          case rel =>
            refine ⟨k + 1, _, by simp, rfl, HQ.out.2.2, rfl, ?_, Lib.hid ⟨HX.out.1.next HQ.out.1 HS1.out (HAR.out.1 nm _ _ HNM.out HAP.out rfl), H10.out⟩⟩
            simp only [ByteArray.size_append]
            have e0 : (⟨#[32, 32]⟩ : ByteArray).size = 2 := rfl
            have e1 : (⟨#[32]⟩ : ByteArray).size = 1 := rfl
            have e2 : (⟨#[10]⟩ : ByteArray).size = 1 := rfl
            omega
          --]]a2
        · have hpl := HQ.out.2.1.2.2.1 HKD.out.symm
          obtain ⟨an, rfl⟩ : ∃ n : Nat, av = n := ⟨av.toNat, by omega⟩
          have hb5 := HI.out.2.2.2.2.2
          have hsz : (itoaB (an : Int)).size ≤ 21 := itoaB_size (by omega) (by omega)
          have CB := Lib.hid (rnumber_any (an : Int) (by omega) (by omega) w9)
          have HAP := Lib.hid (show argP p (labsL p.code) (ofL op).1.operand (an : Int).toNat = (⟨#[32]⟩ ++ itoaB (an : Int) : ByteArray).data.toList by
            rw [← HKD.out]
            rfl)
          generalize itoaB (an : Int) = bz at *
          go_wp2_with fail
          refine CB.out.mono ?_
          rintro e w10 ⟨rfl, hB10⟩
          have H10 := Lib.hid (BW9.out.2.trans (hB10.mono BW9.out.2.size))
          clear hB10 CB
          go_wp2_with fail
          go_roundg (p.code.length - (k + 1))
          case measure => have := HG.out; have := HQ.out.2.2; omega
          case rel =>
            refine ⟨k + 1, _, by simp, rfl, HQ.out.2.2, rfl, ?_, Lib.hid ⟨HX.out.1.next HQ.out.1 HS1.out (HAR.out.1 nm _ _ HNM.out HAP.out rfl), H10.out⟩⟩
            simp only [ByteArray.size_append]
            have e0 : (⟨#[32, 32]⟩ : ByteArray).size = 2 := rfl
            have e1 : (⟨#[32]⟩ : ByteArray).size = 1 := rfl
            have e2 : (⟨#[10]⟩ : ByteArray).size = 1 := rfl
            omega
        · have hal := HQ.out.2.1.2.2.2.1 HKD.out.symm
          obtain ⟨an, rfl⟩ : ∃ n : Nat, av = n := ⟨av.toNat, by omega⟩
          have hal2 : an < p.code.length := by omega
          have hls : ∃ s, MapTy.get (labsL p.code) (an : Int) = some s := (labs_ok (code := p.code) (by have := HL.out.1; omega)).has _ (mem_of_get HQ.out.1) HKD.out.symm (by show (0 : Int) ≤ (an : Int); omega) (by show ((an : Nat) : Int) < _; omega)
          obtain ⟨sl, hsl⟩ := hls
          have hsz := lab_size (code := p.code) (by have := HL.out.1; omega) hsl
          have hex := labs_exact hal2
          rw [hsl] at hex
          have hsl2 : sl = labName (cntT p.code 0 (an + 1)) := by
            split at hex
            · exact Option.some.inj hex
            · cases hex
          have CB := Lib.hid (LA.out w9 BW9.out.1 an hal2)
          have HAP := Lib.hid (show argP p (labsL p.code) (ofL op).1.operand (an : Int).toNat = (⟨#[32]⟩ ++ sl : ByteArray).data.toList by
            rw [← HKD.out]
            show (⟨#[32]⟩ ++ (MapTy.get (labsL p.code) (an : Int)).getD ⟨#[]⟩ : ByteArray).data.toList = _
            rw [hsl]
            rfl)
          rw [← hsl2] at CB
          clear hex hsl hsl2
          --[[a4
          go_wp2_with fail
          refine CB.out.mono ?_
          rintro e w10 ⟨rfl, hB10⟩
          have H10 := Lib.hid (BW9.out.2.trans (hB10.mono BW9.out.2.size))
          clear hB10 CB
          go_wp2_with fail
          go_roundg (p.code.length - (k + 1))
          case measure => have := HG.out; have := HQ.out.2.2; omega
          case rel =>
            refine ⟨k + 1, _, by simp, rfl, HQ.out.2.2, rfl, ?_, Lib.hid ⟨HX.out.1.next HQ.out.1 HS1.out (HAR.out.1 nm _ _ HNM.out HAP.out rfl), H10.out⟩⟩
            simp only [ByteArray.size_append]
            have e0 : (⟨#[32, 32]⟩ : ByteArray).size = 2 := rfl
            have e1 : (⟨#[32]⟩ : ByteArray).size = 1 := rfl
            have e2 : (⟨#[10]⟩ : ByteArray).size = 1 := rfl
            omega
          --]]a4
        · have hpl := HQ.out.2.1.2.2.2.2.1 HKD.out.symm
          obtain ⟨an, rfl⟩ : ∃ n : Nat, av = n := ⟨av.toNat, by omega⟩
          have hb5 := HI.out.2.2.2.2.2
          have hsz : (itoaB (an : Int)).size ≤ 21 := itoaB_size (by omega) (by omega)
          have CB := Lib.hid (rnumber_any (an : Int) (by omega) (by omega) w9)
          have HAP := Lib.hid (show argP p (labsL p.code) (ofL op).1.operand (an : Int).toNat = (⟨#[32]⟩ ++ itoaB (an : Int) : ByteArray).data.toList by
            rw [← HKD.out]
            rfl)
          generalize itoaB (an : Int) = bz at *
          go_wp2_with fail
          refine CB.out.mono ?_
          rintro e w10 ⟨rfl, hB10⟩
          have H10 := Lib.hid (BW9.out.2.trans (hB10.mono BW9.out.2.size))
          clear hB10 CB
          go_wp2_with fail
          go_roundg (p.code.length - (k + 1))
          case measure => have := HG.out; have := HQ.out.2.2; omega
          case rel =>
            refine ⟨k + 1, _, by simp, rfl, HQ.out.2.2, rfl, ?_, Lib.hid ⟨HX.out.1.next HQ.out.1 HS1.out (HAR.out.1 nm _ _ HNM.out HAP.out rfl), H10.out⟩⟩
            simp only [ByteArray.size_append]
            have e0 : (⟨#[32, 32]⟩ : ByteArray).size = 2 := rfl
            have e1 : (⟨#[32]⟩ : ByteArray).size = 1 := rfl
            have e2 : (⟨#[10]⟩ : ByteArray).size = 1 := rfl
            omega
        --]]rst
      --]]main
    · obtain rfl : k = cn := by have := HL.out.1; omega
      have e3 : ¬ (k : Int) < k := by omega
      have he := HX.out.1.e
      rw [List.drop_eq_nil_of_le (by have := HL.out.1; omega), codeP, List.append_nil] at he
      have HE := Lib.hid (show S = textP p from ByteArray.ext (by unfold textP; rw [← he]))
      clear he
      --[[fin
      go_wp2_with fail
      go_ret
      exact ⟨by rw [HE.out]; rfl, BW.out⟩
      --]]fin
--]]walk
end Go.Proofs.YtielnengimninaaGreatDoor
namespace Go.Proofs.YtielnengimninaaGreatDoor
open Go.RowKit Go.Own Go.Own.MapTy Go.Va Go.Sort
open Go.Own.Cells (sz enc)
theorem good_okP {p : Img} (h : goodL p = true) : imgL p = 0 ∧ (fitW.fitX 0 p.consts 100).1 = true := by
  unfold goodL at h
  cases h1 : (decide (60 < p.code.length) || (decide (20 < p.consts.length) || decide (20 < p.names.length))) with
  | true => rw [h1] at h; cases h
  | false =>
    rw [h1, cond_false, Bool.and_eq_true, Bool.and_eq_true] at h
    exact ⟨by simpa using h.2.2, h.1⟩
theorem tidy_wf {p : Img} (hi : imgL p = 0) (hwf : ∀ x ∈ p.consts, x.wf) : ∀ x ∈ (imgOf (putsI (meanP p) st0)).consts, x.wf := by
  intro x hx
  rcases (puts_mem (meanP p) st0).1 x hx with hx | ⟨op, hx⟩
  · simp [st0] at hx
  · obtain ⟨c, hcc, e⟩ := List.mem_map.1 hx
    by_cases k1 : (ofL c.op).1.operand = 1
    · rw [argOf_1 k1] at e
      cases e
      obtain ⟨y, hy⟩ := (at_ok hi hcc).2.2.1 k1
      rw [hy]
      exact clone_wf y (hwf y (mem_of_get hy))
    · by_cases k2 : (ofL c.op).1.operand = 2
      · rw [argOf_2 k2] at e; cases e
      · by_cases k3 : (ofL c.op).1.operand = 3
        · rw [argOf_3 k3] at e; cases e
        · rw [argOf_4 k1 k2 k3] at e; cases e
--[[walk
set_option maxRecDepth 100000 in
set_option maxHeartbeats 8000000 in
theorem prints_walk {N : Nat} (i : IC) (p : Img) (W : World) (G : Gl Tryz.prog N W) (H : IAt (fun j => j < W.heap.size) W i p) (hb : Val.all.allL B64 p.consts) :
    Calls Tryz.prog 8 #[.agg #[.slice i.ca i.cn i.cc, .slice i.ka i.kn i.kc, .slice i.na i.nn i.nc, .int .i64 i.pl]] W fun en w' => en = .returned (.bool true) ∧ Below W.heap.size W w' := by
  have HG := Lib.hid G
  have HI := Lib.hid (And.intro H hb)
  have GA := Lib.hid (fun W' (K : Below W.heap.size W W') => good_any _ W' i p (H.below K) hb _ rfl)
  have hGO := @good_okP p
  obtain ⟨gd, hgd⟩ : ∃ gd, goodL p = gd := ⟨_, rfl⟩
  rw [hgd] at GA hGO
  have HGO := Lib.hid hGO
  obtain ⟨ca, cn, cc, ka, kn, kc, na, nn, nc, pl⟩ := i
  dsimp only at GA HI ⊢
  clear G H hb hgd hGO
  go_enter Tryz.func8, Tryz.ntmps8
  go_wp2_with fail
  obtain ⟨w0, hw0⟩ : ∃ w0, w0 = W.alloc (.cells #[.slice ca cn cc, .slice ka kn kc, .slice na nn nc, .int .i64 pl] 26) := ⟨_, rfl⟩
  have B0 : Below W.heap.size W w0 := by rw [hw0]; exact (Below.refl _ _).alloc (Nat.le_refl _) _
  have X0 : BoxI w0 W.heap.size ⟨ca, cn, cc, ka, kn, kc, na, nn, nc, pl⟩ := by rw [hw0]; exact boxI_new W ⟨ca, cn, cc, ka, kn, kc, na, nn, nc, pl⟩
  rw [← hw0]
  clear hw0
  refine (reads_true _ (HG.out.below B0)).mono ?_
  rintro en w1 ⟨rfl, hB1⟩
  have X1 := X0.below hB1
  have B1 := B0.trans (hB1.mono B0.size)
  have k0 := X1.c0
  have k1 := X1.c1
  have k2 := X1.c2
  have k3 := X1.c3
  have lx := X1.lt
  dsimp only at k0 k1 k2 k3
  have H1 := Lib.hid (And.intro B1 X1)
  clear B0 X0 B1 X1 hB1
  go_wp2_with fail
  refine (GA.out _ H1.out.1).mono ?_
  rintro en w2 ⟨rfl, hB2⟩
  have X2 := H1.out.2.below hB2
  have k0 := X2.c0
  have k1 := X2.c1
  have k2 := X2.c2
  have k3 := X2.c3
  have lx := X2.lt
  dsimp only at k0 k1 k2 k3
  have H2 := Lib.hid (And.intro (H1.out.1.trans (hB2.mono H1.out.1.size)) X2)
  clear X2 hB2 H1 GA
  cases gd with
  | false =>
    go_wp2_with fail
    go_ret
    exact ⟨rfl, H2.out.1⟩
  | true =>
    obtain ⟨hi, hf⟩ := HGO.out rfl
    have hwf := fits_wf hf HI.out.2
    have PR := Lib.hid (print_prog _ w2 ⟨ca, cn, cc, ka, kn, kc, na, nn, nc, pl⟩ p (HI.out.1.below H2.out.1) (HG.out.below H2.out.1) hwf)
    rw [asmP_text hi] at PR
    have TX := Lib.hid (fun W' (K : Below W.heap.size W W') => text12_any _ W' ⟨ca, cn, cc, ka, kn, kc, na, nn, nc, pl⟩ p (HI.out.1.below K) hi hwf)
    have hpp := parse_printed hi hwf
    rw [asmP_text hi] at hpp
    have hpp : (textP p).size ≤ 65536 → asmL (textP p) = (imgOf (putsI (meanP p) st0), 0, 0) := hpp
    have hsame := same_means hi rfl
    have htd := tdOk_puts (meanP p) st0 tdOk0 (mean_ok hi).fit
    have hti := tidy_img hi
    have htw := tidy_wf hi hwf
    generalize imgOf (putsI (meanP p) st0) = q at *
    have PA := fun (hz : (textP p).size ≤ 65536) W' (G : Gl Tryz.prog N W') => asm_any (textP p) W' G
    have PA : (textP p).size ≤ 65536 → ∀ W', Gl Tryz.prog N W' → Calls Tryz.prog 22 #[.string (textP p)] W' (APost W' (q, 0, 0)) := fun hz W' G => by rw [← hpp hz]; exact PA hz W' G
    have HPA := Lib.hid PA
    have HQ := Lib.hid (And.intro hi (And.intro hwf (And.intro hsame (And.intro htd (And.intro hti htw)))))
    generalize textP p = tp at *
    clear hi hf hwf hpp hsame htd hti htw PA
    --[[g1
    go_wp2_with fail
    refine PR.out.mono ?_
    rintro en w3 ⟨rfl, hB3⟩
    have X3 := H2.out.2.below hB3
    have k0 := X3.c0
    have k1 := X3.c1
    have k2 := X3.c2
    have k3 := X3.c3
    have lx := X3.lt
    dsimp only at k0 k1 k2 k3
    have H3 := Lib.hid (And.intro (H2.out.1.trans (hB3.mono H2.out.1.size)) X3)
    clear hB3 X3 PR
    have hne : (tp.toList != tp.toList) = false := by simp
    go_wp2_with fail
    refine (TX.out _ H3.out.1).mono ?_
    rintro en w4 ⟨rfl, hB4⟩
    have X4 := H3.out.2.below hB4
    have k0 := X4.c0
    have k1 := X4.c1
    have k2 := X4.c2
    have k3 := X4.c3
    have lx := X4.lt
    dsimp only at k0 k1 k2 k3
    have H4 := Lib.hid (And.intro (H3.out.1.trans (hB4.mono H3.out.1.size)) X4)
    clear hB4 X4 TX
    by_cases hbig : 65536 < tp.size
    · have h5 : (65536 : Int) < tp.size := by omega
      have d5 : decide ((65536 : Int) < tp.size) = true := decide_eq_true h5
      clear hbig
      --[[g2
      go_wp2_with fail
      go_ret
      exact ⟨rfl, H4.out.1⟩
      --]]g2
    · have h5 : ¬ (65536 : Int) < tp.size := by omega
      have d5 : decide ((65536 : Int) < tp.size) = false := decide_eq_false h5
      have P5 := Lib.hid (HPA.out (by omega) w4 (HG.out.below H4.out.1))
      clear hbig
      --[[g3
      go_wp2_with fail
      refine P5.out.mono ?_
      rintro en w5 ⟨⟨da, dn, dc, ea, en', ec, fa, fn, fc, pm⟩, rfl, hA5, hB5⟩
      dsimp only
      obtain ⟨w6, hw6⟩ : ∃ w6, w6 = (w5.alloc (.cells #[.slice da dn dc, .slice ea en' ec, .slice fa fn fc, .int .i64 pm] 26)).alloc (.cells #[.int .i64 0, .int .i64 0] 52) := ⟨_, rfl⟩
      have B6 : Below w5.heap.size w5 w6 := by rw [hw6]; exact ((Below.refl _ _).alloc (Nat.le_refl _) _).alloc (by simp) _
      have Y6 : BoxI w6 w5.heap.size ⟨da, dn, dc, ea, en', ec, fa, fn, fc, pm⟩ := by rw [hw6]; exact heap_lt2
      have Z6 : w6.heap[w5.heap.size + 1]? = some (.cells #[.int .i64 0, .int .i64 0] 52 (0, 0)) := by rw [hw6]; exact heap_new2
      have B46 := hB5.trans (B6.mono hB5.size)
      have X5 := H4.out.2.below hB5
      have k0 := X5.c0
      have k1 := X5.c1
      have k2 := X5.c2
      have k3 := X5.c3
      have lx := X5.lt
      dsimp only at k0 k1 k2 k3
      have BW6 := H4.out.1.trans (B46.mono H4.out.1.size)
      have SA := Lib.hid (fun W' (K : Below w6.heap.size w6 W') => rsame_walk _ _ W' ⟨ca, cn, cc, ka, kn, kc, na, nn, nc, pl⟩ ⟨da, dn, dc, ea, en', ec, fa, fn, fc, pm⟩ p q (HI.out.1.below (BW6.trans (K.mono BW6.size))) (hA5.below (B6.trans (K.mono B6.size))) HQ.out.1 HQ.out.2.2.2.2.1 HQ.out.2.1 HQ.out.2.2.2.2.2 HQ.out.2.2.1)
      have DA := Lib.hid (fun W' (K : Below w6.heap.size w6 W') => rtidy_walk _ W' ⟨da, dn, dc, ea, en', ec, fa, fn, fc, pm⟩ q (hA5.below (B6.trans (K.mono B6.size))) HQ.out.2.2.2.2.1 HQ.out.2.2.2.2.2 HQ.out.2.2.2.1)
      dsimp only at SA DA
      have HB6 := Lib.hid (And.intro BW6 Y6)
      clear B6 Y6 Z6 B46 X5 BW6 hA5 hB5 P5
      --[[g4
      go_wp2_with fail
      rw [← hw6]
      clear hw6
      refine (SA.out _ (Below.refl _ _)).mono ?_
      rintro en w7 ⟨rfl, hB7⟩
      have Y7 := HB6.out.2.below hB7
      have y0 := Y7.c0
      have y1 := Y7.c1
      have y2 := Y7.c2
      have y3 := Y7.c3
      have ly := Y7.lt
      dsimp only at y0 y1 y2 y3
      have D7 := Lib.hid (DA.out w7 hB7)
      have H7 := Lib.hid (HB6.out.1.trans (hB7.mono HB6.out.1.size))
      clear hB7 Y7 SA DA k0 k1 k2 k3
      go_wp2_with fail
      refine D7.out.mono ?_
      rintro en w8 ⟨rfl, hB8⟩
      have H8 := Lib.hid (H7.out.trans (hB8.mono H7.out.size))
      clear hB8
      go_wp2_with fail
      go_ret
      exact ⟨rfl, H8.out⟩
      --]]g4
      --]]g3
    --]]g1
--]]walk
end Go.Proofs.YtielnengimninaaGreatDoor
