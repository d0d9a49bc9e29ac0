/- AsmLabels, walked. -/
import Derived.Test.YtielnengimninaaGreatDoorV46
import Derived.Test.YtielnengimninaaGreatDoorV47
import Derived.Test.YtielnengimninaaGreatDoorV31
namespace Go.Proofs.YtielnengimninaaGreatDoor
open Go.RowKit Go.Own Go.Own.MapTy Go.Va Go.Sort
open Go.Own.Cells (sz enc)
theorem labT_text {lb jp : List UInt8} {a : Int} {f k : Nat} : textB (labT lb jp a f (k + 1)) = textB (labT lb jp a f k) ++ ((if (k : Int) = a then lb ++ [10] else []) ++ (rnd jp f k ++ [10])) := by
  rw [labT, textB_app, textB_app]
  congr 2
  · split <;> simp [textB]
  · simp [textB]
def hereL : ByteArray := ⟨#[104, 101, 114, 101, 58, 10]⟩
/-- the two texts behind k rounds -/
def TwoT (a : Int) (f k : Nat) (s t : ByteArray) : Prop := s.data.toList = textB (labT hereB jhereB a f k) ∧ t.data.toList = textB (labT thereB jthereB a f k) ∧ s.size ≤ 32 * k ∧ t.size ≤ 32 * k
theorem twoT_next {a : Int} {f k : Nat} {s t : ByteArray} {x y : List UInt8} (h : TwoT a f k s t) (hx : x = (if (k : Int) = a then hereB ++ [10] else []) ++ (rnd jhereB f k ++ [10])) (hy : y = (if (k : Int) = a then thereB ++ [10] else []) ++ (rnd jthereB f k ++ [10])) : TwoT a f (k + 1) (s ++ ⟨x.toArray⟩) (t ++ ⟨y.toArray⟩) := by
  have l1 : x.length ≤ 32 := by
    rw [hx, List.length_append]
    have h1 : (if (k : Int) = a then hereB ++ [10] else []).length ≤ 16 := by split <;> decide
    have h2 : (rnd jhereB f k ++ [10]).length ≤ 16 := by unfold rnd; split <;> decide
    omega
  have l2 : y.length ≤ 32 := by
    rw [hy, List.length_append]
    have h1 : (if (k : Int) = a then thereB ++ [10] else []).length ≤ 16 := by split <;> decide
    have h2 : (rnd jthereB f k ++ [10]).length ≤ 16 := by unfold rnd; split <;> decide
    omega
  refine ⟨by rw [str_app, h.1, labT_text, hx], by rw [str_app, h.2.1, labT_text, hy], ?_, ?_⟩
  · rw [ByteArray.size_append]
    have e : (⟨x.toArray⟩ : ByteArray).size = x.length := by simp [ByteArray.size]
    have := h.2.2.1
    omega
  · rw [ByteArray.size_append]
    have e : (⟨y.toArray⟩ : ByteArray).size = y.length := by simp [ByteArray.size]
    have := h.2.2.2
    omega
/-- the two whole texts -/
def TwoA (a : Int) (f n : Nat) (s t : ByteArray) : Prop := s.data.toList = textB (labAll hereB jhereB a f n) ∧ t.data.toList = textB (labAll thereB jthereB a f n) ∧ s.size ≤ 2000
theorem twoA_no {a : Int} {f n : Nat} {s t : ByteArray} (h : TwoT a f n s t) (hn : n ≤ 30) (e : ¬ (n : Int) = a) : TwoA a f n s t := by
  refine ⟨?_, ?_, by have := h.2.2.1; omega⟩
  · unfold labAll; rw [if_neg (fun h => e h.symm), List.append_nil]; exact h.1
  · unfold labAll; rw [if_neg (fun h => e h.symm), List.append_nil]; exact h.2.1
theorem twoA_yes {a : Int} {f n : Nat} {s t : ByteArray} (h : TwoT a f n s t) (hn : n ≤ 30) (e : (n : Int) = a) : TwoA a f n (s ++ ⟨#[104, 101, 114, 101, 58, 10]⟩) (t ++ ⟨#[116, 104, 101, 114, 101, 50, 58, 10]⟩) := by
  refine ⟨?_, ?_, ?_⟩
  · unfold labAll; rw [if_pos e.symm, textB_app]; exact (str_app s [104, 101, 114, 101, 58, 10]).trans (by rw [h.1]; rfl)
  · unfold labAll; rw [if_pos e.symm, textB_app]; exact (str_app t [116, 104, 101, 114, 101, 50, 58, 10]).trans (by rw [h.2.1]; rfl)
  · rw [ByteArray.size_append]
    have : (⟨#[104, 101, 114, 101, 58, 10]⟩ : ByteArray).size = 6 := rfl
    have := h.2.2.1
    omega
/-- what the three texts are read as -/
def LabR (a : Int) (f n : Nat) (r1 r2 r3 : Img × Int × Int) : Prop :=
  (a < 0 ∧ r1 = (noImg, (f : Int) + 1, 120) ∧ r2 = r1) ∨ (a = n ∧ r1 = (noImg, (f : Int) + 1, 120) ∧ r2 = r1 ∧ r3 = (noImg, a + 2, 5)) ∨
  (0 ≤ a ∧ a < n ∧ (∃ p, r1 = (p, 0, 0) ∧ p.code.length = n ∧ p.code[f]? = some ⟨11, a⟩) ∧ r2 = r1 ∧ r3 = (noImg, a + 2, 5))
theorem labR_of {a : Int} {f n : Nat} {s t u : ByteArray} (h : TwoA a f n s t) (hu : u.data.toList = textB [hereB] ++ s.data.toList) (hn : n ≤ 30) (hf : f < n) (ha : a ≤ n) : LabR a f n (asmL s) (asmL t) (asmL u) := by
  have h1 := labs_asm jp_here lb_here (by decide) (by decide) hn hf ha h.1
  have h2 := labs_asm jp_there lb_there (by decide) (by decide) hn hf ha h.2.1
  rw [h.1, ← textB_app, List.singleton_append] at hu
  by_cases h0 : a < 0
  · rw [if_pos (.inl h0)] at h1 h2
    exact .inl ⟨h0, h1, h2.trans h1.symm⟩
  · have h3 := twice_asm hn ha (by omega) hu
    by_cases e : a = n
    · rw [if_pos (.inr e)] at h1 h2
      exact .inr (.inl ⟨e, h1, h2.trans h1.symm, h3⟩)
    · rw [if_neg (by omega)] at h1 h2
      obtain ⟨b, rfl⟩ : ∃ b : Nat, a = b := ⟨a.toNat, by omega⟩
      have hc := cs_img (n := n) (f := f) (by omega) hn hf (a := b) (by omega)
      exact .inr (.inr ⟨by omega, by omega, ⟨_, h1, hc.2.1, hc.2.2⟩, h2.trans h1.symm, h3⟩)
theorem app_two (s : ByteArray) (x y : List UInt8) : s ++ ⟨x.toArray⟩ ++ ⟨y.toArray⟩ = s ++ (⟨(x ++ y).toArray⟩ : ByteArray) := by
  apply ByteArray.ext
  simp [ByteArray.data_append]
--[[labels
set_option maxRecDepth 100000 in
set_option maxHeartbeats 8000000 in
theorem labels_walk {N : Nat} (n a fr : Int) (w : World) (G : Gl Tryz.prog N w) : Calls Tryz.prog 12 #[.int .i64 n, .int .i64 a, .int .i64 fr] w fun en w' => en = .returned (.bool true) ∧ Below w.heap.size w w' := by
  have HG := Lib.hid G
  clear G
  go_enter Tryz.func12, Tryz.ntmps12
  go_wp2_with fail
  refine (reads_true _ HG.out).mono ?_
  rintro en w1 ⟨rfl, hB1⟩
  have H1 := Lib.hid hB1
  clear hB1
  cases e1 : decide (n < 1) with
  | true =>
    --[[k1
    go_wp2_with fail
    go_ret
    exact ⟨rfl, H1.out⟩
    --]]k1
  | false =>
  cases e2 : decide (30 < n) with
  | true =>
    --[[k2
    go_wp2_with fail
    go_ret
    exact ⟨rfl, H1.out⟩
    --]]k2
  | false =>
  cases e3 : decide (a < -1) with
  | true =>
    --[[k3
    go_wp2_with fail
    go_ret
    exact ⟨rfl, H1.out⟩
    --]]k3
  | false =>
  cases e4 : decide (n < a) with
  | true =>
    --[[k4
    go_wp2_with fail
    go_ret
    exact ⟨rfl, H1.out⟩
    --]]k4
  | false =>
  cases e5 : decide (fr < 0) with
  | true =>
    --[[k5
    go_wp2_with fail
    go_ret
    exact ⟨rfl, H1.out⟩
    --]]k5
  | false =>
  cases e6 : decide (n ≤ fr) with
  | true =>
    --[[k6
    go_wp2_with fail
    go_ret
    exact ⟨rfl, H1.out⟩
    --]]k6
  | false =>
    obtain ⟨k, rfl⟩ : ∃ k : Nat, n = k := ⟨n.toNat, by have := of_decide_eq_false e1; omega⟩
    obtain ⟨f, rfl⟩ : ∃ f : Nat, fr = f := ⟨fr.toNat, by have := of_decide_eq_false e5; omega⟩
    have HK := Lib.hid (show 0 < k ∧ k ≤ 30 ∧ f < k ∧ -1 ≤ a ∧ a ≤ k from by
      have := of_decide_eq_false e1; have := of_decide_eq_false e2; have := of_decide_eq_false e3; have := of_decide_eq_false e4; have := of_decide_eq_false e6; omega)
    have e7 : decide (k ≤ f) = false := decide_eq_false (by have := HK.out; omega)
    --[[main
    go_wp2_with fail
    clear e1 e2 e3 e4 e5 e6 e7
    go_loopg [44, 7, 8] k (fun gk v44 v7 v8 wr => ∃ (i : Nat) (s t : ByteArray), v44 = .int .i64 i ∧ v7 = .string s ∧ v8 = .string t ∧ i ≤ k ∧ gk = k - i ∧ Hid (TwoT a f i s t) ∧ s.size ≤ 1000 ∧ t.size ≤ 1000 ∧ wr = w1)
    case atStart => exact ⟨0, ⟨#[]⟩, ⟨#[]⟩, rfl, rfl, rfl, Nat.zero_le _, rfl, Lib.hid ⟨rfl, rfl, Nat.zero_le _, Nat.zero_le _⟩, by decide, by decide, rfl⟩
    case round =>
      obtain ⟨i, s, t, rfl, rfl, rfl, hi, hgk, hT, hs1, ht1, rfl⟩ := hrel
      by_cases hin : i < k
      · have hin' : (i : Int) < k := by omega
        have HX := Lib.hid (And.intro hgk (And.intro hi hin))
        have HWK := Lib.hid (show wrap64 ((i : Int) + 1) = (i : Int) + 1 ∧ wrap64 ((f : Int) + 1) = (f : Int) + 1 from by have := HK.out; unfold wrap64; omega)
        clear hgk hi hin
        have HT := hT
        clear hT
        cases ea : ((i : Int) == a) with
        | true =>
          by_cases ef : i = f
          · have ef := Lib.hid ef
            --[[r11
            have NT := Lib.hid (twoT_next (x := [104, 101, 114, 101, 58, 10] ++ [32, 32, 106, 117, 109, 112, 32, 104, 101, 114, 101, 10]) (y := [116, 104, 101, 114, 101, 50, 58, 10] ++ [32, 32, 106, 117, 109, 112, 32, 116, 104, 101, 114, 101, 50, 10]) HT.out (by rw [if_pos (by simpa using ea), show rnd jhereB f i = jhereB from if_pos (by have := ef.out; omega)]; rfl) (by rw [if_pos (by simpa using ea), show rnd jthereB f i = jthereB from if_pos (by have := ef.out; omega)]; rfl))
            have eb : ((i : Int) == (f : Int)) = true := by rw [beq_iff_eq]; have := ef.out; omega
            go_wp2_with fail
            go_roundg (k - (i + 1))
            case measure => have := HX.out; omega
            case rel =>
              refine ⟨i + 1, _, _, by simp [HWK.out.2, ef.out], rfl, rfl, by have := HX.out; omega, rfl, Lib.hid (show TwoT a f (i + 1) (s ++ ⟨#[104, 101, 114, 101, 58, 10]⟩ ++ ⟨#[32, 32, 106, 117, 109, 112, 32, 104, 101, 114, 101, 10]⟩) (t ++ ⟨#[116, 104, 101, 114, 101, 50, 58, 10]⟩ ++ ⟨#[32, 32, 106, 117, 109, 112, 32, 116, 104, 101, 114, 101, 50, 10]⟩) from ?_), ?_, ?_, rfl⟩
              · have h := NT.out
                rw [← app_two s [104, 101, 114, 101, 58, 10] [32, 32, 106, 117, 109, 112, 32, 104, 101, 114, 101, 10], ← app_two t [116, 104, 101, 114, 101, 50, 58, 10] [32, 32, 106, 117, 109, 112, 32, 116, 104, 101, 114, 101, 50, 10]] at h
                exact h
              · have h := NT.out.2.2.1
                rw [← app_two s [104, 101, 114, 101, 58, 10] [32, 32, 106, 117, 109, 112, 32, 104, 101, 114, 101, 10]] at h
                exact Nat.le_trans h (by have := HX.out; have := HK.out; omega)
              · have h := NT.out.2.2.2
                rw [← app_two t [116, 104, 101, 114, 101, 50, 58, 10] [32, 32, 106, 117, 109, 112, 32, 116, 104, 101, 114, 101, 50, 10]] at h
                exact Nat.le_trans h (by have := HX.out; have := HK.out; omega)
            --]]r11
          · have ef := Lib.hid ef
            --[[r10
            have NT := Lib.hid (twoT_next (x := [104, 101, 114, 101, 58, 10] ++ [32, 32, 110, 111, 112, 10]) (y := [116, 104, 101, 114, 101, 50, 58, 10] ++ [32, 32, 110, 111, 112, 10]) HT.out (by rw [if_pos (by simpa using ea), show rnd jhereB f i = nopB from if_neg (by have := ef.out; omega)]; rfl) (by rw [if_pos (by simpa using ea), show rnd jthereB f i = nopB from if_neg (by have := ef.out; omega)]; rfl))
            have eb : ((i : Int) == (f : Int)) = false := by rw [beq_eq_false_iff_ne]; have := ef.out; omega
            go_wp2_with fail
            go_roundg (k - (i + 1))
            case measure => have := HX.out; omega
            case rel =>
              refine ⟨i + 1, _, _, by simp [HWK.out.1], rfl, rfl, by have := HX.out; omega, rfl, Lib.hid (show TwoT a f (i + 1) (s ++ ⟨#[104, 101, 114, 101, 58, 10]⟩ ++ ⟨#[32, 32, 110, 111, 112, 10]⟩) (t ++ ⟨#[116, 104, 101, 114, 101, 50, 58, 10]⟩ ++ ⟨#[32, 32, 110, 111, 112, 10]⟩) from ?_), ?_, ?_, rfl⟩
              · have h := NT.out
                rw [← app_two s [104, 101, 114, 101, 58, 10] [32, 32, 110, 111, 112, 10], ← app_two t [116, 104, 101, 114, 101, 50, 58, 10] [32, 32, 110, 111, 112, 10]] at h
                exact h
              · have h := NT.out.2.2.1
                rw [← app_two s [104, 101, 114, 101, 58, 10] [32, 32, 110, 111, 112, 10]] at h
                exact Nat.le_trans h (by have := HX.out; have := HK.out; omega)
              · have h := NT.out.2.2.2
                rw [← app_two t [116, 104, 101, 114, 101, 50, 58, 10] [32, 32, 110, 111, 112, 10]] at h
                exact Nat.le_trans h (by have := HX.out; have := HK.out; omega)
            --]]r10
        | false =>
          by_cases ef : i = f
          · have ef := Lib.hid ef
            --[[r01
            have NT := Lib.hid (twoT_next (x := [32, 32, 106, 117, 109, 112, 32, 104, 101, 114, 101, 10]) (y := [32, 32, 106, 117, 109, 112, 32, 116, 104, 101, 114, 101, 50, 10]) HT.out (by rw [if_neg (by simpa using ea), show rnd jhereB f i = jhereB from if_pos (by have := ef.out; omega)]; rfl) (by rw [if_neg (by simpa using ea), show rnd jthereB f i = jthereB from if_pos (by have := ef.out; omega)]; rfl))
            have eb : ((i : Int) == (f : Int)) = true := by rw [beq_iff_eq]; have := ef.out; omega
            go_wp2_with fail
            go_roundg (k - (i + 1))
            case measure => have := HX.out; omega
            case rel =>
              exact ⟨i + 1, _, _, by simp [HWK.out.2, ef.out], rfl, rfl, by have := HX.out; omega, rfl, Lib.hid NT.out, Nat.le_trans NT.out.2.2.1 (by have := HX.out; have := HK.out; omega), Nat.le_trans NT.out.2.2.2 (by have := HX.out; have := HK.out; omega), rfl⟩
            --]]r01
          · have ef := Lib.hid ef
            --[[r00
            have NT := Lib.hid (twoT_next (x := [32, 32, 110, 111, 112, 10]) (y := [32, 32, 110, 111, 112, 10]) HT.out (by rw [if_neg (by simpa using ea), show rnd jhereB f i = nopB from if_neg (by have := ef.out; omega)]; rfl) (by rw [if_neg (by simpa using ea), show rnd jthereB f i = nopB from if_neg (by have := ef.out; omega)]; rfl))
            have eb : ((i : Int) == (f : Int)) = false := by rw [beq_eq_false_iff_ne]; have := ef.out; omega
            go_wp2_with fail
            go_roundg (k - (i + 1))
            case measure => have := HX.out; omega
            case rel =>
              exact ⟨i + 1, _, _, by simp [HWK.out.1], rfl, rfl, by have := HX.out; omega, rfl, Lib.hid NT.out, Nat.le_trans NT.out.2.2.1 (by have := HX.out; have := HK.out; omega), Nat.le_trans NT.out.2.2.2 (by have := HX.out; have := HK.out; omega), rfl⟩
            --]]r00
      · obtain rfl : i = k := by omega
        have HT := hT
        clear hT hgk hi
        --[[end
        go_upto_if 68 with (fail)
        go_cut [7, 8] (fun v7 v8 wx => ∃ s1 t1 : ByteArray, v7 = .string s1 ∧ v8 = .string t1 ∧ Hid (TwoA a f i s1 t1) ∧ s1.size ≤ 2000 ∧ wx = wr)
        case first =>
          cases ea : (a == (i : Int)) with
          | true =>
            go_wp2_with fail
            go_meet
            case rel => have h := twoA_yes HT.out HK.out.2.1 (by have : a = i := (by simpa using ea); exact this.symm); exact ⟨_, _, rfl, rfl, Lib.hid h, h.2.2, rfl⟩
          | false =>
            go_wp2_with fail
            go_meet
            case rel => have h := twoA_no HT.out HK.out.2.1 (fun e => by rw [e] at ea; simp at ea); exact ⟨_, _, rfl, rfl, Lib.hid h, h.2.2, rfl⟩
        case rest =>
          obtain ⟨s1, t1, rfl, rfl, HA, hsz, rfl⟩ := hcut
          have hu : (⟨#[104, 101, 114, 101, 58, 10]⟩ ++ s1 : ByteArray).data.toList = textB [hereB] ++ s1.data.toList := by rw [ByteArray.data_append, Array.toList_append]; rfl
          have LR := Lib.hid (labR_of HA.out hu HK.out.2.1 HK.out.2.2.1 HK.out.2.2.2.2)
          have PA := Lib.hid (fun W (G : Gl Tryz.prog N W) => asm_any s1 W G)
          have PB := Lib.hid (fun W (G : Gl Tryz.prog N W) => asm_any t1 W G)
          have PC := Lib.hid (fun W (G : Gl Tryz.prog N W) => asm_any (⟨#[104, 101, 114, 101, 58, 10]⟩ ++ s1) W G)
          obtain ⟨⟨p1, l1, c1⟩, hr1⟩ : ∃ r, r = asmL s1 := ⟨_, rfl⟩
          obtain ⟨⟨p2, l2, c2⟩, hr2⟩ : ∃ r, r = asmL t1 := ⟨_, rfl⟩
          obtain ⟨⟨p3, l3, c3⟩, hr3⟩ : ∃ r, r = asmL (⟨#[104, 101, 114, 101, 58, 10]⟩ ++ s1) := ⟨_, rfl⟩
          rw [← hr1, ← hr2, ← hr3] at LR
          rw [← hr1] at PA
          rw [← hr2] at PB
          rw [← hr3] at PC
          clear hr1 hr2 hr3 hu HA HT
          go_wp2_with fail
          refine (PA.out _ (HG.out.below H1.out)).mono ?_
          rintro e w2 ⟨⟨ca, cn, cc, ka, kn, kc, na, nn, nc, pl⟩, rfl, hI1, hB2⟩
          dsimp only
          obtain ⟨W2, hW2⟩ : ∃ W2, W2 = (w2.alloc (.cells #[.slice ca cn cc, .slice ka kn kc, .slice na nn nc, .int .i64 pl] 26)).alloc (.cells #[.int .i64 l1, .int .i64 c1] 52) := ⟨_, rfl⟩
          have BW2 : Below w2.heap.size w2 W2 := by rw [hW2]; exact ((Below.refl _ _).alloc (Nat.le_refl _) _).alloc (by simp) _
          have a2 : W2.heap[w2.heap.size]? = some (.cells #[.slice ca cn cc, .slice ka kn kc, .slice na nn nc, .int .i64 pl] 26 (0, 0)) := by rw [hW2]; exact heap_lt2
          have b2 : W2.heap[w2.heap.size + 1]? = some (.cells #[.int .i64 l1, .int .i64 c1] 52 (0, 0)) := by rw [hW2]; exact heap_new2
          have H2 := Lib.hid (And.intro (H1.out.trans ((hB2.trans (BW2.mono hB2.size)).mono H1.out.size)) (And.intro a2 (And.intro b2 (hI1.keep (S := fun _ => False) (Keeps.of_below BW2) (fun _ _ f => f)))))
          clear BW2 a2 b2 hI1 hB2 PA
          go_wp2_with fail
          rw [← hW2]
          clear hW2
          refine (PB.out _ (HG.out.below H2.out.1)).mono ?_
          rintro e w4 ⟨⟨da, dn, dc, ea, en, ec, fa, fn, fc, pm⟩, rfl, hI2, hB4⟩
          dsimp only
          obtain ⟨W4, hW4⟩ : ∃ W4, W4 = (w4.alloc (.cells #[.slice da dn dc, .slice ea en ec, .slice fa fn fc, .int .i64 pm] 26)).alloc (.cells #[.int .i64 l2, .int .i64 c2] 52) := ⟨_, rfl⟩
          have BW4 : Below w4.heap.size w4 W4 := by rw [hW4]; exact ((Below.refl _ _).alloc (Nat.le_refl _) _).alloc (by simp) _
          have a4 : W4.heap[w4.heap.size]? = some (.cells #[.slice da dn dc, .slice ea en ec, .slice fa fn fc, .int .i64 pm] 26 (0, 0)) := by rw [hW4]; exact heap_lt2
          have b4 : W4.heap[w4.heap.size + 1]? = some (.cells #[.int .i64 l2, .int .i64 c2] 52 (0, 0)) := by rw [hW4]; exact heap_new2
          have B24 := hB4.trans (BW4.mono hB4.size)
          have H4 := Lib.hid (And.intro (H2.out.1.trans (B24.mono H2.out.1.size)) (And.intro ((B24.block _ (lt_of_heap H2.out.2.1)).trans H2.out.2.1) (And.intro ((B24.block _ (lt_of_heap H2.out.2.2.1)).trans H2.out.2.2.1) (And.intro (H2.out.2.2.2.keep (S := fun _ => False) (Keeps.of_below B24) (fun _ _ f => f)) (And.intro a4 (And.intro b4 (hI2.keep (S := fun _ => False) (Keeps.of_below BW4) (fun _ _ f => f))))))))
          clear BW4 a4 b4 hI2 hB4 PB B24 H2
          go_wp2_with fail
          rw [← hW4]
          clear hW4
          refine (PC.out _ (HG.out.below H4.out.1)).mono ?_
          rintro e w6 ⟨⟨ga, gn, gc, ha, hn, hc, ja, jn, jc, po⟩, rfl, hI3, hB6⟩
          dsimp only
          have B46 := hB6
          have x0 := (B46.block _ (lt_of_heap H4.out.2.1)).trans H4.out.2.1
          have x1 := (B46.block _ (lt_of_heap H4.out.2.2.1)).trans H4.out.2.2.1
          have x2 := (B46.block _ (lt_of_heap H4.out.2.2.2.2.1)).trans H4.out.2.2.2.2.1
          have x3 := (B46.block _ (lt_of_heap H4.out.2.2.2.2.2.1)).trans H4.out.2.2.2.2.2.1
          have I1 := H4.out.2.2.2.1.keep (S := fun _ => False) (Keeps.of_below B46) (fun _ _ f => f)
          have I2 := H4.out.2.2.2.2.2.2.keep (S := fun _ => False) (Keeps.of_below B46) (fun _ _ f => f)
          have y0 : w6.cell? ⟨w2.heap.size, 0, none⟩ = some (.slice ca cn cc) := by rw [cell_of_heap x0]; rfl
          have y1 : w6.cell? ⟨w2.heap.size + 1, 0, none⟩ = some (.int .i64 l1) := by rw [cell_of_heap x1]; rfl
          have y2 : w6.cell? ⟨w2.heap.size + 1, 1, none⟩ = some (.int .i64 c1) := by rw [cell_of_heap x1]; rfl
          have y3 : w6.cell? ⟨w4.heap.size, 0, none⟩ = some (.slice da dn dc) := by rw [cell_of_heap x2]; rfl
          have y4 : w6.cell? ⟨w4.heap.size + 1, 0, none⟩ = some (.int .i64 l2) := by rw [cell_of_heap x3]; rfl
          have y5 : w6.cell? ⟨w4.heap.size + 1, 1, none⟩ = some (.int .i64 c2) := by rw [cell_of_heap x3]; rfl
          have z0 := lt_of_heap x0
          have z1 := lt_of_heap x1
          have z2 := lt_of_heap x2
          have z3 := lt_of_heap x3
          have HB := Lib.hid (H4.out.1.trans (B46.mono H4.out.1.size))
          have HI := Lib.hid (And.intro I1 I2)
          have hwf : IntKind.i64.wrap ((f : Int) + 1) = (f : Int) + 1 := IntWalk.i64_in _ (by have := HK.out; omega)
          have hwg : IntKind.i64.wrap ((f : Int) + 1 + 1) = (f : Int) + 1 + 1 := IntWalk.i64_in _ (by have := HK.out; omega)
          clear x0 x1 x2 x3 I1 I2 B46 hB6 hI3 PC H4 hsz
          rcases LR.out with ⟨h0, h1, h2⟩ | ⟨h0, h1, h2, h3⟩ | ⟨h0, h0', ⟨q, h1, hql, hqc⟩, h2, h3⟩
          · cases h1
            cases h2
            have d0 : decide ((0 : Int) ≤ a) = false := decide_eq_false (by omega)
            have d1 : decide (a < 0) = true := decide_eq_true h0
            have hwf := Lib.hid hwf
            have hwg := Lib.hid hwg
            clear LR
            --[[c1
            go_wp2_with fail
            go_ret
            exact ⟨by simp, (HB.out.alloc HB.out.size _).alloc (by have := HB.out.size; simp; omega) _⟩
            --]]c1
          · cases h1
            cases h2
            cases h3
            subst h0
            have d0 : decide ((0 : Int) ≤ (i : Int)) = true := decide_eq_true (by omega)
            have d2 : decide ((i : Int) ≤ (f : Int)) = false := decide_eq_false (by have := HK.out; omega)
            have d3 : decide (i ≤ f) = false := decide_eq_false (by have := HK.out; omega)
            have d1 : decide ((i : Int) < 0) = false := decide_eq_false (by omega)
            have hwn : IntKind.i64.wrap ((i : Int) + 2) = (i : Int) + 2 := IntWalk.i64_in _ (by have := HK.out; omega)
            clear LR
            --[[c2
            go_wp2_with fail
            go_ret
            exact ⟨by simp, (HB.out.alloc HB.out.size _).alloc (by have := HB.out.size; simp; omega) _⟩
            --]]c2
          · cases h1
            cases h2
            cases h3
            obtain ⟨g1, o1, e1, _, hg1, hc1⟩ := HI.out.1.code.at_ hqc
            obtain ⟨g2, o2, e2, _, hg2, hc2⟩ := HI.out.2.code.at_ hqc
            have m1 := hc1 1 _ rfl
            have m2 := hc2 1 _ rfl
            have n1 := HI.out.1.lens.1
            have n2 := HI.out.2.lens.1
            dsimp only at e1 e2 n1 n2
            subst e1 e2
            rw [show ∀ o, o + (f * sz In + 1) = o + f * 2 + 1 from fun o => rfl] at m1 m2
            have d0 : decide (a < 0) = false := decide_eq_false (by omega)
            have d2 : (a == (i : Int)) = false := by rw [beq_eq_false_iff_ne]; omega
            have lf1 : (f : Int) < cn := by have := HK.out; omega
            have lf2 : (f : Int) < dn := by have := HK.out; omega
            have hwn : IntKind.i64.wrap (a + 2) = a + 2 := IntWalk.i64_in _ (by have := HK.out; omega)
            have HN := Lib.hid (And.intro n1 (And.intro n2 hql))
            clear LR hc1 hc2 n1 n2 hql hqc
            --[[c3
            cases d4 : decide ((0 : Int) ≤ a) with
            | true =>
              cases d5 : decide (a ≤ (f : Int)) with
              | true =>
                go_wp2_with fail
                go_ret
                exact ⟨by simp, (HB.out.alloc HB.out.size _).alloc (by have := HB.out.size; simp; omega) _⟩
              | false =>
                go_wp2_with fail
                go_ret
                exact ⟨by simp, (HB.out.alloc HB.out.size _).alloc (by have := HB.out.size; simp; omega) _⟩
            | false => exact absurd h0 (of_decide_eq_false d4)
            --]]c3
        --]]end
    --]]main
--]]labels
end Go.Proofs.YtielnengimninaaGreatDoor
