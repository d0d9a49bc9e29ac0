/- VerifyStack, walked. -/
import Derived.Test.YtielnengimninaaGreatDoorV31
namespace Go.Proofs.YtielnengimninaaGreatDoor
open Go.RowKit Go.Own Go.Own.MapTy Go.Va Go.Sort
open Go.Own.Cells (sz enc)
theorem stackT_now (i : Nat) : textB (List.replicate (i + 1) nowB) = textB (List.replicate i nowB) ++ (nowB ++ [10]) := by
  rw [List.replicate_succ', textB_app]
  rfl
theorem stackT_pop (a i : Nat) : textB (List.replicate a nowB ++ List.replicate (i + 1) popB) = textB (List.replicate a nowB ++ List.replicate i popB) ++ (popB ++ [10]) := by
  rw [List.replicate_succ', ← List.append_assoc, textB_app]
  rfl
theorem stackT_end (a b : Nat) : textB (stackT a b) = textB (List.replicate a nowB ++ List.replicate b popB) ++ (failB ++ [10]) := by
  unfold stackT
  rw [← List.append_assoc, textB_app]
  rfl
--[[stack
set_option maxRecDepth 100000 in
set_option maxHeartbeats 8000000 in
theorem stack_walk {N : Nat} (pa pb : Int) (w : World) (G : Gl Tryz.prog N w) : Calls Tryz.prog 5 #[.int .i64 pa, .int .i64 pb] w fun en w' => en = .returned (.bool true) ∧ Below w.heap.size w w' := by
  have HG := Lib.hid G
  clear G
  go_enter Tryz.func5, Tryz.ntmps5
  go_wp2_with fail
  refine (asks_true _ HG.out).mono ?_
  rintro en w1 ⟨rfl, hB1⟩
  have H1 := Lib.hid hB1
  clear hB1
  by_cases hout : pa < 0 ∨ 40 < pa ∨ pb < 0 ∨ 40 < pb
  · have _u := trivial
    --[[k0
    have e0 : (decide (pa < 0) || (decide (40 < pa) || (decide (pb < 0) || decide (40 < pb)))) = true := by simpa using hout
    cases e1 : decide (pa < 0) with
    | true =>
      go_wp2_with fail
      go_ret
      exact ⟨rfl, H1.out⟩
    | false =>
      cases e2 : decide (40 < pa) with
      | true =>
        go_wp2_with fail
        go_ret
        exact ⟨rfl, H1.out⟩
      | false =>
        cases e3 : decide (pb < 0) with
        | true =>
          go_wp2_with fail
          go_ret
          exact ⟨rfl, H1.out⟩
        | false =>
          have e4 : decide (40 < pb) = true := by rw [e1, e2, e3] at e0; simpa using e0
          clear e0 hout
          go_wp2_with fail
          go_ret
          exact ⟨rfl, H1.out⟩
    --]]k0
  · obtain ⟨a, rfl⟩ : ∃ k : Nat, pa = k := ⟨pa.toNat, by omega⟩
    obtain ⟨b, rfl⟩ : ∃ k : Nat, pb = k := ⟨pb.toNat, by omega⟩
    have ha : a ≤ 40 := by omega
    have hb : b ≤ 40 := by omega
    have d1 : decide ((a : Int) < 0) = false := decide_eq_false (by omega)
    have d2 : decide (40 < (a : Int)) = false := decide_eq_false (by omega)
    have d3 : decide ((b : Int) < 0) = false := decide_eq_false (by omega)
    have d4 : decide (40 < (b : Int)) = false := decide_eq_false (by omega)
    have AS := Lib.hid (fun (s : ByteArray) (W : World) (K : Below w.heap.size w W) (hs : s.data.toList = textB (stackT a b)) => stack_asm a b ha hb hs ▸ asm_any s W (HG.out.below K))
    clear hout
    --[[k1
    go_wp2_with fail
    go_loopg [27, 5] a (fun gk v27 v5 wr => ∃ (i : Nat) (s : ByteArray), v27 = .int .i64 i ∧ v5 = .string s ∧ i ≤ a ∧ gk = a - i ∧ s.data.toList = textB (List.replicate i nowB) ∧ s.size ≤ 10 * i ∧ wr = w1)
    case atStart => exact ⟨0, ⟨#[]⟩, rfl, rfl, Nat.zero_le _, rfl, rfl, Nat.zero_le _, rfl⟩
    case round =>
      obtain ⟨i, s, rfl, rfl, hi, hgk, hs, hsz, rfl⟩ := hrel
      by_cases hin : i < a
      · have hin' : (i : Int) < a := by omega
        have HX := Lib.hid (And.intro hs hgk)
        clear hs hgk
        go_wp2_with fail
        go_roundg (a - (i + 1))
        case measure => have := HX.out.2; omega
        case rel => exact ⟨i + 1, s ++ ⟨#[32, 32, 110, 111, 119, 10]⟩, by simp, rfl, by omega, rfl, by rw [stackT_now, ← HX.out.1]; exact str_app _ _, by rw [ByteArray.size_append]; have : (⟨#[32, 32, 110, 111, 119, 10]⟩ : ByteArray).size = 6 := rfl; omega, rfl⟩
      · obtain rfl : i = a := by omega
        obtain ⟨wo, rfl⟩ : ∃ wo : World, wo = wr := ⟨_, rfl⟩
        have HS := Lib.hid (And.intro hs hsz)
        clear hs hgk hsz
        go_wp2_with fail
        go_loopg [33, 5] b (fun gk v33 v5 wr => ∃ (j : Nat) (s : ByteArray), v33 = .int .i64 j ∧ v5 = .string s ∧ j ≤ b ∧ gk = b - j ∧ s.data.toList = textB (List.replicate i nowB ++ List.replicate j popB) ∧ s.size ≤ 10 * i + 10 * j ∧ wr = wo)
        case atStart => exact ⟨0, s, rfl, rfl, Nat.zero_le _, rfl, by simpa using HS.out.1, HS.out.2, rfl⟩
        case round =>
          obtain ⟨j, s2, rfl, rfl, hj, hgk, hs, hsz, rfl⟩ := hrel
          by_cases hjn : j < b
          · have hjn' : (j : Int) < b := by omega
            have HX := Lib.hid (And.intro hs hgk)
            clear hs hgk
            go_wp2_with fail
            go_roundg (b - (j + 1))
            case measure => have := HX.out.2; omega
            case rel => exact ⟨j + 1, s2 ++ ⟨#[32, 32, 112, 111, 112, 10]⟩, by simp, rfl, by omega, rfl, by rw [stackT_pop, ← HX.out.1]; exact str_app _ _, by rw [ByteArray.size_append]; have : (⟨#[32, 32, 112, 111, 112, 10]⟩ : ByteArray).size = 6 := rfl; omega, rfl⟩
          · obtain rfl : j = b := by omega
            have PA := Lib.hid (AS.out (s2 ++ ⟨#[32, 32, 102, 97, 105, 108, 32, 34, 120, 34, 10]⟩) wr H1.out (by rw [stackT_end, ← hs]; exact str_app _ _))
            clear hs hgk
            go_wp2_with fail
            refine PA.out.mono ?_
            rintro en w2 ⟨⟨ca, cn, cc, ka, kn, kc, na, nn, nc, pl⟩, rfl, hI, hB⟩
            have H2 := Lib.hid (H1.out.trans (hB.mono H1.out.size))
            by_cases h32 : 32 < i
            · have _u := trivial
              --[[k2
              have e5 : decide (32 < (i : Int)) = true := decide_eq_true (by omega)
              have CA := Lib.hid (fun W (K : Below w2.heap.size w2 W) => stack_high h32 ha hb ▸ vcheck_any _ _ (stackP i j) W (hI.keep (S := fun _ => False) (Keeps.of_below K) (fun _ _ f => f)) (by intro x hx; cases hx) _ rfl)
              clear hI hB PA
              dsimp only
              go_wp2_with fail
              refine (CA.out _ (by exact ((Below.refl _ _).alloc (Nat.le_refl _) _).alloc (by simp) _)).mono ?_
              rintro en w3 ⟨v3, rfl, H3⟩
              obtain ⟨xa, xc, rfl⟩ := H3.out.1.slice
              dsimp only [noFa, List.length_nil] at H3 ⊢
              have BZ := Lib.hid ((H2.out.trans ((((Below.refl _ _).alloc (Nat.le_refl _) _).alloc (by simp) _).mono H2.out.size)).trans (H3.out.2.2.mono (by have := H2.out.size; simp; omega)))
              clear CA H3
              go_wp2_with fail
              go_ret
              exact ⟨by simp, (BZ.out.alloc BZ.out.size _).alloc (by have := BZ.out.size; simp; omega) _⟩
              --]]k2
            · have e5 : decide (32 < (i : Int)) = false := decide_eq_false (by omega)
              by_cases hji : i < j
              · have _u := trivial
                --[[k3
                have e6 : decide ((i : Int) < (j : Int)) = true := decide_eq_true (by omega)
                have hw2 : IntKind.i64.wrap (2 * (i : Int)) = 2 * (i : Int) := IntWalk.i64_in _ (by omega)
                have CA := Lib.hid (fun W (K : Below w2.heap.size w2 W) => stack_low (by omega) hji hb ▸ vcheck_any _ _ (stackP i j) W (hI.keep (S := fun _ => False) (Keeps.of_below K) (fun _ _ f => f)) (by intro x hx; cases hx) _ rfl)
                clear hI hB PA
                dsimp only
                go_wp2_with fail
                refine (CA.out _ (by exact ((Below.refl _ _).alloc (Nat.le_refl _) _).alloc (by simp) _)).mono ?_
                rintro en w3 ⟨v3, rfl, H3⟩
                obtain ⟨xa, xc, rfl⟩ := H3.out.1.slice
                dsimp only [noFa, List.length_nil] at H3 ⊢
                have BZ := Lib.hid ((H2.out.trans ((((Below.refl _ _).alloc (Nat.le_refl _) _).alloc (by simp) _).mono H2.out.size)).trans (H3.out.2.2.mono (by have := H2.out.size; simp; omega)))
                clear CA H3
                go_wp2_with fail
                go_ret
                exact ⟨by simp, (BZ.out.alloc BZ.out.size _).alloc (by have := BZ.out.size; simp; omega) _⟩
                --]]k3
              · have _u := trivial
                --[[k4
                have e6 : decide ((i : Int) < (j : Int)) = false := decide_eq_false (by omega)
                have hw3 : IntKind.i64.wrap ((i : Int) + j) = (i : Int) + j := IntWalk.i64_in _ (by omega)
                have hw4 : IntKind.i64.wrap ((i : Int) + j + 1) = (i : Int) + j + 1 := IntWalk.i64_in _ (by omega)
                obtain ⟨fa, hfa, f1, f2⟩ := stack_ok (a := i) (b := j) (by omega) (by omega)
                have CA := Lib.hid (fun W (K : Below w2.heap.size w2 W) => hfa ▸ vcheck_any _ _ (stackP i j) W (hI.keep (S := fun _ => False) (Keeps.of_below K) (fun _ _ f => f)) (by intro x hx; cases hx) _ rfl)
                clear hI hB PA
                dsimp only
                go_wp2_with fail
                refine (CA.out _ (by exact ((Below.refl _ _).alloc (Nat.le_refl _) _).alloc (by simp) _)).mono ?_
                rintro en w3 ⟨v3, rfl, H3⟩
                obtain ⟨xa, xc, rfl⟩ := H3.out.1.slice
                obtain ⟨fh, fm, fs⟩ := fa
                dsimp only at f1 f2
                subst f1
                subst f2
                dsimp only at H3 ⊢
                have BZ := Lib.hid ((H2.out.trans ((((Below.refl _ _).alloc (Nat.le_refl _) _).alloc (by simp) _).mono H2.out.size)).trans (H3.out.2.2.mono (by have := H2.out.size; simp; omega)))
                clear CA H3
                clear hfa
                go_wp2_with fail
                go_ret
                exact ⟨by simp, (BZ.out.alloc BZ.out.size _).alloc (by have := BZ.out.size; simp; omega) _⟩
                --]]k4
    --]]k1
--]]stack
end Go.Proofs.YtielnengimninaaGreatDoor
