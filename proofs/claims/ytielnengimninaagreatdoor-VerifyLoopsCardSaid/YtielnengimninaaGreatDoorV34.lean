/- VerifyLoops, walked. -/
import Derived.Test.YtielnengimninaaGreatDoorV31
namespace Go.Proofs.YtielnengimninaaGreatDoor
open Go.RowKit Go.Own Go.Own.MapTy Go.Va Go.Sort
open Go.Own.Cells (sz enc)
theorem lit64L {n : Int} (h : (Lit.int .i64 n).wf = true) : -9223372036854775808 ≤ n ∧ n ≤ 9223372036854775807 := by
  have : IntKind.i64.min ≤ n ∧ n ≤ 9223372036854775807 := by simpa [Lit.wf, IntKind.bits, IntKind.signed] using h
  exact this
/-- the lines between label and jump -/
def bodyT (wt : Int) : Nat → List (List UInt8)
  | 0 => []
  | i + 1 => bodyT wt i ++ (bif (i : Int) == wt then [sigB, popB] else [nopB])
theorem bodyT_no {wt : Int} : ∀ {n : Nat}, (wt < 0 ∨ (n : Int) ≤ wt) → bodyT wt n = List.replicate n nopB
  | 0, _ => rfl
  | n + 1, h => by
    have h1 : ((n : Int) == wt) = false := by rw [beq_eq_false_iff_ne]; omega
    rw [bodyT, h1, bodyT_no (n := n) (by omega), List.replicate_succ']
    rfl
theorem bodyT_yes (w : Nat) : ∀ m : Nat, bodyT w (w + 1 + m) = List.replicate w nopB ++ (sigB :: popB :: List.replicate m nopB)
  | 0 => by
    have h1 : ((w : Int) == (w : Int)) = true := by simp
    rw [Nat.add_zero, bodyT, h1, bodyT_no (.inr (Int.le_refl _))]
    rfl
  | m + 1 => by
    have h1 : (((w + 1 + m : Nat) : Int) == (w : Int)) = false := by rw [beq_eq_false_iff_ne]; omega
    rw [show w + 1 + (m + 1) = (w + 1 + m) + 1 by omega, bodyT, h1, bodyT_yes w m, List.replicate_succ']
    simp
theorem loopsT_nop (f i : Nat) (wt : Int) (h : ((i : Int) == wt) = false) : textB (List.replicate f nopB ++ (labB :: bodyT wt (i + 1))) = textB (List.replicate f nopB ++ (labB :: bodyT wt i)) ++ (nopB ++ [10]) := by
  rw [bodyT, h]
  simp only [cond_false]
  rw [← List.cons_append, ← List.append_assoc, textB_app]
  rfl
theorem loopsT_sig (f i : Nat) (wt : Int) (h : ((i : Int) == wt) = true) : textB (List.replicate f nopB ++ (labB :: bodyT wt (i + 1))) = textB (List.replicate f nopB ++ (labB :: bodyT wt i)) ++ (sigB ++ [10] ++ (popB ++ [10])) := by
  rw [bodyT, h]
  simp only [cond_true]
  rw [← List.cons_append, ← List.append_assoc, textB_app]
  rfl
theorem loopsT_end (f n : Nat) (wt : Int) : textB (List.replicate f nopB ++ (labB :: (bodyT wt n ++ [jumpB]))) = textB (List.replicate f nopB ++ (labB :: bodyT wt n)) ++ (jumpB ++ [10]) := by
  rw [← List.cons_append, ← List.append_assoc, textB_app]
  rfl
theorem nopsT (i : Nat) : textB (List.replicate (i + 1) nopB) = textB (List.replicate i nopB) ++ (nopB ++ [10]) := by
  rw [List.replicate_succ', textB_app]
  rfl
/-- what the law's text is, and what is known of it -/
theorem loops_know {s : ByteArray} {f n : Nat} {wt : Int} (h1 : f ≤ 20) (h0 : 0 < n) (h2 : n ≤ 20) (hs : s.data.toList = textB (List.replicate f nopB ++ (labB :: (bodyT wt n ++ [jumpB])))) :
    ∃ (p : Img) (fa : Fa) (at_ e : Int), asmL s = (p, 0, 0) ∧ p.consts = [] ∧ checkG p = (fa, at_, e) ∧ ((wt < 0 ∨ (n : Int) ≤ wt) → at_ = f ∧ e = 133) ∧ (¬ (wt < 0 ∨ (n : Int) ≤ wt) → e = 0 ∧ fa.most = 1 ∧ fa.span = max ((f : Int) + wt + 1) ((n : Int) + 2)) := by
  by_cases h : wt < 0 ∨ (n : Int) ≤ wt
  · rw [bodyT_no h] at hs
    exact ⟨ringP f n, noFa, f, 133, ring_asm h1 h2 hs, rfl, ring_loop h0 h1 h2, fun _ => ⟨rfl, rfl⟩, fun k => absurd h k⟩
  · obtain ⟨w, rfl⟩ : ∃ w : Nat, wt = w := ⟨wt.toNat, by omega⟩
    obtain ⟨m, rfl⟩ : ∃ m, n = w + 1 + m := ⟨n - (w + 1), by omega⟩
    rw [bodyT_yes] at hs
    have hs2 : s.data.toList = textB (waitT f w m) := by
      rw [hs]
      unfold waitT
      congr 3
      simp
    obtain ⟨fa, e1, e2, e3⟩ := wait_ok (f := f) (w := w) (m := m) h1 (by omega)
    exact ⟨waitP f w m, fa, -1, 0, wait_asm h1 (by omega) hs2, rfl, e1, fun k => absurd k h, fun _ => ⟨rfl, e2, by rw [e3]; omega⟩⟩
--[[loops
set_option maxRecDepth 100000 in
set_option maxHeartbeats 8000000 in
theorem loops_walk {N : Nat} (pf pn wt : Int) (w : World) (G : Gl Tryz.prog N w) (hwt : -9223372036854775808 ≤ wt ∧ wt ≤ 9223372036854775807) : Calls Tryz.prog 7 #[.int .i64 pf, .int .i64 pn, .int .i64 wt] w fun en w' => en = .returned (.bool true) ∧ Below w.heap.size w w' := by
  have HG := Lib.hid G
  clear G
  go_enter Tryz.func7, Tryz.ntmps7
  go_wp2_with fail
  refine (asks_true _ HG.out).mono ?_
  rintro en w1 ⟨rfl, hB1⟩
  have H1 := Lib.hid hB1
  clear hB1
  by_cases hout : pf < 0 ∨ 20 < pf ∨ pn < 1 ∨ 20 < pn
  · have _u := trivial
    --[[k0
    have e0 : (decide (pf < 0) || (decide (20 < pf) || (decide (pn < 1) || decide (20 < pn)))) = true := by simpa using hout
    cases e1 : decide (pf < 0) with
    | true =>
      go_wp2_with fail
      go_ret
      exact ⟨rfl, H1.out⟩
    | false =>
      cases e2 : decide (20 < pf) with
      | true =>
        go_wp2_with fail
        go_ret
        exact ⟨rfl, H1.out⟩
      | false =>
        cases e3 : decide (pn < 1) with
        | true =>
          go_wp2_with fail
          go_ret
          exact ⟨rfl, H1.out⟩
        | false =>
          have e4 : decide (20 < pn) = true := by rw [e1, e2, e3] at e0; simpa using e0
          clear e0 hout
          go_wp2_with fail
          go_ret
          exact ⟨rfl, H1.out⟩
    --]]k0
  · obtain ⟨f, rfl⟩ : ∃ k : Nat, pf = k := ⟨pf.toNat, by omega⟩
    obtain ⟨n, rfl⟩ : ∃ k : Nat, pn = k := ⟨pn.toNat, by omega⟩
    have hf : f ≤ 20 := by omega
    have hn0 : 0 < n := by omega
    have hn : n ≤ 20 := by omega
    have d1 : decide ((f : Int) < 0) = false := decide_eq_false (by omega)
    have d2 : decide (20 < (f : Int)) = false := decide_eq_false (by omega)
    have d3 : decide ((n : Int) < 1) = false := decide_eq_false (by omega)
    have d4 : decide (20 < (n : Int)) = false := decide_eq_false (by omega)
    have KN2 := Lib.hid (fun (s : ByteArray) (hs : s.data.toList = textB (List.replicate f nopB ++ (labB :: (bodyT wt n ++ [jumpB])))) => loops_know hf hn0 hn hs)
    clear hout
    --[[k1
    go_wp2_with fail
    go_loopg [30, 7] f (fun gk v30 v7 wr => ∃ (i : Nat) (s : ByteArray), v30 = .int .i64 i ∧ v7 = .string s ∧ i ≤ f ∧ gk = f - i ∧ s.data.toList = textB (List.replicate i nopB) ∧ s.size ≤ 30 * i ∧ wr = w1)
    case atStart => exact ⟨0, ⟨#[]⟩, rfl, rfl, Nat.zero_le _, rfl, rfl, Nat.zero_le _, rfl⟩
    case round =>
      obtain ⟨i, s, rfl, rfl, hi, hgk, hs, hsz, rfl⟩ := hrel
      by_cases hin : i < f
      · have hin' : (i : Int) < f := by omega
        have HX := Lib.hid (And.intro hs hgk)
        clear hs hgk
        go_wp2_with fail
        go_roundg (f - (i + 1))
        case measure => have := HX.out.2; omega
        case rel => exact ⟨i + 1, s ++ ⟨#[32, 32, 110, 111, 112, 10]⟩, by simp, rfl, by omega, rfl, by rw [nopsT, ← HX.out.1]; exact str_app _ _, by rw [ByteArray.size_append]; have : (⟨#[32, 32, 110, 111, 112, 10]⟩ : ByteArray).size = 6 := rfl; omega, rfl⟩
      · obtain rfl : i = f := by omega
        obtain ⟨wo, rfl⟩ : ∃ wo : World, wo = wr := ⟨_, rfl⟩
        have HS := Lib.hid (And.intro hs hsz)
        clear hs hgk
        go_wp2_with fail
        go_loopg [38, 7] n (fun gk v38 v7 wr => ∃ (j : Nat) (s : ByteArray), v38 = .int .i64 j ∧ v7 = .string s ∧ j ≤ n ∧ gk = n - j ∧ s.data.toList = textB (List.replicate i nopB ++ (labB :: bodyT wt j)) ∧ s.size ≤ 30 * i + 30 * j + 4 ∧ wr = wo)
        case atStart => exact ⟨0, s ++ ⟨#[108, 49, 58, 10]⟩, rfl, rfl, Nat.zero_le _, rfl, by rw [textB_app, ← HS.out.1]; exact str_app _ _, by rw [ByteArray.size_append]; have := HS.out.2; have : (⟨#[108, 49, 58, 10]⟩ : ByteArray).size = 4 := rfl; omega, rfl⟩
        case round =>
          obtain ⟨j, s2, rfl, rfl, hj, hgk, hs, hsz2, rfl⟩ := hrel
          by_cases hjn : j < n
          · have hjn' : (j : Int) < n := by omega
            cases hjw : ((j : Int) == wt) with
            | true =>
              --[[k2
              have HX := Lib.hid (And.intro hs hgk)
              clear hs hgk
              go_wp2_with fail
              go_roundg (n - (j + 1))
              case measure => have := HX.out.2; omega
              case rel => exact ⟨j + 1, s2 ++ ⟨#[32, 32, 115, 105, 103, 110, 97, 108, 32, 34, 103, 111, 34, 10, 32, 32, 112, 111, 112, 10]⟩, by simp, rfl, by omega, rfl, by rw [loopsT_sig _ _ _ hjw, ← HX.out.1]; exact str_app _ _, by rw [ByteArray.size_append]; have : (⟨#[32, 32, 115, 105, 103, 110, 97, 108, 32, 34, 103, 111, 34, 10, 32, 32, 112, 111, 112, 10]⟩ : ByteArray).size = 20 := rfl; omega, rfl⟩
              --]]k2
            | false =>
              --[[k3
              have HX := Lib.hid (And.intro hs hgk)
              clear hs hgk
              go_wp2_with fail
              go_roundg (n - (j + 1))
              case measure => have := HX.out.2; omega
              case rel => exact ⟨j + 1, s2 ++ ⟨#[32, 32, 110, 111, 112, 10]⟩, by simp, rfl, by omega, rfl, by rw [loopsT_nop _ _ _ hjw, ← HX.out.1]; exact str_app _ _, by rw [ByteArray.size_append]; have : (⟨#[32, 32, 110, 111, 112, 10]⟩ : ByteArray).size = 6 := rfl; omega, rfl⟩
              --]]k3
          · obtain rfl : j = n := by omega
            obtain ⟨p, fa, at_, er, hp, hpc, hck, hA, hBb⟩ := KN2.out (s2 ++ ⟨#[32, 32, 106, 117, 109, 112, 32, 108, 49, 10]⟩) (by rw [loopsT_end, ← hs]; exact str_app _ _)
            have PA := Lib.hid (hp ▸ asm_any (s2 ++ (⟨#[32, 32, 106, 117, 109, 112, 32, 108, 49, 10]⟩ : ByteArray)) wr (HG.out.below H1.out))
            have HA := Lib.hid (And.intro hA hBb)
            clear hs hgk hp hA hBb
            go_wp2_with fail
            refine PA.out.mono ?_
            rintro en w2 ⟨⟨ca, cn, cc, ka, kn, kc, na, nn, nc, pl⟩, rfl, hI, hB⟩
            have H2 := Lib.hid (H1.out.trans (hB.mono H1.out.size))
            have CA := Lib.hid (fun W (K : Below w2.heap.size w2 W) => hck ▸ vcheck_any _ _ p W (hI.keep (S := fun _ => False) (Keeps.of_below K) (fun _ _ f => f)) (by rw [hpc]; intro x hx; cases hx) _ rfl)
            clear hI hB PA hpc hck
            dsimp only
            go_wp2_with fail
            refine (CA.out _ (by exact ((Below.refl _ _).alloc (Nat.le_refl _) _).alloc (by simp) _)).mono ?_
            rintro en w3 ⟨v3, rfl, H3⟩
            obtain ⟨xa, xc, rfl⟩ := H3.out.1.slice
            obtain ⟨fh, fm, fs⟩ := fa
            dsimp only at H3 HA ⊢
            have BZ := Lib.hid ((H2.out.trans ((((Below.refl _ _).alloc (Nat.le_refl _) _).alloc (by simp) _).mono H2.out.size)).trans (H3.out.2.2.mono (by have := H2.out.size; simp; omega)))
            clear CA H3 KN2
            by_cases hw0 : wt < 0 ∨ (j : Int) ≤ wt
            · have _u := trivial
              --[[k4
              obtain ⟨rfl, rfl⟩ := HA.out.1 hw0
              have e0 : (decide (wt < 0) || decide ((j : Int) ≤ wt)) = true := by simpa using hw0
              cases e1 : decide (wt < 0) with
              | true =>
                go_wp2_with fail
                go_ret
                exact ⟨by simp, (BZ.out.alloc BZ.out.size _).alloc (by have := BZ.out.size; simp; omega) _⟩
              | false =>
                have e2 : decide ((j : Int) ≤ wt) = true := by rw [e1] at e0; simpa using e0
                clear e0 hw0
                go_wp2_with fail
                go_ret
                exact ⟨by simp, (BZ.out.alloc BZ.out.size _).alloc (by have := BZ.out.size; simp; omega) _⟩
              --]]k4
            · have _u := trivial
              --[[k5
              obtain ⟨rfl, rfl, hsp⟩ := HA.out.2 hw0
              have e1 : decide (wt < 0) = false := decide_eq_false (by omega)
              have e2 : decide ((j : Int) ≤ wt) = false := decide_eq_false (by omega)
              have hwa : IntKind.i64.wrap ((i : Int) + wt) = (i : Int) + wt := IntWalk.i64_in _ (by omega)
              have hwb : IntKind.i64.wrap ((i : Int) + wt + 1) = (i : Int) + wt + 1 := IntWalk.i64_in _ (by omega)
              have hwc : IntKind.i64.wrap ((j : Int) + 2) = (j : Int) + 2 := IntWalk.i64_in _ (by omega)
              subst hsp
              clear hw0
              go_wp2_with fail
              go_ret
              exact ⟨by simp, (BZ.out.alloc BZ.out.size _).alloc (by have := BZ.out.size; simp; omega) _⟩
              --]]k5
    --]]k1
--]]loops
end Go.Proofs.YtielnengimninaaGreatDoor
