/- VerifyEnds, walked. -/
import Derived.Test.YtielnengimninaaGreatDoorV30
namespace Go.Proofs.YtielnengimninaaGreatDoor
open Go.RowKit Go.Own Go.Own.MapTy Go.Va Go.Sort
open Go.Own.Cells (sz enc)
theorem str_app (s : ByteArray) (x : List UInt8) : (s ++ (⟨x.toArray⟩ : ByteArray)).data.toList = s.data.toList ++ x := by
  rw [ByteArray.data_append, Array.toList_append]
theorem endsT_next (i : Nat) (e : Bool) : textB (endsT (i + 1) e) = textB (endsT i e) ++ (nopB ++ [10]) := by
  unfold endsT
  rw [List.replicate_succ', ← List.append_assoc, textB_app]
  congr 1
--[[ends
set_option maxRecDepth 100000 in
set_option maxHeartbeats 8000000 in
theorem ends_walk {N : Nat} (n : Int) (e : Bool) (w : World) (G : Gl Tryz.prog N w) : Calls Tryz.prog 6 #[.int .i64 n, .bool e] w fun en w' => en = .returned (.bool true) ∧ Below w.heap.size w w' := by
  have HG := Lib.hid G
  clear G
  go_enter Tryz.func6, Tryz.ntmps6
  go_wp2_with fail
  refine (asks_true _ HG.out).mono ?_
  rintro en w1 ⟨rfl, hB1⟩
  have H1 := Lib.hid hB1
  clear hB1
  by_cases h1 : n < 1
  · go_wp2_with fail
    go_ret
    exact ⟨rfl, H1.out⟩
  · by_cases h2 : 40 < n
    · go_wp2_with fail
      go_ret
      exact ⟨rfl, H1.out⟩
    · obtain ⟨k, rfl⟩ : ∃ k : Nat, n = k := ⟨n.toNat, by omega⟩
      have AS := Lib.hid (fun (s : ByteArray) (W : World) (K : Below w.heap.size w W) (hs : s.data.toList = textB (endsT k e)) => ends_asm k e (by omega) (by omega) hs ▸ asm_any s W (HG.out.below K))
      have d1 : decide ((k : Int) < 1) = false := decide_eq_false h1
      have d2 : decide (40 < (k : Int)) = false := decide_eq_false h2
      cases e with
      | false =>
        --[[e1
        go_wp2_with fail
        go_loopg [20, 5] k (fun gk v20 v5 wr => ∃ (i : Nat) (s : ByteArray), v20 = .int .i64 i ∧ v5 = .string s ∧ i ≤ k ∧ gk = k - i ∧ s.data.toList = textB (endsT i false) ∧ s.size ≤ 100 + 10 * i ∧ wr = w1)
        case atStart => exact ⟨0, ⟨#[]⟩, rfl, rfl, Nat.zero_le _, rfl, rfl, Nat.zero_le _, rfl⟩
        case round =>
          obtain ⟨i, s, rfl, rfl, hi, hgk, hs, hsz, rfl⟩ := hrel
          by_cases hin : i < k
          · have hin' : (i : Int) < k := by omega
            have HX := Lib.hid (And.intro hs hgk)
            clear hs hgk
            go_wp2_with fail
            go_roundg (k - (i + 1))
            case measure => have := HX.out.2; omega
            case rel => exact ⟨i + 1, s ++ ⟨#[32, 32, 110, 111, 112, 10]⟩, by simp, rfl, by omega, rfl, by rw [endsT_next, ← HX.out.1]; exact str_app _ _, by rw [ByteArray.size_append]; have : (⟨#[32, 32, 110, 111, 112, 10]⟩ : ByteArray).size = 6 := rfl; omega, rfl⟩
          · obtain rfl : i = k := by omega
            have PA := Lib.hid (AS.out s wr H1.out hs)
            clear hs hgk
            go_wp2_with fail
            refine PA.out.mono ?_
            rintro en w2 ⟨⟨ca, cn, cc, ka, kn, kc, na, nn, nc, pl⟩, rfl, hI, hB⟩
            have CA := Lib.hid (fun W (K : Below w2.heap.size w2 W) => ends_no i (by omega) (by omega) ▸ vcheck_any _ _ (endsP i false) W (hI.keep (S := fun _ => False) (Keeps.of_below K) (fun _ _ f => f)) (by intro x hx; cases hx) _ rfl)
            have H2 := Lib.hid (H1.out.trans (hB.mono H1.out.size))
            clear hI hB PA
            dsimp only
            go_wp2_with fail
            refine (CA.out _ (by exact ((Below.refl _ _).alloc (Nat.le_refl _) _).alloc (by simp) _)).mono ?_
            rintro en w3 ⟨v3, rfl, H3⟩
            obtain ⟨xa, xc, rfl⟩ := H3.out.1.slice
            dsimp only [noFa, List.length_nil] at H3 ⊢
            have BZ := Lib.hid ((H2.out.trans ((((Below.refl _ _).alloc (Nat.le_refl _) _).alloc (by simp) _).mono H2.out.size)).trans (H3.out.2.2.mono (by have := H2.out.size; simp; omega)))
            have hwn : IntKind.i64.wrap ((i : Int) - 1) = (i : Int) - 1 := IntWalk.i64_in _ (by omega)
            clear CA H3
            go_wp2_with fail
            go_ret
            exact ⟨by simp, (BZ.out.alloc BZ.out.size _).alloc (by have := BZ.out.size; simp; omega) _⟩
        --]]e1
      | true =>
        --[[e2
        go_wp2_with fail
        go_loopg [20, 5] k (fun gk v20 v5 wr => ∃ (i : Nat) (s : ByteArray), v20 = .int .i64 i ∧ v5 = .string s ∧ i ≤ k ∧ gk = k - i ∧ s.data.toList = textB (endsT i true) ∧ s.size ≤ 100 + 10 * i ∧ wr = w1)
        case atStart => exact ⟨0, ⟨#[32, 32, 102, 97, 105, 108, 32, 34, 120, 34, 10]⟩, rfl, rfl, Nat.zero_le _, rfl, rfl, (by decide), rfl⟩
        case round =>
          obtain ⟨i, s, rfl, rfl, hi, hgk, hs, hsz, rfl⟩ := hrel
          by_cases hin : i < k
          · have hin' : (i : Int) < k := by omega
            have HX := Lib.hid (And.intro hs hgk)
            clear hs hgk
            go_wp2_with fail
            go_roundg (k - (i + 1))
            case measure => have := HX.out.2; omega
            case rel => exact ⟨i + 1, s ++ ⟨#[32, 32, 110, 111, 112, 10]⟩, by simp, rfl, by omega, rfl, by rw [endsT_next, ← HX.out.1]; exact str_app _ _, by rw [ByteArray.size_append]; have : (⟨#[32, 32, 110, 111, 112, 10]⟩ : ByteArray).size = 6 := rfl; omega, rfl⟩
          · obtain rfl : i = k := by omega
            have PA := Lib.hid (AS.out s wr H1.out hs)
            clear hs hgk
            go_wp2_with fail
            refine PA.out.mono ?_
            rintro en w2 ⟨⟨ca, cn, cc, ka, kn, kc, na, nn, nc, pl⟩, rfl, hI, hB⟩
            obtain ⟨fa, hfa, f1, f2, f3, f4⟩ := ends_yes i (by omega) (by omega)
            have CA := Lib.hid (fun W (K : Below w2.heap.size w2 W) => hfa ▸ vcheck_any _ _ (endsP i true) W (hI.keep (S := fun _ => False) (Keeps.of_below K) (fun _ _ f => f)) (by intro x hx; cases hx) _ rfl)
            have H2 := Lib.hid (H1.out.trans (hB.mono H1.out.size))
            clear hI hB PA hfa
            dsimp only
            go_wp2_with fail
            refine (CA.out _ (by exact ((Below.refl _ _).alloc (Nat.le_refl _) _).alloc (by simp) _)).mono ?_
            rintro en w3 ⟨v3, rfl, H3⟩
            obtain ⟨xa, xc, rfl⟩ := H3.out.1.slice
            dsimp only at H3 ⊢
            have RV := H3.out.1
            obtain ⟨g, off, rfl, hg⟩ := RV.addr f4
            have y1 := row_int RV f4
            have RE := Lib.hid (fun W (K : Below w3.heap.size w3 W) => f1 ▸ reached_any _ fa.heights fa.most fa.span W (RV.below K))
            rw [f3] at RE ⊢
            obtain ⟨fh, fm, fs⟩ := fa
            dsimp only at f2
            subst f2
            dsimp only at RE ⊢
            have BZ := Lib.hid ((H2.out.trans ((((Below.refl _ _).alloc (Nat.le_refl _) _).alloc (by simp) _).mono H2.out.size)).trans (H3.out.2.2.mono (by have := H2.out.size; simp; omega)))
            have hwn : IntKind.i64.wrap ((i : Int) + 1) = (i : Int) + 1 := IntWalk.i64_in _ (by omega)
            have hin3 : (i : Int) < ((i + 1 : Nat) : Int) := by omega
            have heq : ((((i + 1 : Nat) : Int)) == (i : Int) + 1) = true := by rw [beq_iff_eq]; omega
            have f3' := Lib.hid f3
            clear CA H3 RV f1 f3 f4
            go_wp2_with fail
            refine (RE.out _ (by exact ((Below.refl _ _).alloc (Nat.le_refl _) _).alloc (by simp) _)).mono ?_
            rintro en w5 ⟨rfl, hB5⟩
            have b6 := (hB5.block w3.heap.size (by simp; omega)).trans (heap_lt2 (w := w3) (X := .cells #[.slice (some ⟨g, off, none⟩) (i + 1) xc, .int .i64 fm, .int .i64 1] 31) (Y := .cells #[.int .i64 (-1), .int .i64 0] 34))
            have x0 : w5.cell? ⟨w3.heap.size, 0, none⟩ = some (.slice (some ⟨g, off, none⟩) (i + 1) xc) := by rw [cell_of_heap b6]; rfl
            have x2 : w5.cell? ⟨w3.heap.size, 2, none⟩ = some (.int .i64 1) := by rw [cell_of_heap b6]; rfl
            have l6 := lt_of_heap b6
            have B35 : Below w3.heap.size w3 w5 := (((Below.refl _ _).alloc (Nat.le_refl _) _).alloc (by simp) _).trans (hB5.mono (by simp; omega))
            have y1 := (B35.cell (p := ⟨g, off + i, none⟩) hg).trans y1
            have hg := Nat.lt_of_lt_of_le hg B35.size
            have BY := Lib.hid (BZ.out.trans (B35.mono BZ.out.size))
            clear b6 hB5 B35 RE
            go_wp2_with fail
            go_ret
            exact ⟨by simp, BY.out⟩
        --]]e2
--]]ends
end Go.Proofs.YtielnengimninaaGreatDoor
