/- (verify.Facts).Reached, verify.Check, walked. -/
import Derived.Test.YtielnengimninaaGreatDoorV23
import Derived.Test.YtielnengimninaaGreatDoorVA
namespace Go.Va
open Go.Own Go.RowKit
/-- how many instructions are come to -/
def reachL : List Int → Nat
  | [] => 0
  | x :: r => (bif decide (0 ≤ x) then 1 else 0) + reachL r
theorem reachL_le : ∀ l : List Int, reachL l ≤ l.length
  | [] => Nat.le_refl _
  | x :: r => by
    have := reachL_le r
    rw [reachL, List.length_cons]
    cases decide (0 ≤ x) <;> simp <;> omega
end Go.Va
namespace Go.Proofs.YtielnengimninaaGreatDoor
open Go.RowKit Go.Own Go.Own.MapTy Go.Va Go.Sort
open Go.Own.Cells (sz enc)
/-- what is known of a program, or what is wrong with it -/
def checkG (p : Img) : Fa × Int × Int :=
  bif imgL p != 0 then (noFa, -1, imgL p) else
  bif (walkL p.code).1.2 != 0 then (noFa, (walkL p.code).1) else
  match firstR p.code 0 (walkL p.code).2.heights with
  | some k => (noFa, (k : Int), 133)
  | none => (⟨(walkL p.code).2.heights, (walkL p.code).2.most, (spanM p.code 0 (walkL p.code).2.heights 0 : Nat)⟩, -1, 0)

theorem pack_op {op : Int} (h : (op == 29) = true) : (ofL op).1.operand = 5 := by
  rw [beq_iff_eq] at h
  subst h
  rfl
theorem codeOk_of {p : Img} (h : imgL p = 0) : CodeOk p.code := by
  obtain ⟨h0, h1, h2, h3, h4, h5, _, _, h6⟩ := imgL_ok h
  refine ⟨h1, fun c hc => (h6 c hc).2.1, fun c hc => ?_, fun c hc => ⟨(inf_bounds c.op).2.2.1, (inf_bounds c.op).2.2.2⟩⟩
  have hb := inf_bounds c.op
  obtain ⟨_, ha, hm⟩ := h6 c hc
  unfold takesL
  cases h29 : (c.op == 29) with
  | false => simp only [cond_false]; omega
  | true =>
    rw [pack_op h29] at hm
    have : mostL p 5 = 17 := rfl
    simp only [cond_true]
    omega
--[[reach
set_option maxRecDepth 100000 in
set_option maxHeartbeats 8000000 in
theorem reached_any (v : Value) (hs : List Int) (m s : Int) (W : World) (H : RowAt W 3 v hs) : Calls Tryz.prog 20 #[.agg #[v, .int .i64 m, .int .i64 s]] W fun e w' => e = .returned (.int .i64 (reachL hs)) ∧ Below W.heap.size W w' := by
  obtain ⟨a, cap, rfl⟩ := H.slice
  have hmx := H.length_le
  have HR := Lib.hid H
  clear H
  go_enter Tryz.func20, Tryz.ntmps20
  go_wp2_with fail
  go_loopg [9, 3] (hs.length) (fun gk v9 v3 wr => ∃ i k : Nat, v9 = .int .i64 i ∧ v3 = .int .i64 k ∧ i ≤ hs.length ∧ gk = hs.length - i ∧ k ≤ i ∧ k + reachL (hs.drop i) = reachL hs ∧ wr = W.alloc (.cells #[.slice a hs.length cap, .int .i64 m, .int .i64 s] 31))
  case atStart => exact ⟨0, 0, rfl, rfl, Nat.zero_le _, rfl, Nat.le_refl _, by simp, rfl⟩
  case round =>
    obtain ⟨i, k, rfl, rfl, hi, hgk, hk, hs2, rfl⟩ := hrel
    unfold maxLen at hmx
    by_cases hin : i < hs.length
    · obtain ⟨x, hx⟩ := elem_at hin
      have hdr : hs.drop i = x :: hs.drop (i + 1) := by
        rw [List.drop_eq_getElem_cons (List.getElem?_eq_some_iff.1 hx).1, (List.getElem?_eq_some_iff.1 hx).2]
      rw [hdr, reachL] at hs2
      obtain ⟨g, off, rfl, hg⟩ := HR.out.addr hx
      have m0 := row_int HR.out hx
      have hin' : (i : Int) < hs.length := by omega
      have hwi : IntKind.i64.wrap ((i : Int) + 1) = (i : Int) + 1 := IntWalk.i64_in _ (by omega)
      have hwk : IntKind.i64.wrap ((k : Int) + 1) = (k : Int) + 1 := IntWalk.i64_in _ (by omega)
      cases hz : decide (0 ≤ x) with
      | true =>
        have e0 : 0 ≤ x := of_decide_eq_true hz
        rw [hz] at hs2
        simp only [cond_true] at hs2
        have HX := Lib.hid (And.intro hs2 hgk)
        clear hs2 hgk hdr hx
        go_wp2_with fail
        go_roundg (hs.length - (i + 1))
        case measure => have := HX.out.2; omega
        case rel => exact ⟨i + 1, k + 1, by simp, by simp, by omega, rfl, by omega, by have := HX.out.1; omega, rfl⟩
      | false =>
        have e0 : ¬ 0 ≤ x := of_decide_eq_false hz
        rw [hz] at hs2
        simp only [cond_false] at hs2
        have HX := Lib.hid (And.intro hs2 hgk)
        clear hs2 hgk hdr hx
        go_wp2_with fail
        go_roundg (hs.length - (i + 1))
        case measure => have := HX.out.2; omega
        case rel => exact ⟨i + 1, k, by simp, rfl, by omega, rfl, by omega, by have := HX.out.1; omega, rfl⟩
    · obtain rfl : i = hs.length := by omega
      rw [List.drop_eq_nil_of_le (Nat.le_refl _), reachL] at hs2
      have HX := Lib.hid hs2
      clear hs2 hgk
      go_wp2_with fail
      go_ret
      exact ⟨by rw [← HX.out]; rfl, (Below.refl _ _).alloc (Nat.le_refl _) _⟩
--]]reach
end Go.Proofs.YtielnengimninaaGreatDoor
