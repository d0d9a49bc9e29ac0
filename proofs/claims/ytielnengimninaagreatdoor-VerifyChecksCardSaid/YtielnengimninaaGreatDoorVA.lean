/- what an image that may be has; a program that is read. -/
import Derived.Test.YtielnengimninaaGreatDoorV16
namespace Go.Proofs.YtielnengimninaaGreatDoor
open Go.RowKit Go.Own Go.Own.MapTy Go.Va Go.Sort
open Go.Own.Cells (sz enc)
theorem codeErr_ok {p : Img} : ∀ {l : List In}, codeErr p l = 0 → ∀ c ∈ l, (ofL c.op).2 = true ∧ 0 ≤ c.a ∧ c.a < mostL p (ofL c.op).1.operand
  | [], _, c, hc => by cases hc
  | d :: r, h, c, hc => by
    rw [codeErr] at h
    cases h1 : (ofL d.op).2 with
    | false => rw [h1] at h; simp at h
    | true =>
      rw [h1] at h
      simp only [Bool.not_true, cond_false] at h
      cases h2 : (decide (d.a < 0) || decide (mostL p (ofL d.op).1.operand ≤ d.a)) with
      | true => rw [h2] at h; simp at h
      | false =>
        rw [h2] at h
        simp only [cond_false] at h
        rw [Bool.or_eq_false_iff, decide_eq_false_iff_not, decide_eq_false_iff_not] at h2
        rcases List.mem_cons.1 hc with rfl | hc
        · exact ⟨h1, by omega, by omega⟩
        · exact codeErr_ok h c hc
/-- an image that may be -/
theorem imgL_ok {p : Img} (h : imgL p = 0) : 0 < p.code.length ∧ p.code.length ≤ 512 ∧ p.consts.length ≤ 64 ∧ p.names.length ≤ 32 ∧ 0 ≤ p.places ∧ p.places ≤ 16 ∧ constErr p.consts = 0 ∧ nameErr p.names = 0 ∧ ∀ c ∈ p.code, (ofL c.op).2 = true ∧ 0 ≤ c.a ∧ c.a < mostL p (ofL c.op).1.operand := by
  unfold imgL at h
  by_cases h0 : p.code.length = 0
  · rw [decide_eq_true h0] at h
    simp at h
  · rw [decide_eq_false h0] at h
    simp only [cond_false] at h
    cases h1 : (decide (512 < p.code.length) || (decide (64 < p.consts.length) || decide (32 < p.names.length))) with
    | true => rw [h1] at h; simp at h
    | false =>
      rw [h1] at h
      simp only [cond_false] at h
      cases h2 : (decide (p.places < 0) || decide (16 < p.places)) with
      | true => rw [h2] at h; simp at h
      | false =>
        rw [h2] at h
        simp only [cond_false] at h
        cases h3 : (constErr p.consts != 0) with
        | true =>
          rw [h3] at h
          simp only [cond_true] at h
          rw [h] at h3
          cases h3
        | false =>
          rw [h3] at h
          simp only [cond_false] at h
          cases h4 : (nameErr p.names != 0) with
          | true =>
            rw [h4] at h
            simp only [cond_true] at h
            rw [h] at h4
            cases h4
          | false =>
            rw [h4] at h
            simp only [cond_false] at h
            simp only [Bool.or_eq_false_iff, decide_eq_false_iff_not] at h1 h2
            exact ⟨by omega, by omega, by omega, by omega, by omega, by omega, by simpa using h3, by simpa using h4, codeErr_ok h⟩
def text1 : ByteArray := ⟨#[108, 49, 58, 10, 32, 32, 115, 105, 103, 110, 97, 108, 32, 34, 103, 111, 34, 10, 32, 32, 112, 111, 112, 10, 32, 32, 106, 117, 109, 112, 32, 108, 49, 10]⟩
def img1 : Img := ⟨[⟨22, 0⟩, ⟨2, 0⟩, ⟨11, 0⟩], [], [⟨#[103, 111]⟩], 0⟩
--[[a1
theorem asm1 : asmL text1 = (img1, 0, 0) := by kernel_rfl
--]]a1
theorem asm_any {N : Nat} (s : ByteArray) (w : World) (G : Gl Tryz.prog N w) : Calls Tryz.prog 22 #[.string s] w (APost w (asmL s)) := by
  unfold asmL
  by_cases h : 65536 < s.size
  · rw [decide_eq_true h]
    exact asm_long s w h
  · rw [decide_eq_false h]
    simp only [cond_false]
    cases hn : Lib.hasSuffix s.data.toList [10] with
    | false => exact asm_form s w (by omega) hn
    | true => exact asm_lines s w G (by omega) hn _ rfl _ rfl
end Go.Proofs.YtielnengimninaaGreatDoor
