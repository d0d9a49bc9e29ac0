/- Two heaps in one world: what is done with one leaves the other as it was. -/
import Derived.Test.YtkhphnidopbjjaaH9
import Derived.Test.YtkhphnidopbjjaaHm4
namespace Go.Proofs.Ytkhphnidopbjjaa
open Go.RowKit Go.Own Go.Own.MapTy Go.Hm
open Go.Own.Cells (sz enc)

/-- two heaps side by side, both laid behind the world w -/
structure Two (w : World) (ha hb : Nat) (la ma lb mb : Value) (sa sb : Hp) (wr : World) : Prop where
  A : HV wr ha la ma 28 sa
  B : HV wr hb lb mb 28 sb
  apart : ∀ j, foot ha la ma j → foot hb lb mb j → False
  fa : ∀ j, foot ha la ma j → w.heap.size ≤ j
  fb : ∀ j, foot hb lb mb j → w.heap.size ≤ j
  below : Below w.heap.size w wr

theorem Two.old {w wr w2 : World} {ha hb : Nat} {la ma lb mb : Value} {sa sb : Hp} (h : Two w ha hb la ma lb mb sa sb wr) (K : Below wr.heap.size wr w2) : Two w ha hb la ma lb mb sa sb w2 :=
  ⟨h.A.keep (Keeps.of_below K) (fun _ _ h => h), h.B.keep (Keeps.of_below K) (fun _ _ h => h), h.apart, h.fa, h.fb, h.below.trans (K.mono h.below.size)⟩
theorem Two.swap {w wr : World} {ha hb : Nat} {la ma lb mb : Value} {sa sb : Hp} (h : Two w ha hb la ma lb mb sa sb wr) : Two w hb ha lb mb la ma sb sa wr :=
  ⟨h.B, h.A, fun j a b => h.apart j b a, h.fb, h.fa, h.below⟩
theorem Two.stepA {w wr w2 : World} {ha hb : Nat} {la ma lb mb la' ma' : Value} {sa sb sa' : Hp} (h : Two w ha hb la ma lb mb sa sb wr) (H : HV w2 ha la' ma' 28 sa') (K : Keeps (foot ha la ma) wr w2)
    (F : ∀ j, foot ha la' ma' j → foot ha la ma j ∨ (wr.heap.size ≤ j ∧ j < w2.heap.size)) : Two w ha hb la' ma' lb mb sa' sb w2 := by
  have hw := h.below.size
  refine ⟨H, h.B.keep K (fun j hj h' => h.apart j h' hj), fun j a b => ?_, fun j a => ?_, h.fb, h.below.trans (K.below hw (fun j hj h' => by have := h.fa j h'; omega))⟩
  · rcases F j a with h' | h'
    · exact h.apart j h' b
    · have := h.B.lt b; omega
  · rcases F j a with h' | h'
    · exact h.fa j h'
    · omega
theorem Two.stepB {w wr w2 : World} {ha hb : Nat} {la ma lb mb lb' mb' : Value} {sa sb sb' : Hp} (h : Two w ha hb la ma lb mb sa sb wr) (H : HV w2 hb lb' mb' 28 sb') (K : Keeps (foot hb lb mb) wr w2)
    (F : ∀ j, foot hb lb' mb' j → foot hb lb mb j ∨ (wr.heap.size ≤ j ∧ j < w2.heap.size)) : Two w ha hb la ma lb' mb' sa sb' w2 := (h.swap.stepA H K F).swap
/-- what a take leaves -/
theorem take_foot {hb : Nat} {lv lv' mv : Value} (h : lv'.ownBlock = lv.ownBlock) {w w2 : World} : ∀ j, foot hb lv' mv j → foot hb lv mv j ∨ (w.heap.size ≤ j ∧ j < w2.heap.size) := by
  rintro j (h' | h' | h')
  · exact .inl (.inl h')
  · exact .inl (.inr (.inl (by rw [← h]; exact h')))
  · exact .inl (.inr (.inr h'))
/-- two heaps, new -/
theorem Two.start {w w1 : World} (hB : Below w.heap.size w w1) : Two w w1.heap.size (w1.heap.size + 1) (.slice none 0 0) (.map none) (.slice none 0 0) (.map none) hp0 hp0 ((w1.alloc (.cells #[.slice none 0 0, .map none, .int .u64 0] 28)).alloc (.cells #[.slice none 0 0, .map none, .int .u64 0] 28)) := by
  have hw := hB.size
  have h1 : (w1.alloc (.cells #[.slice none 0 0, .map none, .int .u64 0] 28)).heap.size = w1.heap.size + 1 := by simp
  have hz := HV.zero (w1.alloc (.cells #[.slice none 0 0, .map none, .int .u64 0] 28)) 28
  rw [h1] at hz
  have hf : ∀ b j, foot b (.slice none 0 0) (.map none) j → j = b := by
    rintro b j (h | h | h)
    · exact h
    · simp [Value.ownBlock] at h
    · simp at h
  refine ⟨(HV.zero w1 _).keep ((Keeps.refl (fun _ => False) _).alloc _) (fun _ _ h => h), hz, fun j a b => ?_, fun j a => ?_, fun j a => ?_, (hB.alloc hw _).alloc (by omega) _⟩
  · have := hf _ _ a
    have := hf _ _ b
    omega
  · have := hf _ _ a; omega
  · have := hf _ _ a; omega
end Go.Proofs.Ytkhphnidopbjjaa
