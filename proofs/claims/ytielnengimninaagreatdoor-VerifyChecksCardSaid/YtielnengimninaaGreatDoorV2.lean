/- asm.label, value.digit, sign, wire.zig; (*text).eat: walked. -/
import Derived.Test.YtielnengimninaaGreatDoorV1
import Derived.Test.YtielnengimninaaGreatDoorShelf3
import Derived.Shelf.Small.Strs
import Derived.Shelf.Small.Wraps
import Derived.Shelf.Strings.Prefix
import Derived.Lib.IndexLaws
namespace Go.Va
/-- may a sign stand at place i of a label? -/
def labC (i : Nat) (c : UInt8) : Bool := decide ((97 ≤ c.toNat ∧ c.toNat ≤ 122) ∨ (0 < i ∧ 48 ≤ c.toNat ∧ c.toNat ≤ 57))
def labFrom : Nat → List UInt8 → Bool
  | _, [] => true
  | i, c :: r => labC i c && labFrom (i + 1) r
/-- may a text be a label? -/
theorem labFrom_drop {s : ByteArray} {k : Nat} (h : k < s.size) : labFrom k (s.data.toList.drop k) = (labC k s[k] && labFrom (k + 1) (s.data.toList.drop (k + 1))) := by
  have h' : k < s.data.toList.length := by simpa using h
  rw [List.drop_eq_getElem_cons h', labFrom]
  rfl
def labL (s : List UInt8) : Bool := labFrom 0 s && (1 ≤ s.length && s.length ≤ 16)
/-- the digit to the base 16 that a sign is; -1: none -/
def digL (c : UInt8) : Int := Lib.indexByte [48, 49, 50, 51, 52, 53, 54, 55, 56, 57, 97, 98, 99, 100, 101, 102] c
theorem digL_bd (c : UInt8) : -1 ≤ digL c ∧ digL c ≤ 15 := by
  refine ⟨Lib.indexByte_ge _ _, ?_⟩
  by_cases h : digL c ≤ 15
  · exact h
  · exfalso
    obtain ⟨o, ho⟩ : ∃ o : Nat, digL c = o := ⟨(digL c).toNat, by omega⟩
    have := (Lib.indexByte_some ho).1
    have := (List.getElem?_eq_some_iff.1 this).1
    simp at this
    omega
/-- is the next sign this one? -/
def eatL (s : List UInt8) (at_ : Nat) (c : UInt8) : Bool := match s[at_]? with | some x => x == c | none => false
end Go.Va
namespace Go.Proofs.YtielnengimninaaGreatDoor
open Go.RowKit Go.Own Go.Own.MapTy Go.Va
open Go.Own.Cells (sz enc)
--[[label
set_option maxHeartbeats 4000000 in
theorem label_any (s : ByteArray) (w : World) (hs : s.size ≤ 4294967280) : Calls Tryz.prog 88 #[.string s] w fun e w' => e = .returned (.bool (labL s.data.toList)) ∧ w' = w := by
  go_enter Tryz.func88, Tryz.ntmps88
  go_wp2_with fail
  go_loopw [7] (fun v7 wr => ∃ k : Nat, v7 = .int .i64 k ∧ k ≤ s.size ∧ wr = w ∧ labFrom k (s.data.toList.drop k) = labFrom 0 s.data.toList) (fun v7 _ => s.size - (intOf v7).toNat)
  case atStart => exact ⟨0, rfl, Nat.zero_le _, rfl, rfl⟩
  case round =>
    obtain ⟨k, rfl, hk, rfl, hf⟩ := hrel
    by_cases hkn : k < s.size
    · rw [labFrom_drop hkn] at hf
      have HF := Lib.hid hf
      clear hf
      have hw : wrap64 ((k : Int) + 1) = (k : Int) + 1 := by unfold wrap64; omega
      rcases hlc : labC k s[k] with _ | _
      · have HL : labL s.data.toList = false := by
          unfold labL
          rw [← HF.out, hlc]
          rfl
        unfold labC at hlc
        go_wp2_with fail
        all_goals first
          | (exfalso; simp only [decide_eq_false_iff_not] at *; omega)
          | (go_ret; exact ⟨rfl, rfl⟩)
      · have HL : labFrom (k + 1) (s.data.toList.drop (k + 1)) = labFrom 0 s.data.toList := by
          rw [← HF.out, hlc]
          rfl
        have HL := Lib.hid HL
        unfold labC at hlc
        go_wp2_with fail
        all_goals first
          | (exfalso; simp only [decide_eq_true_eq] at *; omega)
          | exact ⟨⟨k + 1, by simp, hkn, trivial, HL.out⟩, by simp [intOf]; omega⟩
    · obtain rfl : k = s.size := by omega
      have HF := Lib.hid hf
      clear hf
      have hlen : s.data.toList.length = s.size := by simp
      have HL : labL s.data.toList = (decide (1 ≤ s.size) && decide (s.size ≤ 16)) := by
        unfold labL
        rw [← HF.out, List.drop_eq_nil_of_le (by omega), hlen]
        rfl
      by_cases h1 : 1 ≤ s.size
      · by_cases h2 : s.size ≤ 16
        · have e1 : (1 : Int) ≤ s.size := by omega
          have e2 : (s.size : Int) ≤ 16 := by omega
          go_wp2_with fail
          go_ret
          exact ⟨by simp [HL, h1, h2], rfl⟩
        · have e1 : (1 : Int) ≤ s.size := by omega
          have e2 : ¬ (s.size : Int) ≤ 16 := by omega
          go_wp2_with fail
          go_ret
          exact ⟨by simp, rfl⟩
      · have e1 : ¬ (1 : Int) ≤ s.size := by omega
        go_wp2_with fail
        go_ret
        exact ⟨by simp, rfl⟩
--]]label
--[[sign
theorem sign_any (b : Bool) (w : World) : Calls Tryz.prog 100 #[.bool b] w fun e w' => e = .returned (.int .i64 (bif b then -1 else 1)) ∧ w' = w := by
  go_enter Tryz.func100, Tryz.ntmps100
  cases b
  all_goals
    go_wp2_with fail
    go_ret
    exact ⟨rfl, rfl⟩
--]]sign
--[[digit
theorem digit_any (c : UInt8) (w : World) : Calls Tryz.prog 139 #[.int .u8 c.toNat] w fun e w' => e = .returned (.int .i64 (digL c)) ∧ w' = w := by
  have IB := Lib.hid (show Calls Tryz.prog 156 #[.string ⟨#[48, 49, 50, 51, 52, 53, 54, 55, 56, 57, 97, 98, 99, 100, 101, 102]⟩, .int .u8 c.toNat] w fun e w' => e = .returned (.int .i64 (digL c)) ∧ w' = w from by
    have h := Any.strings_IndexByte Tryz.lays137 ⟨#[48, 49, 50, 51, 52, 53, 54, 55, 56, 57, 97, 98, 99, 100, 101, 102]⟩ (c.toNat : Int) w
    have e : ((c.toNat : Int).toNat).toUInt8 = c := by simp
    rw [e] at h
    exact h)
  go_enter Tryz.func139, Tryz.ntmps139
  go_wp2_with fail
  refine IB.out.mono ?_
  rintro e w1 ⟨rfl, rfl⟩
  go_wp2_with fail
  go_ret
  exact ⟨rfl, rfl⟩
--]]digit
/-- a text that is read, from a place on -/
def TX (w : World) (b : Nat) (s : ByteArray) (at_ : Nat) (deep : Bool) : Prop := w.heap[b]? = some (.cells #[.string s, .int .i64 at_, .bool deep] 145)
--[[eatno
set_option maxHeartbeats 4000000 in
theorem eat_no (b : Nat) (s : ByteArray) (at_ : Nat) (deep : Bool) (c : UInt8) (w : World) (H : TX w b s at_ deep) (hn : eatL s.data.toList at_ c = false) :
    Calls Tryz.prog 118 #[.pointer (some ⟨b, 0, none⟩), .int .u8 c.toNat] w fun e w' => e = .returned (.bool false) ∧ w' = w.drew := by
  have b0 : b < w.heap.size := lt_of_heap H
  have c0 : w.cell? ⟨b, 0, none⟩ = some (.string s) := by rw [cell_of_heap H]; rfl
  have c1 : w.cell? ⟨b, 1, none⟩ = some (.int .i64 at_) := by rw [cell_of_heap H]; rfl
  clear H
  go_enter Tryz.func118, Tryz.ntmps118
  by_cases h : at_ < s.size
  · have e0 : (at_ : Int) < s.size := by omega
    have hg : s.data.toList[at_]? = some s[at_] := by simp [h]; rfl
    rw [eatL, hg] at hn
    have hc : (s[at_] == c) = false := hn
    have h1 : ((s[at_].toNat : Int) == (c.toNat : Int)) = false := by
      rw [beq_eq_false_iff_ne] at hc ⊢
      exact fun e => hc (UInt8.toNat_inj.1 (by omega))
    go_wp2_with fail
    go_region
    go_wp2_with fail
    go_ret
    exact ⟨rfl, rfl⟩
  · have e0 : ¬ (at_ : Int) < s.size := by omega
    go_wp2_with fail
    go_region
    go_wp2_with fail
    go_ret
    exact ⟨rfl, rfl⟩
--]]eatno
--[[eatyes
set_option maxHeartbeats 4000000 in
theorem eat_yes (b : Nat) (s : ByteArray) (at_ : Nat) (deep : Bool) (c : UInt8) (w : World) (H : TX w b s at_ deep) (hs : s.size ≤ 4294967280) (h : at_ < s.size) (hn : eatL s.data.toList at_ c = true) :
    Calls Tryz.prog 118 #[.pointer (some ⟨b, 0, none⟩), .int .u8 c.toNat] w fun e w' => e = .returned (.bool true) ∧ w' = (w.setCell ⟨b, 1, none⟩ (.int .i64 (at_ + 1))).drew := by
  have b0 : b < w.heap.size := lt_of_heap H
  have c0 : w.cell? ⟨b, 0, none⟩ = some (.string s) := by rw [cell_of_heap H]; rfl
  have c1 : w.cell? ⟨b, 1, none⟩ = some (.int .i64 at_) := by rw [cell_of_heap H]; rfl
  have f0 : ∀ o, w.frozen? ⟨b, o, none⟩ = false := fun o => frozen_of_heap H o
  clear H
  go_enter Tryz.func118, Tryz.ntmps118
  have e0 : (at_ : Int) < s.size := by omega
  have hg : s.data.toList[at_]? = some s[at_] := by simp [h]; rfl
  rw [eatL, hg] at hn
  have hc : (s[at_] == c) = true := hn
  have h1 : ((s[at_].toNat : Int) == (c.toNat : Int)) = true := by
    rw [beq_iff_eq] at hc ⊢
    rw [hc]
  have hw : wrap64 ((at_ : Int) + 1) = (at_ : Int) + 1 := by unfold wrap64; omega
  go_wp2_with fail
  go_region
  go_wp2_with fail
  go_ret
  exact ⟨rfl, rfl⟩
--]]eatyes
theorem TX.move {w : World} {b : Nat} {s : ByteArray} {at_ : Nat} {deep : Bool} (H : TX w b s at_ deep) (k : Nat) : TX (w.setCell ⟨b, 1, none⟩ (.int .i64 k)) b s k deep := by
  unfold TX at H ⊢
  simp [World.setCell, Array.getElem?_modify, H]
theorem TX.c0 {w : World} {b : Nat} {s : ByteArray} {at_ : Nat} {deep : Bool} (H : TX w b s at_ deep) : w.cell? ⟨b, 0, none⟩ = some (.string s) := by rw [cell_of_heap H]; rfl
theorem TX.c1 {w : World} {b : Nat} {s : ByteArray} {at_ : Nat} {deep : Bool} (H : TX w b s at_ deep) : w.cell? ⟨b, 1, none⟩ = some (.int .i64 at_) := by rw [cell_of_heap H]; rfl
theorem TX.c2 {w : World} {b : Nat} {s : ByteArray} {at_ : Nat} {deep : Bool} (H : TX w b s at_ deep) : w.cell? ⟨b, 2, none⟩ = some (.bool deep) := by rw [cell_of_heap H]; rfl
theorem TX.fr {w : World} {b : Nat} {s : ByteArray} {at_ : Nat} {deep : Bool} (H : TX w b s at_ deep) (o : Nat) : w.frozen? ⟨b, o, none⟩ = false := frozen_of_heap H o
theorem TX.lt {w : World} {b : Nat} {s : ByteArray} {at_ : Nat} {deep : Bool} (H : TX w b s at_ deep) : b < w.heap.size := lt_of_heap H
theorem TX.drew {w : World} {b : Nat} {s : ByteArray} {at_ : Nat} {deep : Bool} (H : TX w b s at_ deep) : TX w.drew b s at_ deep := H
theorem TX.keep {w w' : World} {b : Nat} {s : ByteArray} {at_ : Nat} {deep : Bool} {S : Nat → Prop} (H : TX w b s at_ deep) (K : Keeps S w w') (hs : ¬ S b) : TX w' b s at_ deep := (K.block b (lt_of_heap H) hs).trans H
end Go.Proofs.YtielnengimninaaGreatDoor
