/- value.Quote and strconv.Itoa, walked. -/
import Derived.Test.YtielnengimninaaGreatDoorV38
namespace Go.Va
open Go.Own Go.RowKit
/-- a digit to the base 16 -/
def hexD (n : Nat) : UInt8 := if n < 10 then UInt8.ofNat (48 + n) else UInt8.ofNat (87 + n)
/-- a sign as it is written between quotes -/
def escL (c : UInt8) : List UInt8 := if c.toNat = 34 ∨ c.toNat = 92 then [92, c] else if c.toNat < 32 ∨ 126 < c.toNat then [92, 120, hexD (c.toNat / 16), hexD (c.toNat % 16)] else [c]
/-- a text between quotes -/
def quoteL (s : List UInt8) : List UInt8 := 34 :: (s.flatMap escL ++ [34])
theorem escL_len (c : UInt8) : (escL c).length ≤ 4 := by
  unfold escL
  split
  · simp
  · split <;> simp
theorem quoteL_take {s : ByteArray} {k : Nat} (h : k < s.size) : (34 :: (s.data.toList.take (k + 1)).flatMap escL) = (34 :: (s.data.toList.take k).flatMap escL) ++ escL s[k] := by
  have h' : k < s.data.toList.length := by simpa using h
  rw [List.take_succ_eq_append_getElem h', List.flatMap_append]
  simp
  rfl
theorem esc_all (l : List UInt8) : (l.flatMap escL).length ≤ 4 * l.length := by
  induction l with
  | nil => simp
  | cons c r ih => have := escL_len c; simp [List.flatMap_cons]; simp at ih; omega
def QtRel (w : World) (s : ByteArray) (k : Nat) (v3 v4 : Value) (wr : World) : Prop :=
  v4 = .int .i64 k ∧ k ≤ s.size ∧ Hid (RowAt wr 5 v3 (34 :: (s.data.toList.take k).flatMap escL) ∧ Below w.heap.size w wr ∧ ∀ g, v3.ownBlock = some g → w.heap.size ≤ g)
theorem QtRel.app {w wx w6 : World} {s : ByteArray} {k : Nat} {v3 v6 : Value} {o : Obj} (h : Hid (RowAt wx 5 v3 (34 :: (s.data.toList.take k).flatMap escL) ∧ Below w.heap.size w wx ∧ ∀ g, v3.ownBlock = some g → w.heap.size ≤ g)) (hk : k < s.size)
    {ys : List UInt8} (hy : escL s[k] = ys) (hr : RowAt w6 5 v6 ((34 :: (s.data.toList.take k).flatMap escL) ++ ys)) (hk6 : Keeps (fun j => v3.ownBlock = some j) (wx.alloc o) w6) (hf6 : ∀ g, v6.ownBlock = some g → v3.ownBlock = some g ∨ (wx.alloc o).heap.size ≤ g) :
    QtRel w s (k + 1) v6 (.int .i64 ((k : Int) + 1)) w6 := by
  obtain ⟨hR, hB, hO⟩ := h.out
  have hsz := hB.size
  refine ⟨by simp, hk, Lib.hid ⟨by rw [quoteL_take hk, hy]; exact hr, ?_, fun g hg => ?_⟩⟩
  · exact ((hB.alloc (by omega) o).trans (hk6.below (by simp; omega) (fun j hj e => by have := hO j e; omega)))
  · rcases hf6 g hg with e | e
    · exact hO g e
    · have e' : wx.heap.size + 1 ≤ g := by simpa using e
      omega
end Go.Va
namespace Go.Proofs.YtielnengimninaaGreatDoor
open Go.RowKit Go.Own Go.Own.MapTy Go.Va Go.Sort
open Go.Own.Cells (sz enc)
--[[itoa
theorem itoa_any {N : Nat} (n : Int) (h0 : -9223372036854775808 ≤ n) (h1 : n ≤ 9223372036854775807) (w : World) (G : Gl Tryz.prog N w) :
    Calls Tryz.prog 54 #[.int .i64 n] w fun e w' => e = .returned (.string ⟨(Lib.itoa n).toArray⟩) ∧ Below w.heap.size w w' := by
  refine (Any.strconv_Itoa Tryz.laysM171 n h0 h1 w G.tab).mono ?_
  rintro e w' ⟨rfl, k, os, rfl⟩
  exact ⟨rfl, below_grow w k os⟩
--]]itoa
theorem news2 {w : World} {x y : UInt8} {m n : Int} {t : TypeId} (h1 : m = (x.toNat : Int)) (h2 : n = (y.toNat : Int)) : ∀ j u, (([x, y] : List UInt8).flatMap Cells.enc)[j]? = some u → (w.alloc (.cells #[.int .u8 m, .int .u8 n] t)).cell? ((⟨w.heap.size, 0, none⟩ : Addr).add j) = some u := by
  intro j u hu
  rw [Addr.add_lit, cell_of_heap (heap_alloc_new w _), Nat.zero_add, h1, h2]
  match j, hu with
  | 0, hu => simpa [Cells.enc] using hu
  | 1, hu => simpa [Cells.enc] using hu
theorem news4 {w : World} {x y z v : UInt8} {m n o p : Int} {t : TypeId} (h1 : m = (x.toNat : Int)) (h2 : n = (y.toNat : Int)) (h3 : o = (z.toNat : Int)) (h4 : p = (v.toNat : Int)) : ∀ j u, (([x, y, z, v] : List UInt8).flatMap Cells.enc)[j]? = some u → (w.alloc (.cells #[.int .u8 m, .int .u8 n, .int .u8 o, .int .u8 p] t)).cell? ((⟨w.heap.size, 0, none⟩ : Addr).add j) = some u := by
  intro j u hu
  rw [Addr.add_lit, cell_of_heap (heap_alloc_new w _), Nat.zero_add, h1, h2, h3, h4]
  match j, hu with
  | 0, hu => simpa [Cells.enc] using hu
  | 1, hu => simpa [Cells.enc] using hu
  | 2, hu => simpa [Cells.enc] using hu
  | 3, hu => simpa [Cells.enc] using hu
theorem wp_appN {W : World} {ops : Array Oper} {rest : List Oper} {o : Oper} {a : Act} {Q : Exit → Act → World → Prop} (hg : o.guard = none) (s x : Operand)
    (hop : o.op = Op.call { callee := Callee.builtin Builtin.append, args := #[s, x], argTypes := #[104, 104] })
    {l : List UInt8} {v : Value} (ho : RowAt W 5 v l) (hs : a.eval s = v)
    (ad : Addr) (c n : Nat) (ys : List UInt8) (hx : a.eval x = .slice (some ad) n c) (hn : n = ys.length) (hc : ∀ j u, (ys.flatMap Cells.enc)[j]? = some u → W.cell? (ad.add j) = some u) (N : Nat) (hN : N = l.length + ys.length ∧ N ≤ 1099511627776)
    (hK : ∀ a1 q1 w', RowAt w' 5 (.slice a1 N q1) (l ++ ys) → Keeps (fun j => v.ownBlock = some j) W w' → (∀ g, (Value.slice a1 N q1).ownBlock = some g → v.ownBlock = some g ∨ W.heap.size ≤ g) → wpList Tryz.prog ops Q rest (a.put o.dst (.slice a1 N q1)) w') : wpList Tryz.prog ops Q (o :: rest) a W := by
  obtain ⟨rfl, hN2⟩ := hN
  subst hn
  exact wp_appL hg s x hop ho hs ad c ys hx hc hN2 hK
theorem lit4 {w : World} {x y z v : UInt8} {m n o p : Int} {t : TypeId} (h1 : m = (x.toNat : Int)) (h2 : n = (y.toNat : Int)) (h3 : o = (z.toNat : Int)) (h4 : p = (v.toNat : Int)) : RowAt (w.alloc (.cells #[.int .u8 m, .int .u8 n, .int .u8 o, .int .u8 p] t)) t (.slice (some ⟨w.heap.size, 0, none⟩) 4 4) [x, y, z, v] := by
  refine .inr ⟨w.heap.size, 0, 4, _, rfl, heap_alloc_new _ _, Nat.le_refl _, by unfold maxLen; omega, Nat.le_refl _, ?_⟩
  intro j u hu
  rw [Nat.zero_add, h1, h2, h3, h4]
  match j, hu with
  | 0, hu => simpa [Cells.enc] using hu
  | 1, hu => simpa [Cells.enc] using hu
  | 2, hu => simpa [Cells.enc] using hu
  | 3, hu => simpa [Cells.enc] using hu
theorem and15 (c : UInt8) : bits BinOp.and IntKind.u8 (c.toNat : Int) 15 = (c.toNat : Int) % 16 := by
  have h : ∀ k : Fin 256, bits BinOp.and IntKind.u8 (k.val : Int) 15 = (k.val : Int) % 16 := by decide +kernel
  exact h ⟨c.toNat, c.toNat_lt⟩
def hexs : ByteArray := ⟨#[48, 49, 50, 51, 52, 53, 54, 55, 56, 57, 97, 98, 99, 100, 101, 102]⟩
theorem hex_at : ∀ m : Fin 16, (hexs[m.val]'(by exact m.isLt)) = hexD m.val := by decide +kernel
theorem run_hex (W : World) (i : Int) (m : Nat) (h : i = (m : Int)) (hm : m < 16) : (Instr.index 9 (.string hexs) (.int .u8 i)).run Tryz.prog W = .ok (.int .u8 (hexD m).toNat) W := by
  subst h
  rw [run_index_string (P := Tryz.prog) W 9 hexs .u8 (m : Int) Tryz.underlying9]
  rw [dif_pos ⟨by omega, by show (m : Int) < 16; omega⟩]
  exact congrArg (fun c : UInt8 => Result.ok (Value.int .u8 (c.toNat : Int)) W) (hex_at ⟨m, hm⟩)
--[[quote
set_option maxRecDepth 100000 in
set_option maxHeartbeats 8000000 in
theorem quote_any (s : ByteArray) (w : World) (hs : s.size ≤ 4294967280) :
    Calls Tryz.prog 53 #[.string s] w fun e w' => e = .returned (.string ⟨(quoteL s.data.toList).toArray⟩) ∧ Below w.heap.size w w' := by
  go_enter Tryz.func53, Tryz.ntmps53
  go_wp2_with fail
  go_loopg [3, 4] (s.size) (fun gk v3 v4 wr => ∃ k, gk = s.size - k ∧ QtRel w s k v3 v4 wr)
  case atStart => 
    refine ⟨0, rfl, rfl, Nat.zero_le _, Lib.hid ⟨RowAt.lit (α := UInt8) (y := 34) (heap_alloc_new _ _), (Below.refl _ _).alloc (Nat.le_refl _) _, fun g hg => by simp [Value.ownBlock] at hg; omega⟩⟩
  case round =>
    obtain ⟨k, hgk, rfl, hk, HR⟩ := hrel
    obtain ⟨a3, c3, rfl⟩ := HR.out.1.slice
    have HG := Lib.hid hgk
    obtain ⟨n0, hn0⟩ : ∃ n0, n0 = (34 :: (s.data.toList.take k).flatMap escL).length := ⟨_, rfl⟩
    rw [← hn0] at HR ⊢
    clear hgk hn0
    by_cases hkn : k < s.size
    · have e0 : (k : Int) < s.size := by omega
      have hw : wrap64 ((k : Int) + 1) = (k : Int) + 1 := by unfold wrap64; omega
      by_cases h34 : s[k].toNat = 34
      ·
        --[[q34
        have HC := Lib.hid (show escL s[k] = [92, 34] from by unfold escL; rw [if_pos (by omega)]; rw [show s[k] = 34 from UInt8.toNat_inj.1 h34])
        obtain ⟨N, hN⟩ : ∃ N, N = (34 :: (s.data.toList.take k).flatMap escL).length + ([92, 34] : List UInt8).length := ⟨_, rfl⟩
        have HL := Lib.hid (show N = (34 :: (s.data.toList.take k).flatMap escL).length + ([92, 34] : List UInt8).length ∧ N ≤ 1099511627776 from ⟨hN, by have := esc_all (s.data.toList.take k); simp at this hN ⊢; omega⟩)
        clear hN
        go_wp2_with (at_builtin; go_must (refine wp_appN rfl (.tmp 27) (.tmp 29) rfl (HR.out.1.alloc _) rfl ⟨wr.heap.size, 0, none⟩ 2 2 [92, 34] rfl rfl (news2 rfl rfl) N HL.out ?_); intro a1 q1 w' hr' hk' hf')
        go_roundg (s.size - (k + 1))
        case measure => have := HG.out; omega
        case rel => exact ⟨k + 1, rfl, QtRel.app HR hkn HC.out hr' hk' hf'⟩
        --]]q34
      · by_cases h92 : s[k].toNat = 92
        ·
          --[[q92
          have HC := Lib.hid (show escL s[k] = [92, 92] from by unfold escL; rw [if_pos (by omega)]; rw [show s[k] = 92 from UInt8.toNat_inj.1 h92])
          obtain ⟨N, hN⟩ : ∃ N, N = (34 :: (s.data.toList.take k).flatMap escL).length + ([92, 92] : List UInt8).length := ⟨_, rfl⟩
          have HL := Lib.hid (show N = (34 :: (s.data.toList.take k).flatMap escL).length + ([92, 92] : List UInt8).length ∧ N ≤ 1099511627776 from ⟨hN, by have := esc_all (s.data.toList.take k); simp at this hN ⊢; omega⟩)
          clear hN
          go_wp2_with (at_builtin; go_must (refine wp_appN rfl (.tmp 27) (.tmp 29) rfl (HR.out.1.alloc _) rfl ⟨wr.heap.size, 0, none⟩ 2 2 [92, 92] rfl rfl (news2 rfl rfl) N HL.out ?_); intro a1 q1 w' hr' hk' hf')
          go_roundg (s.size - (k + 1))
          case measure => have := HG.out; omega
          case rel => exact ⟨k + 1, rfl, QtRel.app HR hkn HC.out hr' hk' hf'⟩
          --]]q92
        · have n1 : ((s[k].toNat : Int) == 34) = false := by rw [beq_eq_false_iff_ne]; omega
          have n2 : ((s[k].toNat : Int) == 92) = false := by rw [beq_eq_false_iff_ne]; omega
          by_cases hb : s[k].toNat < 32 ∨ 126 < s[k].toNat
          ·
            have HC := Lib.hid (show escL s[k] = [92, 120, hexD (s[k].toNat / 16), hexD (s[k].toNat % 16)] from by unfold escL; rw [if_neg (by omega), if_pos hb])
            obtain ⟨N, hN⟩ : ∃ N, N = (34 :: (s.data.toList.take k).flatMap escL).length + ([92, 120, hexD (s[k].toNat / 16), hexD (s[k].toNat % 16)] : List UInt8).length := ⟨_, rfl⟩
            have HL := Lib.hid (show N = (34 :: (s.data.toList.take k).flatMap escL).length + ([92, 120, hexD (s[k].toNat / 16), hexD (s[k].toNat % 16)] : List UInt8).length ∧ N ≤ 1099511627776 from ⟨hN, by have := esc_all (s.data.toList.take k); simp at this hN ⊢; omega⟩)
            clear hN
            by_cases hlo : s[k].toNat < 32
            · have e1 : ((s[k].toNat : Int) < 32) := by omega
              --[[qlo
              have R1 := fun W => run_hex W ((s[k].toNat : Int) / 16) (s[k].toNat / 16) (by omega) (by have := s[k].toNat_lt; omega)
              have R2 := fun W => run_hex W ((s[k].toNat : Int) % 16) (s[k].toNat % 16) (by omega) (by omega)
              have d5 : bits BinOp.and IntKind.u8 (s[k].toNat : Int) 15 = (s[k].toNat : Int) % 16 := and15 _
              unfold hexs at R1 R2
              obtain ⟨x1, hx1⟩ : ∃ x1, x1 = hexD (s[k].toNat / 16) := ⟨_, rfl⟩
              obtain ⟨x2, hx2⟩ : ∃ x2, x2 = hexD (s[k].toNat % 16) := ⟨_, rfl⟩
              rw [← hx1, ← hx2] at HC HL
              rw [← hx1] at R1
              rw [← hx2] at R2
              clear hx1 hx2
              go_wp2_with fail
              go_region_law ((refine step_apps (α := UInt8) (o := ⟨some 46, _, _, _, _, _⟩) elemB (by rfl) (.tmp 38) (.tmp 45) (by rfl) (v := .slice a3 n0 c3) (u := .slice (some ⟨wr.heap.size, 0, none⟩) 4 4) (by rfl) (by rfl) (xs := 34 :: (s.data.toList.take k).flatMap escL) (ys := [92, 120, x1, x2]) ((HR.out.1.drew).alloc _) (lit4 rfl rfl rfl rfl) (by have := HL.out; omega) (by have := HL.out; unfold maxLen; omega) N HL.out.1.symm ?_; intro a1 q1 w' hr' hk' hf'))
              all_goals
                go_wp2_with fail
                go_roundg (s.size - (k + 1))
                case measure => have := HG.out; omega
                case rel => exact ⟨k + 1, rfl, QtRel.app (wx := wr.drew) (Lib.hid ⟨HR.out.1.drew, HR.out.2.1.drew, HR.out.2.2⟩) hkn HC.out hr' hk' hf'⟩
              --]]qlo
            · have e1 : ¬ ((s[k].toNat : Int) < 32) := by omega
              have e2 : ((126 : Int) < (s[k].toNat : Int)) := by omega
              --[[qhi
              have R1 := fun W => run_hex W ((s[k].toNat : Int) / 16) (s[k].toNat / 16) (by omega) (by have := s[k].toNat_lt; omega)
              have R2 := fun W => run_hex W ((s[k].toNat : Int) % 16) (s[k].toNat % 16) (by omega) (by omega)
              have d5 : bits BinOp.and IntKind.u8 (s[k].toNat : Int) 15 = (s[k].toNat : Int) % 16 := and15 _
              unfold hexs at R1 R2
              obtain ⟨x1, hx1⟩ : ∃ x1, x1 = hexD (s[k].toNat / 16) := ⟨_, rfl⟩
              obtain ⟨x2, hx2⟩ : ∃ x2, x2 = hexD (s[k].toNat % 16) := ⟨_, rfl⟩
              rw [← hx1, ← hx2] at HC HL
              rw [← hx1] at R1
              rw [← hx2] at R2
              clear hx1 hx2
              go_wp2_with fail
              go_region_law ((refine step_apps (α := UInt8) (o := ⟨some 46, _, _, _, _, _⟩) elemB (by rfl) (.tmp 38) (.tmp 45) (by rfl) (v := .slice a3 n0 c3) (u := .slice (some ⟨wr.heap.size, 0, none⟩) 4 4) (by rfl) (by rfl) (xs := 34 :: (s.data.toList.take k).flatMap escL) (ys := [92, 120, x1, x2]) ((HR.out.1.drew).alloc _) (lit4 rfl rfl rfl rfl) (by have := HL.out; omega) (by have := HL.out; unfold maxLen; omega) N HL.out.1.symm ?_; intro a1 q1 w' hr' hk' hf'))
              all_goals
                go_wp2_with fail
                go_roundg (s.size - (k + 1))
                case measure => have := HG.out; omega
                case rel => exact ⟨k + 1, rfl, QtRel.app (wx := wr.drew) (Lib.hid ⟨HR.out.1.drew, HR.out.2.1.drew, HR.out.2.2⟩) hkn HC.out hr' hk' hf'⟩
              --]]qhi
          · have e1 : ¬ ((s[k].toNat : Int) < 32) := by omega
            have e2 : ¬ ((126 : Int) < (s[k].toNat : Int)) := by omega
            --[[qpl
            have HC := Lib.hid (show escL s[k] = [s[k]] from by unfold escL; rw [if_neg (by omega), if_neg hb])
            obtain ⟨N, hN⟩ : ∃ N, N = (34 :: (s.data.toList.take k).flatMap escL).length + ([s[k]] : List UInt8).length := ⟨_, rfl⟩
            have HL := Lib.hid (show N = (34 :: (s.data.toList.take k).flatMap escL).length + ([s[k]] : List UInt8).length ∧ N ≤ 1099511627776 from ⟨hN, by have := esc_all (s.data.toList.take k); simp at this hN ⊢; omega⟩)
            clear hN
            go_wp2_with (at_builtin; go_must (refine wp_appN rfl (.tmp 16) (.tmp 18) rfl (HR.out.1.alloc _) rfl ⟨wr.heap.size, 0, none⟩ 1 1 [s[k]] rfl rfl (new_byteV _ _ _ _ rfl) N HL.out ?_); intro a1 q1 w' hr' hk' hf')
            go_roundg (s.size - (k + 1))
            case measure => have := HG.out; omega
            case rel => exact ⟨k + 1, rfl, QtRel.app HR hkn HC.out hr' hk' hf'⟩
            --]]qpl
    ·
      have e0 : ¬ (k : Int) < s.size := by omega
      --[[qend
      have ek : k = s.size := by omega
      have HE := Lib.hid (show s.data.toList.take k = s.data.toList from List.take_of_length_le (by simp; omega))
      obtain ⟨N, hN⟩ : ∃ N, N = (34 :: (s.data.toList.take k).flatMap escL).length + ([34] : List UInt8).length := ⟨_, rfl⟩
      have HL := Lib.hid (show N = (34 :: (s.data.toList.take k).flatMap escL).length + ([34] : List UInt8).length ∧ N ≤ 1099511627776 from ⟨hN, by have := esc_all (s.data.toList.take k); simp at this hN ⊢; omega⟩)
      clear hN
      clear ek
      go_wp2_with (at_builtin; go_must (refine wp_appN rfl (.tmp 47) (.tmp 48) rfl (HR.out.1.alloc _) rfl ⟨wr.heap.size, 0, none⟩ 1 1 [34] rfl rfl (new_byteV _ _ _ _ rfl) N HL.out ?_); intro a1 q1 w' hr' hk' hf'; have hcv := run_str hr' 104 9 5 Tryz.underlying104 Tryz.underlying5 Tryz.underlying9)
      go_ret
      refine ⟨by rw [HE.out]; rfl, ?_⟩
      have hsz := HR.out.2.1.size
      exact ((HR.out.2.1.alloc (by omega) _).trans (hk'.below (by simp; omega) (fun j hj e => by have := HR.out.2.2 j e; omega)))
      --]]qend
--]]quote
end Go.Proofs.YtielnengimninaaGreatDoor
