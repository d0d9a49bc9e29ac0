/- asm.labels: the labels that a print needs, walked. -/
import Derived.Test.YtielnengimninaaGreatDoorV39
import Derived.Lib.ItoaLen
import Derived.Test.YtielnengimninaaGreatDoorVA
import Derived.Test.YtielnengimninaaGreatDoorV17
namespace Go.Va
open Go.Own Go.RowKit Go.Own.MapTy
abbrev LM : MapTy Int ByteArray := IM ByteArray (fun s => .string s)
def itoaB (n : Int) : ByteArray := ⟨(Lib.itoa n).toArray⟩
theorem itoaB_size {n : Int} (h0 : -9223372036854775808 ≤ n) (h1 : n ≤ 9223372036854775807) : (itoaB n).size ≤ 21 := by
  have := Lib.itoa_length_le n h0 h1
  show (Lib.itoa n).toArray.size ≤ 21
  simpa using this
def labName (n : Nat) : ByteArray := ⟨#[108]⟩ ++ itoaB (n : Int)
/-- the places that are jumped to -/
def lab1 : List (Int × ByteArray) → List In → List (Int × ByteArray)
  | m, [] => m
  | m, c :: r => lab1 (bif (ofL c.op).1.operand == 4 then upd m c.a ⟨#[]⟩ else m) r
/-- .. and their names -/
def lab2 : List (Int × ByteArray) → Nat → Nat → Nat → List (Int × ByteArray)
  | m, _, _, 0 => m
  | m, i, n, f + 1 => bif (MapTy.get m (i : Int)).isSome then lab2 (upd m (i : Int) (labName (n + 1))) (i + 1) (n + 1) f else lab2 m (i + 1) n f
def labsL (code : List In) : List (Int × ByteArray) := lab2 (lab1 [] code) 0 0 code.length
end Go.Va
namespace Go.Proofs.YtielnengimninaaGreatDoor
open Go.RowKit Go.Own Go.Own.MapTy Go.Va Go.Sort
open Go.Own.Cells (sz enc)
theorem itoa_anyB {N : Nat} (n : Int) (h0 : -9223372036854775808 ≤ n) (h1 : n ≤ 9223372036854775807) (w : World) (G : Gl Tryz.prog N w) :
    Calls Tryz.prog 54 #[.int .i64 n] w fun e w' => e = .returned (.string (itoaB n)) ∧ Below w.heap.size w w' := itoa_any n h0 h1 w G
theorem checkI (n : Nat) (em : Bool) (W : World) (x : Int) : (Instr.checkKey em (n + 1) 3 (.int .i64 x)).run Tryz.prog W = .ok () W := by simp [Instr.checkKey, go_sem]
theorem lmlaw : KLaw LM Tryz.prog 3 := IM.klaw Tryz.underlying3 (fun W em x => checkI 9999 em W x)
theorem look_nm {w : World} {b : Nat} {m : List (Int × ByteArray)} (h : MapAt LM w b m) (x : Int) : ∀ W : World, Same w b W → (Instr.lookup 101 (.map (some b)) (.int .i64 x) true).run Tryz.prog W = .ok (.tuple #[.string ((MapTy.get m x).getD ⟨#[]⟩), .bool (MapTy.get m x).isSome]) W := by
  intro W hW
  have := h.lookS lmlaw Tryz.underlying101 (z := .string ⟨#[]⟩) (fun W => by kernel_rfl) x true W hW
  cases hg : MapTy.get m x with
  | none => rw [hg] at this; exact this
  | some n => rw [hg] at this; exact this
theorem look_nm1 {w : World} {b : Nat} {m : List (Int × ByteArray)} (h : MapAt LM w b m) (x : Int) : ∀ W : World, Same w b W → (Instr.lookup 101 (.map (some b)) (.int .i64 x) false).run Tryz.prog W = .ok (.string ((MapTy.get m x).getD ⟨#[]⟩)) W := by
  intro W hW
  have := h.lookS lmlaw Tryz.underlying101 (z := .string ⟨#[]⟩) (fun W => by kernel_rfl) x false W hW
  cases hg : MapTy.get m x with
  | none => rw [hg] at this; exact this
  | some n => rw [hg] at this; exact this
def LbPost (w : World) (code : List In) (e : Ending) (w' : World) : Prop := ∃ mb, e = .returned (.map (some mb)) ∧ w.heap.size ≤ mb ∧ Hid (MapAt LM w' mb (labsL code) ∧ Below w.heap.size w w')
--[[labels
set_option maxRecDepth 100000 in
set_option maxHeartbeats 8000000 in
theorem labels_any {N : Nat} (F : Nat → Prop) (w : World) (i : IC) (p : Img) (H : IAt F w i p) (G : Gl Tryz.prog N w) (hc : p.code.length ≤ 65536) :
    Calls Tryz.prog 50 #[.agg #[.slice i.ca i.cn i.cc, .slice i.ka i.kn i.kc, .slice i.na i.nn i.nc, .int .i64 i.pl]] w (LbPost w p.code) := by
  obtain ⟨ca, cn, cc, ka, kn, kc, na, nn, nc, pl⟩ := i
  have hl := H.lens.1
  dsimp only at hl
  have HE := Lib.hid (And.intro H.code.elems (And.intro hl (And.intro hc G)))
  clear H hl hc G
  dsimp only
  have _hmm := @run_makeMap Tryz.prog
  go_enter Tryz.func50, Tryz.ntmps50
  go_wp2_with fail
  obtain ⟨w1, hw1⟩ : ∃ w1, w1 = (w.alloc (.cells #[.slice ca cn cc, .slice ka kn kc, .slice na nn nc, .int .i64 pl] 26)).alloc (.map #[] 0) := ⟨_, rfl⟩
  rw [← hw1]
  have sz1 : w1.heap.size = w.heap.size + 2 := by rw [hw1]; simp
  have B1 : Below w.heap.size w w1 := by rw [hw1]; exact ((Below.refl _ _).alloc (Nat.le_refl _) _).alloc (by simp) _
  have M1 : MapAt LM w1 (w.heap.size + 1) [] := by rw [hw1]; have := MapAt.made (w.alloc (.cells #[.slice ca cn cc, .slice ka kn kc, .slice na nn nc, .int .i64 pl] 26)) LM; simpa using this
  have q0 : w1.cell? ⟨w.heap.size, 0, none⟩ = some (.slice ca cn cc) := by rw [hw1, cell_of_heap ((Below.heap_alloc (w.alloc (.cells #[.slice ca cn cc, .slice ka kn kc, .slice na nn nc, .int .i64 pl] 26)) _ w.heap.size (by simp)).trans (heap_alloc_new _ _))]; rfl
  have H1 := Lib.hid (And.intro sz1 (And.intro B1 (And.intro M1 q0)))
  clear hw1 sz1 B1 M1
  go_wp2_with fail
  go_loopg [16] (cn) (fun gk v16 wr => ∃ i : Nat, v16 = .int .i64 i ∧ i ≤ cn ∧ gk = cn - i ∧ Hid (∃ m, MapAt LM wr (w.heap.size + 1) m ∧ lab1 m (p.code.drop i) = lab1 [] p.code ∧ Keeps (fun j => j = w.heap.size + 1) w1 wr))
  case atStart => exact ⟨0, rfl, Nat.zero_le _, rfl, Lib.hid ⟨_, H1.out.2.2.1, rfl, Keeps.refl _ _⟩⟩
  case round =>
    obtain ⟨k, rfl, hk, hgk, HR⟩ := hrel
    obtain ⟨m, HM⟩ := HR.out
    have HM := Lib.hid HM
    have szr := HM.out.2.2.size
    have HGK := Lib.hid hgk
    have lt1 : w.heap.size + 1 < wr.heap.size := by have := H1.out.1; omega
    have BW : Below w.heap.size w wr := H1.out.2.1.trans (HM.out.2.2.below (by have := H1.out.1; omega) (fun j hj e => by omega))
    have HBW := Lib.hid BW
    clear HR hgk szr BW
    by_cases hkn : k < cn
    · obtain ⟨c, hx⟩ := elem_at (l := p.code) (k := k) (by have := HE.out.2.1; omega)
      have hdr : p.code.drop k = c :: p.code.drop (k + 1) := by
        rw [List.drop_eq_getElem_cons (List.getElem?_eq_some_iff.1 hx).1, (List.getElem?_eq_some_iff.1 hx).2]
      have hla := HM.out.2.1
      rw [hdr, lab1] at hla
      obtain ⟨g, off, ha, hel⟩ := HE.out.1.2.2
      obtain ⟨hFg, hg, hcs⟩ := hel k c hx
      have ha := ha.resolve_right (fun e => by rw [e] at hx; simp at hx)
      subst ha
      have m0 := hcs 0 _ rfl
      have m1 := hcs 1 _ rfl
      rw [show off + (k * sz In + 0) = off + k * 2 from rfl, ← HBW.out.cell (p := ⟨g, _, none⟩) hg] at m0
      rw [show off + (k * sz In + 1) = off + k * 2 + 1 from rfl, ← HBW.out.cell (p := ⟨g, _, none⟩) hg] at m1
      have hkn' : (k : Int) < cn := by omega
      have wk : wrap64 ((k : Int) + 1) = (k : Int) + 1 := by have := HE.out.2.1; have := HE.out.2.2.1; unfold wrap64; omega
      obtain ⟨inf, ok, hof⟩ : ∃ inf ok, ofL c.op = (inf, ok) := ⟨_, _, rfl⟩
      rw [hof] at hla
      have OF := Lib.hid (fun W => of_rule c.op inf ok hof W)
      obtain ⟨cop, cav⟩ := c
      dsimp only at m0 m1 OF hla hof
      have HLA := Lib.hid hla
      clear hcs hel hdr hx hla hof
      --[[l1r
      go_wp2_with fail
      refine (OF.out _).mono ?_
      rintro e w5 ⟨rfl, hB5⟩
      have lt5 : wr.heap.size < w5.heap.size := by have := hB5.size; simp at this; omega
      have i0 : w5.cell? ⟨wr.heap.size, 0, none⟩ = some (.int .i64 cop) := by rw [hB5.cell (p := ⟨wr.heap.size, 0, none⟩) (by simp), cell_of_heap (heap_alloc_new _ _)]; rfl
      have i1 : w5.cell? ⟨wr.heap.size, 1, none⟩ = some (.int .i64 cav) := by rw [hB5.cell (p := ⟨wr.heap.size, 1, none⟩) (by simp), cell_of_heap (heap_alloc_new _ _)]; rfl
      have B5 : Below wr.heap.size wr w5 := ((Below.refl _ _).alloc (Nat.le_refl _) (.cells #[.int .i64 cop, .int .i64 cav] 45)).trans (hB5.mono (by simp))
      have M5 : MapAt LM w5 (w.heap.size + 1) m := HM.out.1.keep (S := fun _ => False) (Keeps.of_below B5) (fun f => f)
      have lt5b : w.heap.size + 1 < w5.heap.size := by omega
      have HB5 := Lib.hid B5
      obtain ⟨o, hup, hmap⟩ := MapAt.store M5 lmlaw Tryz.underlying101 cav (⟨#[]⟩ : ByteArray)
      have HMO := Lib.hid (And.intro M5 hmap)
      replace hup : ∀ X : World, Same w5 (w.heap.size + 1) X → (Instr.mapUpdate 101 (.map (some (w.heap.size + 1))) (.int .i64 cav) (.string ⟨#[]⟩)).run Tryz.prog X = .ok () (setBlock X (w.heap.size + 1) o) := hup
      clear hB5 OF B5 M5 hmap
      cases h4 : (inf.operand == 4) with
      | false =>
        have hla := HLA.out
        rw [h4] at hla
        simp only [cond_false] at hla
        have HL2 := Lib.hid hla
        clear hla hup HLA
        go_wp2_with fail
        go_roundg (cn - (k + 1))
        case measure => have := HGK.out; omega
        case rel =>
          refine ⟨k + 1, by simp [wk], by omega, rfl, Lib.hid ⟨m, (HMO.out.1.keep (S := fun _ => False) ((Keeps.refl _ _).alloc _) (fun f => f)), HL2.out, ?_⟩⟩
          exact (HM.out.2.2.trans (Keeps.of_below (S := fun _ => False) HB5.out) (fun _ _ f => f.elim)).alloc _
      | true =>
        have hla := HLA.out
        rw [h4] at hla
        simp only [cond_true] at hla
        have HL2 := Lib.hid hla
        clear hla HLA
        go_wp2_with fail
        go_roundg (cn - (k + 1))
        case measure => have := HGK.out; omega
        case rel =>
          refine ⟨k + 1, by simp [wk], by omega, rfl, Lib.hid ⟨_, HMO.out.2 _ (setBlock_same _ _ _ (by simp; omega)), HL2.out, ?_⟩⟩
          exact ((HM.out.2.2.trans (Keeps.of_below (S := fun _ => False) HB5.out) (fun _ _ f => f.elim)).alloc _).setBlock (b := w.heap.size + 1) (.inl rfl) o
      --]]l1r
    · obtain rfl : k = cn := by omega
      have hdn : p.code.drop k = [] := List.drop_eq_nil_of_le (by have := HE.out.2.1; omega)
      have hla := HM.out.2.1
      rw [hdn, lab1] at hla
      subst hla
      obtain ⟨wo, rfl⟩ : ∃ wo : World, wo = wr := ⟨_, rfl⟩
      have q0 : wo.cell? ⟨w.heap.size, 0, none⟩ = some (.slice ca k cc) := by rw [HM.out.2.2.cell (p := ⟨w.heap.size, 0, none⟩) (by show w.heap.size < w1.heap.size; have := H1.out.1; omega) (by show ¬ w.heap.size = w.heap.size + 1; omega)]; exact H1.out.2.2.2
      clear hdn hkn hk
      --[[l2
      go_wp2_with fail
      go_loopg [8, 36] (k) (fun gk v8 v36 wr => ∃ i n : Nat, v8 = .int .i64 n ∧ v36 = .int .i64 i ∧ i ≤ k ∧ n ≤ i ∧ gk = k - i ∧ Hid (∃ m, MapAt LM wr (w.heap.size + 1) m ∧ lab2 m i n (k - i) = labsL p.code ∧ Keeps (fun j => j = w.heap.size + 1) w1 wr))
      case atStart => exact ⟨0, 0, rfl, rfl, Nat.zero_le _, Nat.zero_le _, rfl, Lib.hid ⟨_, HM.out.1, by unfold labsL; rw [HE.out.2.1]; rfl, HM.out.2.2⟩⟩
      case round =>
        clear HM
        obtain ⟨j, n, rfl, rfl, hj, hn, hgk, HR⟩ := hrel
        obtain ⟨m, HM⟩ := HR.out
        have HM := Lib.hid HM
        have szr := HM.out.2.2.size
        have HGK := Lib.hid (And.intro hgk (And.intro hj hn))
        have lt1 : w.heap.size + 1 < wr.heap.size := by have := H1.out.1; omega
        clear HR hgk szr
        by_cases hjk : j < k
        · have hjk' : (j : Int) < k := by omega
          have wj : wrap64 ((j : Int) + 1) = (j : Int) + 1 := by have := HE.out.2.1; have := HE.out.2.2.1; unfold wrap64; omega
          have hla := HM.out.2.1
          rw [show k - j = (k - (j + 1)) + 1 from by omega, lab2] at hla
          have hlook := look_nm HM.out.1 (j : Int)
          have wn : IntKind.i64.wrap ((n : Int) + 1) = (n : Int) + 1 := by have := HE.out.2.1; have := HE.out.2.2.1; unfold IntKind.wrap; simp [IntKind.bits, IntKind.signed]; omega
          have wn2 : wrap64 ((n : Int) + 1) = (n : Int) + 1 := by have := HE.out.2.1; have := HE.out.2.2.1; unfold wrap64; omega
          have hn1 := HE.out.2.1
          have hn2 := HE.out.2.2.1
          have BW : Below w.heap.size w wr := H1.out.2.1.trans (HM.out.2.2.below (by have := H1.out.1; omega) (fun j hj e => by omega))
          have hz : (itoaB ((n : Int) + 1)).size ≤ 21 := itoaB_size (by omega) (by omega)
          have CI := Lib.hid (fun W (K : Below w.heap.size w W) => itoa_anyB ((n : Int) + 1) (by omega) (by omega) W (HE.out.2.2.2.below K))
          have HBW := Lib.hid BW
          clear hn1 hn2 BW
          cases hg : (MapTy.get m (j : Int)).isSome with
          | false =>
            rw [hg] at hla hlook
            simp only [cond_false] at hla
            have HLA := Lib.hid hla
            clear hla hg
            go_wp2_with fail
            go_roundg (k - (j + 1))
            case measure => have := HGK.out; omega
            case rel => exact ⟨j + 1, n, rfl, by simp [wj], by omega, by have := HGK.out; omega, rfl, Lib.hid ⟨m, HM.out.1, HLA.out, HM.out.2.2⟩⟩
          | true =>
            rw [hg] at hla hlook
            simp only [cond_true] at hla
            have HLA := Lib.hid hla
            clear hla hg
            go_wp2_with fail
            refine (CI.out _ HBW.out).mono ?_
            rintro e w5 ⟨rfl, hB5⟩
            have M5 : MapAt LM w5 (w.heap.size + 1) m := HM.out.1.keep (S := fun _ => False) (Keeps.of_below hB5) (fun f => f)
            have lt5b : w.heap.size + 1 < w5.heap.size := by have := hB5.size; omega
            obtain ⟨o, hup, hmap⟩ := MapAt.store M5 lmlaw Tryz.underlying101 (j : Int) (labName (n + 1))
            have HMO := Lib.hid (And.intro M5 (And.intro hmap hB5))
            replace hup : ∀ X : World, Same w5 (w.heap.size + 1) X → (Instr.mapUpdate 101 (.map (some (w.heap.size + 1))) (.int .i64 (j : Int)) (.string (⟨#[108]⟩ ++ itoaB ((n : Int) + 1)))).run Tryz.prog X = .ok () (setBlock X (w.heap.size + 1) o) := hup
            clear hmap hB5 M5 hlook
            go_wp2_with fail
            go_roundg (k - (j + 1))
            case measure => have := HGK.out; omega
            case rel =>
              refine ⟨j + 1, n + 1, by simp, by simp [wj], by omega, by have := HGK.out; omega, rfl, Lib.hid ⟨_, HMO.out.2.1 _ (setBlock_same _ _ _ lt5b), HLA.out, ?_⟩⟩
              exact (HM.out.2.2.trans (Keeps.of_below (S := fun _ => False) HMO.out.2.2) (fun _ _ f => f.elim)).setBlock (b := w.heap.size + 1) (.inl rfl) o
        · obtain rfl : j = k := by omega
          have hla := HM.out.2.1
          rw [Nat.sub_self, lab2] at hla
          subst hla
          go_wp2_with fail
          go_ret
          exact ⟨_, rfl, by omega, Lib.hid ⟨HM.out.1, H1.out.2.1.trans (HM.out.2.2.below (by have := H1.out.1; omega) (fun j hj e => by omega))⟩⟩
      --]]l2
--]]labels
end Go.Proofs.YtielnengimninaaGreatDoor
