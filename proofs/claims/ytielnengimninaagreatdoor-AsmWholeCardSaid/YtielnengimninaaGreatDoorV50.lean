/- AsmWhole, walked. -/
import Derived.Test.YtielnengimninaaGreatDoorV46
import Derived.Test.YtielnengimninaaGreatDoorV49
import Derived.Test.YtielnengimninaaGreatDoorV36
namespace Go.Proofs.YtielnengimninaaGreatDoor
open Go.RowKit Go.Own Go.Own.MapTy Go.Va Go.Sort
open Go.Own.Cells (sz enc)
theorem open_ints {H : Type} {tok : TypeId × Value → H} {w : World} {base : Nat} {spare : Nat → Bool} {held : Bool} {a : Option Addr} {len cap : Nat} {d : DataW H} {p : List MemPlace} (h : DataW.Trod tok Tryz.prog w base spare held 29 (.slice a len cap) d p) : ∃ bs : List Int, RdF (fun j => j < w.heap.size) w (.slice a len cap) bs := by
  obtain ⟨fuel, hf⟩ := h
  obtain ⟨a', len', cap', e, ys, hr, _⟩ := open_rd (α := Int) (Q := fun _ => True) Tryz.underlying29 (show Tryz.prog.cellsOf 3 = 1 by kernel_rfl) (by decide) 0 (fun m _ cs x hcl ht => by
    obtain ⟨b, e, _⟩ := DataW.trod_int Tryz.underlying3 ht
    exact ⟨b, e, trivial⟩) hf
  simp [Value.cells] at e
  obtain ⟨rfl, rfl, rfl⟩ := e
  exact ⟨ys, hr⟩
theorem dat_app (s u : ByteArray) : (s ++ u).data.toList = s.data.toList ++ u.data.toList := by rw [ByteArray.data_append, Array.toList_append]
/-- a line of the law's text -/
def lineAt (l : List Int) (sp : Int) (bad : List UInt8) (i : Nat) : List UInt8 := if (i : Int) = sp then badB ++ bad else opT (l[i]?.getD 0)
def wholeT (l : List Int) (sp : Int) (bad : List UInt8) (i : Nat) : List (List UInt8) := (List.range i).map (lineAt l sp bad)
theorem wholeT_next (l : List Int) (sp : Int) (bad : List UInt8) (i : Nat) : textB (wholeT l sp bad (i + 1)) = textB (wholeT l sp bad i) ++ (lineAt l sp bad i ++ [10]) := by
  unfold wholeT
  rw [List.range_succ, List.map_append, textB_app]
  simp [textB]
theorem range_opT (l : List Int) (f : Nat → List UInt8) (n : Nat) (hn : n ≤ l.length) (h : ∀ i, i < n → f i = opT (l[i]?.getD 0)) : (List.range n).map f = (l.take n).map opT := by
  refine List.ext_getElem? fun i => ?_
  by_cases hi : i < n
  · have e : (l.take n)[i]? = l[i]? := by rw [List.getElem?_take, if_pos hi]
    rw [List.getElem?_map, List.getElem?_map, List.getElem?_range hi, e, List.getElem?_eq_getElem (by omega)]
    simp only [Option.map_some]
    rw [h i hi, List.getElem?_eq_getElem (by omega)]
    rfl
  · rw [List.getElem?_eq_none (by simp; omega), List.getElem?_eq_none (by simp; omega)]
/-- what the law's text is read as -/
def WholeR (l : List Int) (sp : Int) (r : Img × Int × Int) : Prop :=
  (l.length = 0 ∧ r = (noImg, 0, 8)) ∨ (l.length ≠ 0 ∧ 0 ≤ sp ∧ sp < l.length ∧ r = (noImg, sp + 1, 110)) ∨
  (l.length ≠ 0 ∧ ¬ (0 ≤ sp ∧ sp < l.length) ∧ ∃ p, r = (p, 0, 0) ∧ p.code.length = l.length ∧ p.consts.length ≤ 1 ∧ p.names.length ≤ 1 ∧ (p.places = 0 ∨ p.places = 4))
theorem wholeR_of {l : List Int} {sp : Int} {bad s : ByteArray} (h1 : l.length ≤ 40) (h2 : bad.size ≤ 30) (hs : s.data.toList = textB (wholeT l sp bad.data.toList l.length)) (hb : 0 ≤ sp → sp < l.length → 10 ∉ bad.data.toList) : WholeR l sp (asmL s) := by
  by_cases h0 : l.length = 0
  · refine .inl ⟨h0, whole_none ?_⟩
    rw [hs, h0]
    rfl
  · by_cases h3 : 0 ≤ sp ∧ sp < l.length
    · obtain ⟨k, rfl⟩ : ∃ k : Nat, sp = k := ⟨sp.toNat, by omega⟩
      refine .inr (.inl ⟨h0, h3.1, h3.2, ?_⟩)
      obtain ⟨m, hm⟩ : ∃ m, l.length = k + 1 + m := ⟨l.length - (k + 1), by omega⟩
      have e : wholeT l k bad.data.toList l.length = (l.take k).map opT ++ (badB ++ bad.data.toList) :: (List.range m).map (fun j => opT (l[k + 1 + j]?.getD 0)) := by
        unfold wholeT
        rw [hm, List.range_add, List.range_succ, List.map_append, List.map_append, range_opT l _ k (by omega) (fun i hi => by unfold lineAt; rw [if_neg (by omega)])]
        rw [List.append_assoc]
        congr 1
        rw [List.map_singleton, List.singleton_append]
        congr 1
        · unfold lineAt; rw [if_pos rfl]
        · rw [List.map_map]
          refine List.map_congr_left fun j _ => ?_
          show lineAt l k bad.data.toList (k + 1 + j) = _
          unfold lineAt
          rw [if_neg (by omega)]
      rw [e] at hs
      have := whole_bad (l := l.take k) (x := bad.data.toList) (r := (List.range m).map (fun j => opT (l[k + 1 + j]?.getD 0))) (by simp; omega) ⟨hb h3.1 h3.2, by rw [← Lib.size_eq]; exact h2⟩ (fun y hy => by obtain ⟨j, _, rfl⟩ := List.mem_map.1 hy; exact opT_fit _) hs
      rw [this]
      have : ((l.take k).length : Int) = k := by simp; omega
      rw [this]
    · refine .inr (.inr ⟨h0, h3, ?_⟩)
      have e : wholeT l sp bad.data.toList l.length = l.map opT := by
        unfold wholeT
        rw [range_opT l _ l.length (Nat.le_refl _) (fun i hi => by unfold lineAt; rw [if_neg (by omega)]), List.take_length]
      rw [e] at hs
      exact whole_good (by omega) h1 hs
theorem name_le {op : Int} {nm : ByteArray} {io ii jo : Int} {bb be bf ok : Bool} (h : ofL op = (⟨nm, io, ii, jo, bb, be, bf⟩, ok)) : nm.size ≤ 10 := by
  have := name_size op
  rw [h] at this
  exact this
--[[whole
set_option maxRecDepth 100000 in
set_option maxHeartbeats 8000000 in
theorem whole_walk {N : Nat} (ba : Option Addr) (bl bc : Nat) (l : List Int) (sp : Int) (bad : ByteArray) (w : World) (G : Gl Tryz.prog N w) (HL : RdF (fun j => j < w.heap.size) w (.slice ba bl bc) l) : Calls Tryz.prog 11 #[.slice ba bl bc, .int .i64 sp, .string bad] w fun en w' => en = .returned (.bool true) ∧ Below w.heap.size w w' := by
  obtain rfl : bl = l.length := HL.elems.1
  have HG := Lib.hid G
  have HV := Lib.hid (And.intro HL trivial)
  clear G HL
  go_enter Tryz.func11, Tryz.ntmps11
  go_wp2_with fail
  refine (reads_true _ HG.out).mono ?_
  rintro en w1 ⟨rfl, hB1⟩
  have H1 := Lib.hid hB1
  clear hB1
  cases e1 : decide (40 < (l.length : Int)) with
  | true =>
    --[[k1
    go_wp2_with fail
    go_ret
    exact ⟨rfl, H1.out⟩
    --]]k1
  | false =>
  cases e2 : decide (30 < (bad.size : Int)) with
  | true =>
    --[[k2
    go_wp2_with fail
    go_ret
    exact ⟨rfl, H1.out⟩
    --]]k2
  | false =>
    have hl40 : l.length ≤ 40 := by have := of_decide_eq_false e1; omega
    have hb30 : bad.size ≤ 30 := by have := of_decide_eq_false e2; omega
    --[[main
    go_wp2_with fail
    clear e1 e2
    go_loopg [27, 7] (l.length) (fun gk v27 v7 wr => ∃ (i : Nat) (s : ByteArray), v27 = .int .i64 i ∧ v7 = .string s ∧ i ≤ l.length ∧ gk = l.length - i ∧ s.size ≤ 64 * i ∧ Hid (s.data.toList = textB (wholeT l sp bad.data.toList i) ∧ (0 ≤ sp → sp < i → 10 ∉ bad.data.toList) ∧ Below w1.heap.size w1 wr))
    case atStart => exact ⟨0, ⟨#[]⟩, rfl, rfl, Nat.zero_le _, rfl, Nat.zero_le _, Lib.hid ⟨rfl, fun h1 h2 => by omega, Below.refl _ _⟩⟩
    case round =>
      obtain ⟨i, s, rfl, rfl, hi, hgk, hsz, HR⟩ := hrel
      by_cases hin : i < l.length
      · have hin' : (i : Int) < l.length := by omega
        obtain ⟨op, hop⟩ := elem_at hin
        obtain ⟨g, off, ha, hgl, hg, hc⟩ := HV.out.1.at_ hop
        have BW := H1.out.trans (HR.out.2.2.mono H1.out.size)
        have m0 := hc 0 _ rfl
        rw [show off + (i * sz Int + 0) = off + i from by show off + (i * 1 + 0) = off + i; omega, ← BW.cell (p := ⟨g, _, none⟩) hg] at m0
        have hg2 : g < wr.heap.size := Nat.lt_of_lt_of_le hg BW.size
        subst ha
        have HX := Lib.hid (And.intro (And.intro hgk hin) (And.intro HR.out.1 (And.intro HR.out.2 (And.intro hop (show wrap64 ((i : Int) + 1) = (i : Int) + 1 from by unfold wrap64; omega)))))
        have hsz2 : s.size ≤ 3000 := by omega
        clear hgk hc hg hgl BW hi HR hop
        cases ea : ((i : Int) == sp) with
        | true =>
          obtain rfl : (i : Int) = sp := by simpa using ea
          --[[sp
          go_wp2_with fail
          go_loopg [37] (bad.size) (fun gk v37 wx => ∃ j : Nat, v37 = .int .i64 j ∧ j ≤ bad.size ∧ gk = bad.size - j ∧ Hid (10 ∉ bad.data.toList.take j) ∧ wx = wr)
          case atStart => exact ⟨0, rfl, Nat.zero_le _, rfl, Lib.hid (by simp), rfl⟩
          case round =>
            obtain ⟨j, rfl, hj, hgk, HT, rfl⟩ := hrel
            by_cases hjn : j < bad.size
            · have hjn' : (j : Int) < bad.size := by omega
              have hwj : wrap64 ((j : Int) + 1) = (j : Int) + 1 := by unfold wrap64; omega
              have hgk := Lib.hid hgk
              cases eb : (((bad[j].toNat : Nat) : Int) == 10) with
              | true =>
                go_wp2_with fail
                go_ret
                exact ⟨rfl, H1.out.trans (HX.out.2.2.1.2.mono H1.out.size)⟩
              | false =>
                go_wp2_with fail
                go_roundg (bad.size - (j + 1))
                case measure => have := hgk.out; omega
                case rel =>
                  refine ⟨j + 1, by simp, by omega, rfl, Lib.hid ?_, rfl⟩
                  have e : bad.data.toList[j]? = some bad[j] := by
                    rw [List.getElem?_eq_getElem (by simpa using hjn)]
                    simp [ByteArray.getElem_eq_getElem_data]
                  rw [List.take_add_one, e]
                  intro hm
                  rcases List.mem_append.1 hm with hm | hm
                  · exact HT.out hm
                  · simp only [Option.toList_some, List.mem_singleton] at hm
                    rw [← hm] at eb
                    simp at eb
            · obtain rfl : j = bad.size := by omega
              have HN := Lib.hid (show 10 ∉ bad.data.toList from by have h := HT.out; rw [List.take_of_length_le (by rw [← Lib.size_eq]; exact Nat.le_refl _)] at h; exact h)
              have hlen : bad.size ≤ 30 := hb30
              clear HT hgk
              --[[sp2
              go_wp2_with fail
              go_roundg (l.length - (i + 1))
              case measure => have := HX.out.1; omega
              case rel =>
                refine ⟨i + 1, _, by simp, rfl, by have := HX.out.1; omega, rfl, ?_, Lib.hid ⟨?_, (fun _ _ => HN.out), HX.out.2.2.1.2⟩⟩
                · simp only [ByteArray.size_append]
                  have e0 : (⟨#[32, 32, 98, 97, 100]⟩ : ByteArray).size = 5 := rfl
                  have e1 : (⟨#[32, 32]⟩ : ByteArray).size = 2 := rfl
                  have e2 : (⟨#[10]⟩ : ByteArray).size = 1 := rfl
                  have e3 : (⟨#[32, 32, 110, 111, 112, 10]⟩ : ByteArray).size = 6 := rfl
                  have e4 : (⟨#[32, 91, 49, 32, 34, 97, 34, 93, 10]⟩ : ByteArray).size = 9 := rfl
                  have e5 : (⟨#[32, 34, 103, 111, 34, 10]⟩ : ByteArray).size = 6 := rfl
                  have e6 : (⟨#[32, 51, 10]⟩ : ByteArray).size = 3 := rfl
                  omega
                · rw [wholeT_next, ← HX.out.2.1, dat_app]
                  congr 1
                  unfold lineAt; rw [if_pos rfl]; simp [badB, ByteArray.data_append]
              --]]sp2
          --]]sp
        | false =>
          obtain ⟨inf, ok, hof⟩ : ∃ inf ok, ofL op = (inf, ok) := ⟨_, _, rfl⟩
          have OF := Lib.hid (fun W => of_rule op inf ok hof W)
          obtain ⟨nm, io, ii, jo, bb, be, bf⟩ := inf
          have hnm := name_le hof
          have HO := Lib.hid (show opT op = bif nm.data.toList == [] || io == 4 then nopB else [32, 32] ++ nm.data.toList ++ argT io from by unfold opT; rw [hof])
          have HB := Lib.hid (fun (h0 : 0 ≤ sp) (h1 : sp < ((i + 1 : Nat) : Int)) => HX.out.2.2.1.1 h0 (by have h2 : ¬ (i : Int) = sp := (by simpa using ea); omega))
          have HLN := Lib.hid (show lineAt l sp bad.data.toList i = opT op from by unfold lineAt; rw [if_neg (by simpa using ea), HX.out.2.2.2.1]; rfl)
          dsimp only at OF
          clear hof
          --[[op
          go_wp2_with fail
          refine (OF.out _).mono ?_
          rintro e w5 ⟨rfl, hB5⟩
          have HB5 := Lib.hid (HX.out.2.2.1.2.trans (hB5.mono HX.out.2.2.1.2.size))
          clear hB5 OF m0
          cases e1 : (nm.data.toList == []) with
          | true =>
            have e2 : (nm.toList == []) = true := by rw [ByteArray.toList_eq]; exact e1
            have HO := Lib.hid (show opT op = nopB from by rw [HO.out, e1]; rfl)
            --[[oe
            go_wp2_with fail
            go_roundg (l.length - (i + 1))
            case measure => have := HX.out.1; omega
            case rel =>
              refine ⟨i + 1, _, by simp, rfl, by have := HX.out.1; omega, rfl, ?_, Lib.hid ⟨?_, HB.out, HB5.out.alloc HB5.out.size _⟩⟩
              · simp only [ByteArray.size_append]
                have e0 : (⟨#[32, 32, 98, 97, 100]⟩ : ByteArray).size = 5 := rfl
                have e1 : (⟨#[32, 32]⟩ : ByteArray).size = 2 := rfl
                have e2 : (⟨#[10]⟩ : ByteArray).size = 1 := rfl
                have e3 : (⟨#[32, 32, 110, 111, 112, 10]⟩ : ByteArray).size = 6 := rfl
                have e4 : (⟨#[32, 91, 49, 32, 34, 97, 34, 93, 10]⟩ : ByteArray).size = 9 := rfl
                have e5 : (⟨#[32, 34, 103, 111, 34, 10]⟩ : ByteArray).size = 6 := rfl
                have e6 : (⟨#[32, 51, 10]⟩ : ByteArray).size = 3 := rfl
                omega
              · rw [wholeT_next, ← HX.out.2.1, dat_app]
                congr 1
                rw [HLN.out, HO.out]; rfl
            --]]oe
          | false =>
            have e2 : (nm.toList == []) = false := by rw [ByteArray.toList_eq]; exact e1
            by_cases o4 : io = 4
            · subst o4
              have HO := Lib.hid (show opT op = nopB from by rw [HO.out, e1]; rfl)
              --[[o4
              go_wp2_with fail
              go_roundg (l.length - (i + 1))
              case measure => have := HX.out.1; omega
              case rel =>
                refine ⟨i + 1, _, by simp, rfl, by have := HX.out.1; omega, rfl, ?_, Lib.hid ⟨?_, HB.out, HB5.out.alloc HB5.out.size _⟩⟩
                · simp only [ByteArray.size_append]
                  have e0 : (⟨#[32, 32, 98, 97, 100]⟩ : ByteArray).size = 5 := rfl
                  have e1 : (⟨#[32, 32]⟩ : ByteArray).size = 2 := rfl
                  have e2 : (⟨#[10]⟩ : ByteArray).size = 1 := rfl
                  have e3 : (⟨#[32, 32, 110, 111, 112, 10]⟩ : ByteArray).size = 6 := rfl
                  have e4 : (⟨#[32, 91, 49, 32, 34, 97, 34, 93, 10]⟩ : ByteArray).size = 9 := rfl
                  have e5 : (⟨#[32, 34, 103, 111, 34, 10]⟩ : ByteArray).size = 6 := rfl
                  have e6 : (⟨#[32, 51, 10]⟩ : ByteArray).size = 3 := rfl
                  omega
                · rw [wholeT_next, ← HX.out.2.1, dat_app]
                  congr 1
                  rw [HLN.out, HO.out]; rfl
              --]]o4
            · have n4 : (io == 4) = false := beq_eq_false_iff_ne.2 o4
              have HO := Lib.hid (show opT op = [32, 32] ++ nm.data.toList ++ argT io from by rw [HO.out, e1, n4]; rfl)
              by_cases o1 : io = 1
              · subst o1
                --[[o1
                go_wp2_with fail
                go_roundg (l.length - (i + 1))
                case measure => have := HX.out.1; omega
                case rel =>
                  refine ⟨i + 1, _, by simp, rfl, by have := HX.out.1; omega, rfl, ?_, Lib.hid ⟨?_, HB.out, HB5.out.alloc HB5.out.size _⟩⟩
                  · simp only [ByteArray.size_append]
                    have e0 : (⟨#[32, 32, 98, 97, 100]⟩ : ByteArray).size = 5 := rfl
                    have e1 : (⟨#[32, 32]⟩ : ByteArray).size = 2 := rfl
                    have e2 : (⟨#[10]⟩ : ByteArray).size = 1 := rfl
                    have e3 : (⟨#[32, 32, 110, 111, 112, 10]⟩ : ByteArray).size = 6 := rfl
                    have e4 : (⟨#[32, 91, 49, 32, 34, 97, 34, 93, 10]⟩ : ByteArray).size = 9 := rfl
                    have e5 : (⟨#[32, 34, 103, 111, 34, 10]⟩ : ByteArray).size = 6 := rfl
                    have e6 : (⟨#[32, 51, 10]⟩ : ByteArray).size = 3 := rfl
                    omega
                  · rw [wholeT_next, ← HX.out.2.1, dat_app]
                    congr 1
                    rw [HLN.out, HO.out]; simp [argT, constB, ByteArray.data_append]
                --]]o1
              · by_cases o2 : io = 2
                · subst o2
                  --[[o2
                  go_wp2_with fail
                  go_roundg (l.length - (i + 1))
                  case measure => have := HX.out.1; omega
                  case rel =>
                    refine ⟨i + 1, _, by simp, rfl, by have := HX.out.1; omega, rfl, ?_, Lib.hid ⟨?_, HB.out, HB5.out.alloc HB5.out.size _⟩⟩
                    · simp only [ByteArray.size_append]
                      have e0 : (⟨#[32, 32, 98, 97, 100]⟩ : ByteArray).size = 5 := rfl
                      have e1 : (⟨#[32, 32]⟩ : ByteArray).size = 2 := rfl
                      have e2 : (⟨#[10]⟩ : ByteArray).size = 1 := rfl
                      have e3 : (⟨#[32, 32, 110, 111, 112, 10]⟩ : ByteArray).size = 6 := rfl
                      have e4 : (⟨#[32, 91, 49, 32, 34, 97, 34, 93, 10]⟩ : ByteArray).size = 9 := rfl
                      have e5 : (⟨#[32, 34, 103, 111, 34, 10]⟩ : ByteArray).size = 6 := rfl
                      have e6 : (⟨#[32, 51, 10]⟩ : ByteArray).size = 3 := rfl
                      omega
                    · rw [wholeT_next, ← HX.out.2.1, dat_app]
                      congr 1
                      rw [HLN.out, HO.out]; simp [argT, goB, ByteArray.data_append]
                  --]]o2
                · by_cases o0 : io = 0
                  · subst o0
                    --[[o0
                    go_wp2_with fail
                    go_roundg (l.length - (i + 1))
                    case measure => have := HX.out.1; omega
                    case rel =>
                      refine ⟨i + 1, _, by simp, rfl, by have := HX.out.1; omega, rfl, ?_, Lib.hid ⟨?_, HB.out, HB5.out.alloc HB5.out.size _⟩⟩
                      · simp only [ByteArray.size_append]
                        have e0 : (⟨#[32, 32, 98, 97, 100]⟩ : ByteArray).size = 5 := rfl
                        have e1 : (⟨#[32, 32]⟩ : ByteArray).size = 2 := rfl
                        have e2 : (⟨#[10]⟩ : ByteArray).size = 1 := rfl
                        have e3 : (⟨#[32, 32, 110, 111, 112, 10]⟩ : ByteArray).size = 6 := rfl
                        have e4 : (⟨#[32, 91, 49, 32, 34, 97, 34, 93, 10]⟩ : ByteArray).size = 9 := rfl
                        have e5 : (⟨#[32, 34, 103, 111, 34, 10]⟩ : ByteArray).size = 6 := rfl
                        have e6 : (⟨#[32, 51, 10]⟩ : ByteArray).size = 3 := rfl
                        omega
                      · rw [wholeT_next, ← HX.out.2.1, dat_app]
                        congr 1
                        rw [HLN.out, HO.out]; simp [argT, ByteArray.data_append]
                    --]]o0
                  · have n1 : (io == 1) = false := beq_eq_false_iff_ne.2 o1
                    have n2 : (io == 2) = false := beq_eq_false_iff_ne.2 o2
                    have n0 : (io == 0) = false := beq_eq_false_iff_ne.2 o0
                    have HO := Lib.hid (show opT op = [32, 32] ++ nm.data.toList ++ [32, 51] from by rw [HO.out]; unfold argT; rw [n1, n2, n0]; rfl)
                    --[[o3
                    go_wp2_with fail
                    go_roundg (l.length - (i + 1))
                    case measure => have := HX.out.1; omega
                    case rel =>
                      refine ⟨i + 1, _, by simp, rfl, by have := HX.out.1; omega, rfl, ?_, Lib.hid ⟨?_, HB.out, HB5.out.alloc HB5.out.size _⟩⟩
                      · simp only [ByteArray.size_append]
                        have e0 : (⟨#[32, 32, 98, 97, 100]⟩ : ByteArray).size = 5 := rfl
                        have e1 : (⟨#[32, 32]⟩ : ByteArray).size = 2 := rfl
                        have e2 : (⟨#[10]⟩ : ByteArray).size = 1 := rfl
                        have e3 : (⟨#[32, 32, 110, 111, 112, 10]⟩ : ByteArray).size = 6 := rfl
                        have e4 : (⟨#[32, 91, 49, 32, 34, 97, 34, 93, 10]⟩ : ByteArray).size = 9 := rfl
                        have e5 : (⟨#[32, 34, 103, 111, 34, 10]⟩ : ByteArray).size = 6 := rfl
                        have e6 : (⟨#[32, 51, 10]⟩ : ByteArray).size = 3 := rfl
                        omega
                      · rw [wholeT_next, ← HX.out.2.1, dat_app]
                        congr 1
                        rw [HLN.out, HO.out]; simp [ByteArray.data_append]
                    --]]o3
          --]]op
      · obtain rfl : i = l.length := by omega
        have WR := Lib.hid (wholeR_of hl40 hb30 HR.out.1 HR.out.2.1)
        have BR := Lib.hid (H1.out.trans (HR.out.2.2.mono H1.out.size))
        have PA := Lib.hid (asm_any s wr (HG.out.below BR.out))
        obtain ⟨⟨p1, l1, c1⟩, hr1⟩ : ∃ r, r = asmL s := ⟨_, rfl⟩
        rw [← hr1] at PA WR
        clear hr1 HR hgk hi hsz
        --[[end
        go_wp2_with fail
        refine PA.out.mono ?_
        rintro e w2 ⟨⟨ca, cn, cc, ka, kn, kc, na, nn, nc, pl⟩, rfl, hI1, hB2⟩
        dsimp only
        have n1 := hI1.lens
        have n2 := hI1.pl
        dsimp only at n1 n2
        obtain ⟨n11, n12, n13⟩ := n1
        have HB := Lib.hid (BR.out.trans (hB2.mono BR.out.size))
        clear hI1 hB2 PA BR
        rcases WR.out with ⟨h0, h1⟩ | ⟨h0, h1, h2, h3⟩ | ⟨h0, h1, q, h3, h4, h5, h6, h7⟩
        · cases h1
          have e1 : ((l.length : Int) == 0) = true := by rw [beq_iff_eq]; omega
          clear WR n11 n12 n13 n2
          --[[c1
          go_wp2_with fail
          go_ret
          exact ⟨by simp, (HB.out.alloc HB.out.size _).alloc (by have := HB.out.size; simp; omega) _⟩
          --]]c1
        · cases h3
          have e1 : ((l.length : Int) == 0) = false := by rw [beq_eq_false_iff_ne]; omega
          have hws : IntKind.i64.wrap (sp + 1) = sp + 1 := IntWalk.i64_in _ (by omega)
          obtain rfl : cn = 0 := n11
          clear WR n12 n13 n2 h0
          --[[c2
          go_wp2_with fail
          go_ret
          exact ⟨by simp, (HB.out.alloc HB.out.size _).alloc (by have := HB.out.size; simp; omega) _⟩
          --]]c2
        · cases h3
          have e1 : ((l.length : Int) == 0) = false := by rw [beq_eq_false_iff_ne]; omega
          obtain rfl : cn = l.length := by rw [n11, h4]
          have e2 : (kn : Int) ≤ 1 := by omega
          have e3 : (nn : Int) ≤ 1 := by omega
          have e4 : kn ≤ 1 := by omega
          have e5 : nn ≤ 1 := by omega
          have h7 : pl = 0 ∨ pl = 4 := by rw [n2]; exact h7
          have h1 := Lib.hid h1
          clear WR n12 n13 n2 h0 h5 h6 h4 n11
          --[[c3
          cases e6 : decide (0 ≤ sp) with
          | true =>
            have e7 : decide (sp < (l.length : Int)) = false := decide_eq_false (fun h => h1.out ⟨of_decide_eq_true e6, h⟩)
            rcases h7 with rfl | rfl
            · go_wp2_with fail
              go_ret
              exact ⟨by simp, (HB.out.alloc HB.out.size _).alloc (by have := HB.out.size; simp; omega) _⟩
            · go_wp2_with fail
              go_ret
              exact ⟨by simp, (HB.out.alloc HB.out.size _).alloc (by have := HB.out.size; simp; omega) _⟩
          | false =>
            rcases h7 with rfl | rfl
            · go_wp2_with fail
              go_ret
              exact ⟨by simp, (HB.out.alloc HB.out.size _).alloc (by have := HB.out.size; simp; omega) _⟩
            · go_wp2_with fail
              go_ret
              exact ⟨by simp, (HB.out.alloc HB.out.size _).alloc (by have := HB.out.size; simp; omega) _⟩
          --]]c3
        --]]end
    --]]main
--]]whole
end Go.Proofs.YtielnengimninaaGreatDoor
