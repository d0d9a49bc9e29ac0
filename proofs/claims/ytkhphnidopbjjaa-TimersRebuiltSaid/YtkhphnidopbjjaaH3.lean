/- The heap's methods, walked. -/
import Derived.Test.YtkhphnidopbjjaaH2
namespace Go.Proofs.Ytkhphnidopbjjaa
open Go.RowKit Go.Own Go.Own.MapTy Go.Hm

theorem alloc_at {w : World} {o : Obj} {b : Nat} (h : b = w.heap.size) : (w.alloc o).heap[b]? = some o := by subst h; exact heap_alloc_new w o

theorem HX.cap_le {w : World} {hb g off cap mb : Nat} {T : TypeId} {s : Hp} (H : HX w hb g off cap mb T s) : s.L.length ≤ cap := by
  rcases H.row with ⟨h, _⟩ | ⟨g', off', cap', cur, hv, _, h, _⟩
  · cases h
  · cases hv; exact h
theorem cut_HX {w1 : World} {hb g off cap mb n i : Nat} {T : TypeId} {s : Hp} (hh : w1.heap[hb]? = some (.cells #[.slice (some ⟨g, off, none⟩) (n + 1) cap, .map (some mb), .int .u64 s.seq] T (0, 0)))
    (hr : RowAt w1 35 (.slice (some ⟨g, off, none⟩) (n + 1) cap) s.L) (hm : MapAt KM w1 mb (del s.M (s.L.getD i default).key)) (hn : s.L.length = n + 1) (d0 : hb ≠ g) (d1 : hb ≠ mb) (X : Obj) :
    HX ((w1.setCell ⟨hb, 0, none⟩ (.slice (some ⟨g, off, none⟩) n n)).alloc X) hb g off n mb T (s.cutAt i) ∧ Keeps (fun j => j = hb) w1 ((w1.setCell ⟨hb, 0, none⟩ (.slice (some ⟨g, off, none⟩) n n)).alloc X) := by
  have K : Keeps (fun j => j = hb) w1 ((w1.setCell ⟨hb, 0, none⟩ (.slice (some ⟨g, off, none⟩) n n)).alloc X) := ((Keeps.refl (fun j => j = hb) w1).setCell (p := ⟨hb, 0, none⟩) (.inl rfl) _).alloc X
  have b0 := lt_of_heap hh
  have hl : (s.cutAt i).L.length = n := by simp [Hp.cutAt, hn]
  refine ⟨⟨?_, ?_, hm.keep K (Ne.symm d1), d0⟩, K⟩
  · rw [Below.heap_alloc _ _ _ (by simp [World.setCell]; exact b0), hl]
    simp [World.setCell, Array.getElem?_modify, hh, Hp.cutAt]
  · rw [hl]
    have : (s.cutAt i).L = s.L.take n := by simp [Hp.cutAt, hn]
    rw [this]
    exact (hr.cut (by omega)).keep K (fun g' h => by cases h; exact Ne.symm d0)
theorem take_go {s : Hp} {i n j : Nat} {z : It} (hn : s.L.length = n + 1) (hz : s.L[n]? = some z) (hi : i < n) (hj : get (Hp.up i ((s.cutAt i).set i z) i z).M z.key = some (j : Int)) :
    s.take i = Hp.down n (Hp.up i ((s.cutAt i).set i z) i z) j z := by
  have h1 : s.L.length - 1 = n := by omega
  unfold Hp.take
  rw [h1, getD_of hz, if_pos hi, hj]
  rfl
theorem take_end {s : Hp} {i n : Nat} (hn : s.L.length = n + 1) (hi : ¬ i < n) : s.take i = s.cutAt i := by
  unfold Hp.take
  rw [if_neg (by omega)]
theorem HX.frame {w w' : World} {hb g off cap mb : Nat} {T : TypeId} {s : Hp} (H : HX w hb g off cap mb T s) (h1 : blk w' hb = blk w hb) (h2 : blk w' g = blk w g) (h3 : blk w' mb = blk w mb) : HX w' hb g off cap mb T s :=
  ⟨(show w'.heap[hb]? = w.heap[hb]? from h1).trans H.h, H.row.frame (fun g' h => by cases h; exact h2), H.map.frame h3, H.hg⟩
def ItZ : It := ⟨0, 0, 0, 0, 0⟩
theorem ItAt.froz {w : World} {b : Nat} {x : It} (h : ItAt w b x) (o : Nat) : w.frozen? ⟨b, o, none⟩ = false := by
  obtain ⟨T, h⟩ := h
  exact frozen_of_heap h o
set_option maxHeartbeats 2000000 in
theorem take_any (x : It) (i hb g off cap mb : Nat) (T : TypeId) (s : Hp) (w : World) (H : HX w hb g off cap mb T s) (hx : s.L[i]? = some x) (hcap : s.L.length ≤ 16384) :
    Calls Try.prog 43 #[.pointer (some ⟨hb, 0, none⟩), .int .i64 i] w fun e w' =>
      e = .returned (.agg #[.int .i64 x.run, .int .i64 x.kind, .int .i64 x.id, .int .i64 x.due, .int .u64 x.seq]) ∧ HX w' hb g off (s.L.length - 1) mb T (s.take i) ∧ Keeps (fun j => j = hb ∨ j = g ∨ j = mb) w w' := by
  have hi : i < s.L.length := (List.getElem?_eq_some_iff.1 hx).1
  have hz : s.L[s.L.length - 1]? = some s.L[s.L.length - 1] := by simp
  generalize s.L[s.L.length - 1] = z at hz
  obtain ⟨c0, c1, c2, b0, b1, b2, hn⟩ := H.facts
  obtain ⟨e0, e1, e2, e3, e4⟩ := row_cells H.row hx
  obtain ⟨n, hnn⟩ : ∃ n, s.L.length = n + 1 := ⟨s.L.length - 1, by omega⟩
  have hz' : s.L[n]? = some z := by rw [← hz]; congr 1; omega
  obtain ⟨z0, z1, z2, z3, z4⟩ := row_cells H.row hz'
  obtain ⟨o, hdel, hmap⟩ := H.map.drop klaw Try.underlying25 x.key
  replace hdel : ∀ (ty : TypeId) (W : World), blk W mb = blk w mb → (Builtin.delete_ #[25, 32] ty #[.map (some mb), .agg #[.int .i64 x.run, .int .i64 x.kind, .int .i64 x.id]]).run Try.prog W = .ok (.tuple #[]) (setBlock W mb o) := hdel
  have d0 := H.hg
  have d1 := H.hm
  have d2 := H.gm
  have g0 := Ne.symm d0
  have g1 := Ne.symm d1
  have g2 := Ne.symm d2
  have f1 : w.frozen? ⟨hb, 0, none⟩ = false := frozen_of_heap H.h 0
  have n0 : ¬ w.heap.size = mb := by omega
  have n1 : ¬ w.heap.size + 1 = mb := by omega
  have n2 : ¬ w.heap.size + 1 + 1 = mb := by omega
  have HN := Lib.hid hnn
  have HXX := Lib.hid hx
  have HZ := Lib.hid hz'
  have HD := Lib.hid hdel
  have HM := Lib.hid hmap
  rw [hnn] at c0
  have hi1 : i < n + 1 := by omega
  have hn1 : n + 1 ≤ 16384 := by omega
  clear hnn hx hz hz' hdel hmap c2
  have hcp : n + 1 ≤ cap := by have := H.cap_le; have := HN.out; omega
  go_enter Try.func43, Try.ntmps43
  go_wp2
  go_region_held3 (fun W => W.cell? ⟨hb, 1, none⟩ = some (.map (some mb)) ∧ W.cell? ⟨w.heap.size + 1, 0, none⟩ = some (.int .i64 x.run) ∧ W.cell? ⟨w.heap.size + 1, 1, none⟩ = some (.int .i64 x.kind) ∧ W.cell? ⟨w.heap.size + 1, 2, none⟩ = some (.int .i64 x.id))
    (first | go_keep | exact ⟨(hk1.cell (by simp; omega) d1).trans (by go_simp), (hk1.cell (by simp) n1).trans (by go_simp), (hk1.cell (by simp) n1).trans (by go_simp), (hk1.cell (by simp) n1).trans (by go_simp)⟩)
    ((refine step_delete_w (by rfl) (.tmp 18) (.tmp 20) 25 32 (by rfl) mb (.agg #[.int .i64 x.run, .int .i64 x.kind, .int .i64 x.id]) (by rfl) (by rfl) o (by simp; omega) (fun ty => HD.out ty _ (by go_simp)) ?_; intro w1 ho1 hk1 hs1))
  have k1 : Keeps (fun j => j = mb) w w1 := (((Keeps.refl _ w).alloc _).alloc _).drew.comp hk1
  have hX : ItAt w1 (w.heap.size + 1) x := ⟨_, (hk1.block _ (by simp) n1).trans (alloc_at (w := w.alloc _) (by simp))⟩
  have hA : ItAt w1 w.heap.size ItZ := ⟨_, (hk1.block _ (by simp; omega) n0).trans ((Below.heap_alloc _ _ _ (by simp)).trans (heap_alloc_new w _))⟩
  have hs2 : w1.heap.size = w.heap.size + 1 + 1 := by rw [hs1]; simp
  replace c0 := (k1.cell (p := ⟨hb, 0, none⟩) b0 d1).trans c0
  replace c1 := (k1.cell (p := ⟨hb, 1, none⟩) b0 d1).trans c1
  replace z0 := (k1.cell (p := ⟨g, off + n * 5, none⟩) b1 d2).trans z0
  replace z1 := (k1.cell (p := ⟨g, off + n * 5 + 1, none⟩) b1 d2).trans z1
  replace z2 := (k1.cell (p := ⟨g, off + n * 5 + 2, none⟩) b1 d2).trans z2
  replace z3 := (k1.cell (p := ⟨g, off + n * 5 + 3, none⟩) b1 d2).trans z3
  replace z4 := (k1.cell (p := ⟨g, off + n * 5 + 4, none⟩) b1 d2).trans z4
  replace f1 := (k1.frozen (p := ⟨hb, 0, none⟩) b0 d1).trans f1
  have hmap1 := HM.out w1 ho1
  clear e0 e1 e2 e3 e4 hk1 hs1 ho1
  have b0' : hb < w1.heap.size := by omega
  have b1' : g < w1.heap.size := by omega
  have b2' : mb < w1.heap.size := by omega
  have m0 : ¬ w1.heap.size = mb := by omega
  have HS2 := Lib.hid hs2
  clear hs2
  have hh1 : w1.heap[hb]? = some (.cells #[.slice (some ⟨g, off, none⟩) (n + 1) cap, .map (some mb), .int .u64 s.seq] T (0, 0)) := by rw [k1.block hb b0 d1, H.h, HN.out]
  have hr1 : RowAt w1 35 (.slice (some ⟨g, off, none⟩) (n + 1) cap) s.L := by have := H.row.keep k1 (fun g' h => by cases h; exact d2); rw [HN.out] at this; exact this
  have hm1 : MapAt KM w1 mb (del s.M (s.L.getD i default).key) := by rw [getD_of HXX.out]; exact hmap1
  have CUT := fun X => Lib.hid (cut_HX hh1 hr1 hm1 HN.out d0 d1 X)
  have H1 := Lib.hid hh1
  clear hh1 hr1 hm1 hmap1
  by_cases hin : i < n
  · obtain ⟨x0, x1, x2, x3, x4, xb⟩ := hX.facts
    go_wp2_with fail
    refine (set_any z i hb g off n mb T (s.cutAt i) _ (CUT _).out.1 ?hl).mono ?_
    case hl => simp [Hp.cutAt, HN.out]; exact hin
    rintro e w3 ⟨rfl, H3, K3⟩
    have hZ2 : ItAt w3 w1.heap.size z := ItAt.keep (w := (w1.setCell ⟨hb, 0, none⟩ (.slice (some ⟨g, off, none⟩) n n)).alloc _) ⟨_, alloc_at (by simp [World.setCell])⟩ K3 (by rintro (h | h) <;> omega)
    have K13 : Keeps (fun j => j = hb ∨ j = g ∨ j = mb) w1 w3 := ((CUT _).out.2.mono (fun _ _ h => .inl h)).trans K3 (fun _ _ h => .inr h)
    have hi2 : i < (s.cutAt i).L.length := by simp [Hp.cutAt, HN.out]; exact hin
    go_wp2_with fail
    refine (up_any z i hb g off n mb T _ _ H3 (by simp only [Hp.set]; rw [List.getElem?_set_self hi2])).mono ?_
    rintro e w4 ⟨rfl, H4, K4⟩
    have hZ4 := hZ2.keep K4 (by rintro (h | h) <;> omega)
    have K14 := K13.trans K4 (fun _ _ h => .inr h)
    obtain ⟨j, hj1, hj2⟩ := up_at i ((s.cutAt i).set i z) i z (by rw [set_len]; exact hi2)
    have hlook := H4.map.look klaw Try.underlying25 (z := .int .i64 0) (fun W => by kernel_rfl) z.key false
    rw [hj1] at hlook
    replace hlook : ∀ W : World, blk W mb = blk w4 mb → (Instr.lookup 25 (.map (some mb)) (.agg #[.int .i64 z.run, .int .i64 z.kind, .int .i64 z.id]) false).run Try.prog W = .ok (.int .i64 j) W := hlook
    have hl1 := hlook w4.drew rfl
    have hl4 : (Hp.up i ((s.cutAt i).set i z) i z).L.length = n := by rw [up_len, set_len]; simp [Hp.cutAt, HN.out]
    have HJ := Lib.hid (And.intro hj1 hj2)
    have HL4 := Lib.hid hl4
    clear hj1 hj2 hl4 hZ2 K13 K3 K4 H3 x0 x1 x2 x3 x4 c0 c1 f1 z0 z1 z2 z3 z4
    obtain ⟨c0, c1, c2, p0, p1, p2, hn'⟩ := H4.facts
    obtain ⟨z0, z1, z2, z3, z4, zb⟩ := hZ4.facts
    clear c0 c2
    go_wp2_with fail
    go_region_law ((go_simp; go_at_call 56; refine (down_any z j hb g off n mb T _ _ (H4.keep ((Keeps.refl (fun _ => False) w4).drew) id id id) HJ.out.2 (by rw [HL4.out]; omega)).mono ?_; rintro e w5 ⟨rfl, H5, K5⟩))
    all_goals
      have K15 : Keeps (fun j => j = hb ∨ j = g ∨ j = mb) w1 w5 := K14.drew.trans K5 (fun _ _ h => .inr h)
      have hX5 := hX.keep K15 (by rintro (h | h | h) <;> omega)
      have hA5 := hA.keep K15 (by rintro (h | h | h) <;> omega)
      obtain ⟨x0, x1, x2, x3, x4, xb⟩ := hX5.facts
      obtain ⟨a0, a1, a2, a3, a4, ab⟩ := hA5.facts
      have af := hA5.froz
      have KF : Keeps (fun j => j = hb ∨ j = g ∨ j = mb) w w5 := (k1.mono (fun _ _ h => .inr (.inr h))).comp K15
      have ZT := Lib.hid (take_go HN.out HZ.out hin HJ.out.1)
      clear c1 p0 p1 p2 z0 z1 z2 z3 z4 zb hlook hl1
      go_wp2
      refine bodyPost_ret (v := .agg #[.int .i64 x.run, .int .i64 x.kind, .int .i64 x.id, .int .i64 x.due, .int .u64 x.seq]) (by simp only [results, Try.results43]; go_simp) rfl ⟨rfl, ?_, ?_⟩
      · rw [ZT.out, ← HL4.out]
        have hl : s.L.length - 1 = (Hp.up i ((s.cutAt i).set i z) i z).L.length := by rw [HN.out, HL4.out]; rfl
        rw [hl, HL4.out]
        rw [HL4.out] at H5
        exact H5.keep (((((((Keeps.refl (fun j => j = w.heap.size) w5).setCell (p := ⟨w.heap.size, 0, none⟩) (.inl rfl) _).setCell (p := ⟨w.heap.size, 1, none⟩) (.inl rfl) _).setCell (p := ⟨w.heap.size, 2, none⟩) (.inl rfl) _).setCell (p := ⟨w.heap.size, 3, none⟩) (.inl rfl) _).setCell (p := ⟨w.heap.size, 4, none⟩) (.inl rfl) _)) (by omega) (by omega) (by omega)
      · exact ((((KF.setCell (p := ⟨w.heap.size, 0, none⟩) (.inr (Nat.le_refl _)) _).setCell (p := ⟨w.heap.size, 1, none⟩) (.inr (Nat.le_refl _)) _).setCell (p := ⟨w.heap.size, 2, none⟩) (.inr (Nat.le_refl _)) _).setCell (p := ⟨w.heap.size, 3, none⟩) (.inr (Nat.le_refl _)) _).setCell (p := ⟨w.heap.size, 4, none⟩) (.inr (Nat.le_refl _)) _
  · obtain ⟨x0, x1, x2, x3, x4, xb⟩ := hX.facts
    obtain ⟨a0, a1, a2, a3, a4, ab⟩ := hA.facts
    have af := hA.froz
    have m1 : ¬ w.heap.size = hb := by omega
    have m2 : ¬ w.heap.size + 1 = hb := by omega
    have ZT := Lib.hid (take_end HN.out hin)
    go_wp2
    refine bodyPost_ret (v := .agg #[.int .i64 x.run, .int .i64 x.kind, .int .i64 x.id, .int .i64 x.due, .int .u64 x.seq]) (by simp only [results, Try.results43]; go_simp) rfl ⟨rfl, ?_, ?_⟩
    · rw [ZT.out, HN.out]
      have q1 : ¬ hb = w.heap.size := by omega
      have q2 : ¬ g = w.heap.size := by omega
      have q3 : ¬ mb = w.heap.size := by omega
      exact HX.frame (CUT (.cells #[] 0)).out.1 (by go_simp) (by go_simp) (by go_simp)
    · exact (((((((k1.mono (fun _ _ h => .inr (.inr h))).setCell (p := ⟨hb, 0, none⟩) (.inl (.inl rfl)) _).setCell (p := ⟨w.heap.size, 0, none⟩) (.inr (Nat.le_refl _)) _).setCell (p := ⟨w.heap.size, 1, none⟩) (.inr (Nat.le_refl _)) _).setCell (p := ⟨w.heap.size, 2, none⟩) (.inr (Nat.le_refl _)) _).setCell (p := ⟨w.heap.size, 3, none⟩) (.inr (Nat.le_refl _)) _).setCell (p := ⟨w.heap.size, 4, none⟩) (.inr (Nat.le_refl _)) _).alloc _
end Go.Proofs.Ytkhphnidopbjjaa
