/- verify.Check, walked. -/
import Derived.Test.YtielnengimninaaGreatDoorV24
namespace Go.Own
open Go.RowKit
theorem run_make_ints {P : Program} {t e : TypeId} {i : TypeInfo} (ht : P.underlying t = some (.slice e)) (hi : P.info? e = some i) (hz : i.zero = some (.int .i64 0)) (hs : i.size = 1) (hb : i.bytes = 8) (n : Nat) (hn : n ≤ 17592186044416) :
    ∃ cs : Array Value, (∀ W : World, (Instr.makeSlice t (.int .i64 n) (.int .i64 n)).run P W = .ok (.slice (some ⟨W.heap.size, 0, none⟩) n n) (W.alloc (.cells cs e))) ∧ cs.toList = (List.replicate n (0 : Int)).flatMap Cells.enc := by
  refine ⟨madeCells (Value.int .i64 0).cells (n * i.size), fun W => ?_, ?_⟩
  · have := run_make (P := P) W t e i (.int .i64 0) ht hi hz .i64 .i64 n n (by omega) (by omega) (by rw [hb]; omega) (by omega)
    simpa using this
  · rw [flat_int, hs]
    simp only [Nat.mul_one, Value.cells, List.map_replicate]
    exact toList_madeCells_one _ _
end Go.Own
namespace Go.Proofs.YtielnengimninaaGreatDoor
open Go.RowKit Go.Own Go.Own.MapTy Go.Va Go.Sort
open Go.Own.Cells (sz enc)
theorem infoInt : (Tryz.prog.info? 3).map (fun i => (i.zero, i.size, i.bytes)) = some (some (.int .i64 0), 1, 8) := by kernel_rfl
def ChPost (W : World) (r : Fa × Int × Int) (e : Ending) (w' : World) : Prop :=
  ∃ v : Value, e = .returned (.tuple #[.agg #[v, .int .i64 r.1.most, .int .i64 r.1.span], .agg #[.int .i64 r.2.1, .int .i64 r.2.2]]) ∧ Hid (RowAt w' 3 v r.1.heights ∧ (∀ g, v.ownBlock = some g → W.heap.size ≤ g) ∧ Below W.heap.size W w')
theorem five_keeps (w' : World) (b1 b2 o1 o2 o3 o5 o6 : Nat) (v1 v2 v3 v5 v6 : Value) :
    Keeps (fun j => j = b1 ∨ j = b2) w' (((((w'.setCell ⟨b1, o1, none⟩ v1).setCell ⟨b1, o2, none⟩ v2).setCell ⟨b1, o3, none⟩ v3).setCell ⟨b2, o5, none⟩ v5).setCell ⟨b2, o6, none⟩ v6) := by
  have k0 : Keeps (fun j => j = b1 ∨ j = b2) w' w' := Keeps.refl _ _
  have k1 := Keeps.setCell (p := ⟨b1, o1, none⟩) k0 (.inl (.inl rfl)) v1
  have k2 := Keeps.setCell (p := ⟨b1, o2, none⟩) k1 (.inl (.inl rfl)) v2
  have k3 := Keeps.setCell (p := ⟨b1, o3, none⟩) k2 (.inl (.inl rfl)) v3
  have k5 := Keeps.setCell (p := ⟨b2, o5, none⟩) k3 (.inl (.inr rfl)) v5
  exact Keeps.setCell (p := ⟨b2, o6, none⟩) k5 (.inl (.inr rfl)) v6
/-- the two result cells, as they stand in a later world -/
structure Res (W w1 : World) : Prop where
  c0 : w1.cell? ⟨W.heap.size + 1, 0, none⟩ = some (.slice none 0 0)
  c1 : w1.cell? ⟨W.heap.size + 1, 1, none⟩ = some (.int .i64 0)
  c2 : w1.cell? ⟨W.heap.size + 1, 2, none⟩ = some (.int .i64 0)
  c3 : w1.cell? ⟨W.heap.size + 1 + 1, 0, none⟩ = some (.int .i64 0)
  c4 : w1.cell? ⟨W.heap.size + 1 + 1, 1, none⟩ = some (.int .i64 0)
  f0 : ∀ o, w1.frozen? ⟨W.heap.size + 1, o, none⟩ = false
  f1 : ∀ o, w1.frozen? ⟨W.heap.size + 1 + 1, o, none⟩ = false
  l : W.heap.size + 1 + 1 < w1.heap.size
theorem Res.keep {S : Nat → Prop} {W w1 w2 : World} (R : Res W w1) (K : Keeps S w1 w2) (h1 : ¬ S (W.heap.size + 1)) (h2 : ¬ S (W.heap.size + 1 + 1)) : Res W w2 := by
  have l := R.l
  have l1 : W.heap.size + 1 < w1.heap.size := by omega
  exact ⟨(K.cell (p := ⟨W.heap.size + 1, 0, none⟩) l1 h1).trans R.c0, (K.cell (p := ⟨W.heap.size + 1, 1, none⟩) l1 h1).trans R.c1, (K.cell (p := ⟨W.heap.size + 1, 2, none⟩) l1 h1).trans R.c2, (K.cell (p := ⟨W.heap.size + 1 + 1, 0, none⟩) l h2).trans R.c3, (K.cell (p := ⟨W.heap.size + 1 + 1, 1, none⟩) l h2).trans R.c4, fun o => (K.frozen (p := ⟨W.heap.size + 1, o, none⟩) l1 h1).trans (R.f0 o), fun o => (K.frozen (p := ⟨W.heap.size + 1 + 1, o, none⟩) l h2).trans (R.f1 o), Nat.lt_of_lt_of_le l K.size⟩
/-- between two rounds of the spans -/
def SLRel (W9 : World) (fb kb2 n : Nat) (code : List In) (hv : Value) (mo : Int) (hs : List Int) (gk : Nat) (v72 : Value) (wz : World) : Prop :=
  ∃ (i m : Nat) (known : List Int), v72 = .int .i64 i ∧ i ≤ hs.length ∧ gk = hs.length - i ∧ m ≤ 600 ∧ spanM code i (hs.drop i) m = spanM code 0 hs 0 ∧ wz.heap[fb]? = some (.cells #[hv, .int .i64 mo, .int .i64 m] 31 (0, 0)) ∧ RowAt wz 3 (.slice (some ⟨kb2, 0, none⟩) n n) known ∧ known.length = n ∧ KN code known ∧ Keeps (fun j => j = fb ∨ j = kb2) W9 wz
theorem KN.zero (code : List In) (n : Nat) : KN code (List.replicate n 0) := fun i v h => by
  rw [List.getElem?_replicate] at h
  split at h
  · cases h
    exact ⟨Int.le_refl _, fun h => absurd h (by decide)⟩
  · cases h
theorem set_fact {w : World} {fb : Nat} {hv : Value} {mo m : Int} {T : TypeId} (h : w.heap[fb]? = some (.cells #[hv, .int .i64 mo, .int .i64 m] T (0, 0))) (k : Int) : (w.setCell ⟨fb, 2, none⟩ (.int .i64 k)).heap[fb]? = some (.cells #[hv, .int .i64 mo, .int .i64 k] T (0, 0)) := by
  simp [World.setCell, Array.getElem?_modify, h]
--[[c1
set_option maxRecDepth 100000 in
set_option maxHeartbeats 8000000 in
theorem vcheck_any (F : Nat → Prop) (i : IC) (p : Img) (W : World) (H : IAt F W i p) (hw : ∀ x ∈ p.consts, x.wf) (r : Fa × Int × Int) (hr : checkG p = r) :
    Calls Tryz.prog 15 #[.agg #[.slice i.ca i.cn i.cc, .slice i.ka i.kn i.kc, .slice i.na i.nn i.nc, .int .i64 i.pl]] W (ChPost W r) := by
  have HI := Lib.hid (H.mono (G := fun j => j < W.heap.size) (fun g _ hl => hl))
  have hlen := H.lens.1
  unfold checkG at hr
  have hok := @codeOk_of p
  have IC2 := Lib.hid (fun W' (K : Below W.heap.size W W') => imgcheck_any F W' i p (H.keep (S := fun _ => False) (Keeps.of_below K) (fun _ _ f => f)) _ hw rfl)
  generalize imgL p = ie at *
  obtain ⟨ca, cn, cc, ka, kn, kc, na, nn, nc, pl⟩ := i
  dsimp only at hlen IC2 HI
  dsimp only
  clear H
  have HR := Lib.hid (And.intro hr (And.intro hok hlen))
  clear hr hok hlen
  go_enter Tryz.func15, Tryz.ntmps15
  go_wp2_with fail
  obtain ⟨W3, hW3⟩ : ∃ W3, W3 = ((W.alloc (.cells #[.slice ca cn cc, .slice ka kn kc, .slice na nn nc, .int .i64 pl] 26)).alloc (.cells #[.slice none 0 0, .int .i64 0, .int .i64 0] 31)).alloc (.cells #[.int .i64 0, .int .i64 0] 34) := ⟨_, rfl⟩
  have B3 : Below W.heap.size W W3 := by rw [hW3]; exact (((Below.refl _ _).alloc (Nat.le_refl _) _).alloc (by simp) _).alloc (by simp; omega) _
  have b0 : W3.heap[W.heap.size]? = some (.cells #[.slice ca cn cc, .slice ka kn kc, .slice na nn nc, .int .i64 pl] 26 (0, 0)) := by
    rw [hW3]
    exact (Below.heap_alloc _ _ _ (by simp; omega)).trans ((Below.heap_alloc _ _ _ (by simp)).trans (heap_alloc_new W _))
  have b1 : W3.heap[W.heap.size + 1]? = some (.cells #[.slice none 0 0, .int .i64 0, .int .i64 0] 31 (0, 0)) := by
    rw [hW3]
    exact (Below.heap_alloc _ _ _ (by simp)).trans heap_new2
  have b2 : W3.heap[W.heap.size + 1 + 1]? = some (.cells #[.int .i64 0, .int .i64 0] 34 (0, 0)) := by
    rw [hW3]
    have := heap_alloc_new ((W.alloc (.cells #[.slice ca cn cc, .slice ka kn kc, .slice na nn nc, .int .i64 pl] 26)).alloc (.cells #[.slice none 0 0, .int .i64 0, .int .i64 0] 31)) (.cells #[.int .i64 0, .int .i64 0] 34)
    simpa using this
  have hsz3 : W3.heap.size = W.heap.size + 3 := by rw [hW3]; simp
  have R3 : Res W W3 := ⟨by rw [cell_of_heap b1]; rfl, by rw [cell_of_heap b1]; rfl, by rw [cell_of_heap b1]; rfl, by rw [cell_of_heap b2]; rfl, by rw [cell_of_heap b2]; rfl, fun o => frozen_of_heap b1 o, fun o => frozen_of_heap b2 o, by omega⟩
  rw [← hW3]
  have H3 := Lib.hid (And.intro B3 (And.intro R3 (And.intro b0 hsz3)))
  clear hW3 B3 R3 b0 b1 b2 hsz3
  refine (IC2.out _ H3.out.1).mono ?_
  rintro e w4 ⟨rfl, hB4⟩
  have RS4 := H3.out.2.1.keep (Keeps.of_below hB4 (S := fun _ => False)) (fun f => f) (fun f => f)
  have B4 := H3.out.1.trans (hB4.mono H3.out.1.size)
  have b0 := (hB4.block W.heap.size (by have := H3.out.2.2.2; omega)).trans H3.out.2.2.1
  have H4 := Lib.hid (And.intro hB4 (And.intro RS4 (And.intro B4 b0)))
  have q0 : w4.cell? ⟨W.heap.size, 0, none⟩ = some (.slice ca cn cc) := by rw [cell_of_heap b0]; rfl
  have l0 : W.heap.size < w4.heap.size := lt_of_heap b0
  clear hB4 RS4 B4 b0 IC2
  cases hz : (ie != 0) with
  | true =>
    --[[c2
    have hr := HR.out.1
    rw [hz] at hr
    simp only [cond_true] at hr
    subst hr
    obtain ⟨c0, c1, c2, c3, c4, f0, f1, l2⟩ := H4.out.2.1
    have l1 : W.heap.size + 1 < w4.heap.size := by omega
    have BB := Lib.hid (H4.out.2.2.1.trans ((five_keeps w4 (W.heap.size + 1) (W.heap.size + 1 + 1) 0 1 2 0 1 (.slice none 0 0) (.int .i64 0) (.int .i64 0) (.int .i64 (-1)) (.int .i64 ie)).below (by omega) (fun j hj e => by omega)))
    go_wp2_with fail
    exact bodyPost_ret (v := .tuple #[.agg #[.slice none 0 0, .int .i64 0, .int .i64 0], .agg #[.int .i64 (-1), .int .i64 ie]]) (by simp only [results, Tryz.results15]; go_simp) rfl ⟨.slice none 0 0, rfl, Lib.hid ⟨RowAt.nil _ _, (fun g h => by cases h), BB.out ⟩⟩
    --]]c2
  | false =>
    have hr := HR.out.1
    rw [hz] at hr
    simp only [cond_false] at hr
    have OK := HR.out.2.1 (by simpa using hz)
    have HOK := Lib.hid OK
    have HR2 := Lib.hid hr
    clear hr OK
    --[[c3
    go_wp2_with fail
    obtain ⟨W5, hW5⟩ : ∃ W5, W5 = w4.alloc (.cells #[.slice ca cn cc, .slice none 0 0, .slice none 0 0, .int .i64 0] 80) := ⟨_, rfl⟩
    have hkb : W5.heap[w4.heap.size]? = some (.cells #[.slice ca cn cc, .slice none 0 0, .slice none 0 0, .int .i64 0] 80 (0, 0)) := by rw [hW5]; exact heap_alloc_new _ _
    have B5 : Below w4.heap.size w4 W5 := by rw [hW5]; exact (Below.refl _ _).alloc (Nat.le_refl _) _
    have KX5 : KX W5 w4.heap.size (.slice ca cn cc) ⟨.slice none 0 0, .slice none 0 0⟩ ⟨[], [], 0⟩ := ⟨hkb, RowAt.nil _ _, RowAt.nil _ _, (fun j h => by cases h), (fun j h => by cases h), fun j h => by
      rcases h with h | h | h
      · omega
      · cases h
      · cases h⟩
    rw [← hW5]
    have HC5 := (HI.out.keep (S := fun _ => False) (Keeps.of_below (H4.out.2.2.1.trans (B5.mono (Nat.le_of_lt l0)))) (fun _ _ f => f)).code
    obtain ⟨q, hq⟩ : ∃ q, walkL p.code = q := ⟨_, rfl⟩
    have WK := Lib.hid (kwalk_any w4.heap.size _ (fun j hj => Nat.lt_trans hj l0) ca cn cc p.code W5 KX5 HC5 HOK.out q hq)
    have H5 := Lib.hid (And.intro B5 (And.intro HC5 (H4.out.2.1.keep (Keeps.of_below B5 (S := fun _ => False)) (fun f => f) (fun f => f))))
    have HW := Lib.hid (show q.1.2 = 0 → q.1.1 = -1 ∧ Walked p.code q.2 from fun h => by rw [← hq] at h ⊢; exact walkL_law HOK.out h)
    have hr := HR2.out
    rw [hq] at hr
    have HR3 := Lib.hid hr
    clear hW5 hkb B5 KX5 HC5 hq hr HR2 q0
    refine WK.out.mono ?_
    rintro e w6 ⟨v6, rfl, H6⟩
    have RS6 := H5.out.2.2.keep H6.out.2.1 (fun e => by have := H4.out.2.1.l; rcases e with e | e | e; omega; cases e; cases e) (fun e => by have := H4.out.2.1.l; rcases e with e | e | e; omega; cases e; cases e)
    have HRS := Lib.hid RS6
    have B6 := H4.out.2.2.1.trans ((H5.out.1.mono (Nat.le_of_lt l0)).trans (H6.out.2.1.below (B := W.heap.size) (by have := H5.out.1.size; omega) (fun j hj e => by rcases e with e | e | e; omega; cases e; cases e)))
    have HB6 := Lib.hid B6
    clear WK RS6 B6
    cases hz2 : (q.1.2 != 0) with
    | true =>
      --[[c4
      have hr := HR3.out
      rw [hz2] at hr
      simp only [cond_true] at hr
      subst hr
      go_wp2_with fail
      obtain ⟨w7, hw7⟩ : ∃ w7, w7 = w6.alloc (.cells #[.int .i64 q.1.1, .int .i64 q.1.2] 34) := ⟨_, rfl⟩
      have b7 : w7.heap[w6.heap.size]? = some (.cells #[.int .i64 q.1.1, .int .i64 q.1.2] 34 (0, 0)) := by rw [hw7]; exact heap_alloc_new _ _
      have B7 : Below w6.heap.size w6 w7 := by rw [hw7]; exact (Below.refl _ _).alloc (Nat.le_refl _) _
      rw [← hw7]
      obtain ⟨c0, c1, c2, c3, c4, f0, f1, l2⟩ := HRS.out.keep (Keeps.of_below B7 (S := fun _ => False)) (fun f => f) (fun f => f)
      have l1 : W.heap.size + 1 < w7.heap.size := by omega
      have x0 : w7.cell? ⟨w6.heap.size, 0, none⟩ = some (.int .i64 q.1.1) := by rw [cell_of_heap b7]; rfl
      have x1 : w7.cell? ⟨w6.heap.size, 1, none⟩ = some (.int .i64 q.1.2) := by rw [cell_of_heap b7]; rfl
      have l7 : w6.heap.size < w7.heap.size := lt_of_heap b7
      have d1 : ¬ w6.heap.size = W.heap.size + 1 := by have := HRS.out.l; omega
      have d2 : ¬ w6.heap.size = W.heap.size + 1 + 1 := by have := HRS.out.l; omega
      have BB := Lib.hid ((HB6.out.trans (B7.mono HB6.out.size)).trans ((five_keeps w7 (W.heap.size + 1) (W.heap.size + 1 + 1) 0 1 2 0 1 (.slice none 0 0) (.int .i64 0) (.int .i64 0) (.int .i64 q.1.1) (.int .i64 q.1.2)).below (by omega) (fun j hj e => by omega)))
      clear hw7 b7 B7
      go_region
      go_wp2_with fail
      exact bodyPost_ret (v := .tuple #[.agg #[.slice none 0 0, .int .i64 0, .int .i64 0], .agg #[.int .i64 q.1.1, .int .i64 q.1.2]]) (by simp only [results, Tryz.results15]; go_simp) rfl ⟨.slice none 0 0, rfl, Lib.hid ⟨RowAt.nil _ _, (fun g h => by cases h), BB.out.drew⟩⟩
      --]]c4
    | false =>
      --[[c5
      have hz20 : q.1.2 = 0 := by simpa using hz2
      obtain ⟨hq1, hwd⟩ := HW.out hz20
      have hr := HR3.out
      rw [hz2] at hr
      simp only [cond_false] at hr
      obtain ⟨⟨qa, qb⟩, st⟩ := q
      dsimp only at hz20 hq1
      subst hz20
      subst hq1
      dsimp only at hwd H6 hr
      have WD := Lib.hid hwd
      have HR4 := Lib.hid hr
      have hcl := Lib.hid (hwd.closed HOK.out)
      clear hr hwd HR3 HW hz2
      obtain ⟨vh, vt⟩ := v6
      obtain ⟨ha, hc, rfl⟩ : ∃ a cap, vh = .slice a st.heights.length cap := H6.out.1.heights.slice
      obtain ⟨hs, hhs⟩ : ∃ hs, hs = st.heights := ⟨_, rfl⟩
      rw [← hhs] at H6 HR4
      have qq : ∀ o, w6.cell? ⟨w4.heap.size, o, none⟩ = (#[.slice ca cn cc, .slice ha hs.length hc, vt, .int .i64 st.most] : Array Value)[o]? := fun o => by rw [cell_of_heap H6.out.1.h]
      have k0 := qq 0
      have k1 := qq 1
      have k3 := qq 3
      simp only [List.getElem?_toArray, List.getElem?_cons_zero, List.getElem?_cons_succ] at k0 k1 k3
      have lk : w4.heap.size < w6.heap.size := lt_of_heap H6.out.1.h
      have hsn : hs.length = p.code.length := by rw [hhs]; exact WD.out.inv.len
      have hn5 : p.code.length ≤ 512 := HOK.out.len
      have HN := Lib.hid (And.intro hsn (And.intro hn5 hhs))
      have RH := H6.out.1.heights
      rw [← hhs] at RH
      have HRH := Lib.hid RH
      clear qq hsn hn5 RH hhs
      go_wp2_with fail
      obtain ⟨w7, hw7⟩ : ∃ w7, w7 = w6.alloc (.cells #[.int .i64 (-1), .int .i64 0] 34) := ⟨_, rfl⟩
      have B7 : Below w6.heap.size w6 w7 := by rw [hw7]; exact (Below.refl _ _).alloc (Nat.le_refl _) _
      rw [← hw7]
      have k0 := (B7.cell (p := ⟨w4.heap.size, 0, none⟩) lk).trans k0
      have k1 := (B7.cell (p := ⟨w4.heap.size, 1, none⟩) lk).trans k1
      have k3 := (B7.cell (p := ⟨w4.heap.size, 3, none⟩) lk).trans k3
      have l7 := B7.size
      have H7 := Lib.hid (And.intro B7 (And.intro (HB6.out.trans (B7.mono HB6.out.size)) (And.intro (HRS.out.keep (Keeps.of_below B7 (S := fun _ => False)) (fun f => f) (fun f => f)) (HRH.out.below B7))))
      have lk7 : w4.heap.size < w7.heap.size := Nat.lt_of_lt_of_le lk l7
      clear hw7 B7 lk l7
      go_loopg [36] (hs.length) (fun gk v36 wr => ∃ i : Nat, v36 = .int .i64 i ∧ i ≤ hs.length ∧ gk = hs.length - i ∧ firstR p.code i (hs.drop i) = firstR p.code 0 hs ∧ Below w7.heap.size w7 wr)
      case atStart => exact ⟨0, rfl, Nat.zero_le _, rfl, rfl, Below.refl _ _⟩
      case round =>
        obtain ⟨i, rfl, hi, hgk, hfr, hB⟩ := hrel
        have BW := H7.out.2.1.trans (hB.mono H7.out.2.1.size)
        have k0r := (hB.cell (p := ⟨w4.heap.size, 0, none⟩) lk7).trans k0
        have k1r := (hB.cell (p := ⟨w4.heap.size, 1, none⟩) lk7).trans k1
        have k3r := (hB.cell (p := ⟨w4.heap.size, 3, none⟩) lk7).trans k3
        have lkr : w4.heap.size < wr.heap.size := Nat.lt_of_lt_of_le lk7 hB.size
        have RR := H7.out.2.2.2.below hB
        by_cases hin : i < hs.length
        · obtain ⟨x, hx⟩ := elem_at hin
          have hdr : hs.drop i = x :: hs.drop (i + 1) := by
            rw [List.drop_eq_getElem_cons (List.getElem?_eq_some_iff.1 hx).1, (List.getElem?_eq_some_iff.1 hx).2]
          rw [hdr, firstR] at hfr
          obtain ⟨g, off, rfl, hg⟩ := RR.addr hx
          have m0 := row_int RR hx
          have hin' : (i : Int) < hs.length := by omega
          have hwi : IntKind.i64.wrap ((i : Int) + 1) = (i : Int) + 1 := IntWalk.i64_in _ (by have := HN.out.1; have := HN.out.2.1; omega)
          cases hz3 : decide (0 ≤ x) with
          | false =>
            --[[c6
            have e0 : ¬ 0 ≤ x := of_decide_eq_false hz3
            rw [hz3] at hfr
            simp only [Bool.false_and, cond_false] at hfr
            have HX := Lib.hid (And.intro hfr (And.intro hgk hB))
            clear hfr hgk hB BW RR hdr hx k0r k1r k3r
            go_wp2_with fail
            go_roundg (hs.length - (i + 1))
            case measure => have := HX.out.2.1; omega
            case rel => exact ⟨i + 1, by simp, by omega, rfl, HX.out.1, HX.out.2.2⟩
            --]]c6
          | true =>
            have e0 : 0 ≤ x := of_decide_eq_true hz3
            rw [hz3] at hfr
            simp only [Bool.true_and] at hfr
            have RO := Lib.hid (round_any w4.heap.size _ ca cn cc p.code wr k0r lkr (HI.out.keep (S := fun _ => False) (Keeps.of_below BW) (fun _ _ f => f)).code HOK.out (fun k => ∃ h, st.heights[k]? = some h ∧ 0 ≤ h) hcl.out i ⟨x, by rw [← HN.out.2.2]; exact hx, e0⟩ _ rfl)
            generalize roundL p.code i = rl at *
            have HX := Lib.hid (And.intro hfr (And.intro hgk (And.intro hB BW)))
            clear hfr hgk hB BW RR hdr hx k0r k1r k3r
            --[[c7
            go_wp2_with fail
            refine RO.out.mono ?_
            rintro e w8 ⟨rfl, hB8⟩
            have H8 := Lib.hid hB8
            have hRS := H7.out.2.2.1.keep (Keeps.of_below (HX.out.2.2.1.trans (hB8.mono HX.out.2.2.1.size)) (S := fun _ => False)) (fun f => f) (fun f => f)
            clear hB8 RO
            cases rl with
            | true =>
              --[[c8
              have hf := HX.out.1
              simp only [cond_true] at hf
              have hr := HR4.out
              rw [← hf] at hr
              subst hr
              obtain ⟨c0, c1, c2, c3, c4, f0, f1, l2⟩ := hRS
              have l1 : W.heap.size + 1 < w8.heap.size := by omega
              have BB := Lib.hid ((HX.out.2.2.2.trans (H8.out.mono HX.out.2.2.2.size)).trans ((five_keeps w8 (W.heap.size + 1) (W.heap.size + 1 + 1) 0 1 2 0 1 (.slice none 0 0) (.int .i64 0) (.int .i64 0) (.int .i64 i) (.int .i64 133)).below (by omega) (fun j hj e => by omega)))
              clear hf
              go_wp2_with fail
              exact bodyPost_ret (v := .tuple #[.agg #[.slice none 0 0, .int .i64 0, .int .i64 0], .agg #[.int .i64 i, .int .i64 133]]) (by simp only [results, Tryz.results15]; go_simp) rfl ⟨.slice none 0 0, rfl, Lib.hid ⟨RowAt.nil _ _, (fun g h => by cases h), BB.out ⟩⟩
              --]]c8
            | false =>
              --[[c9
              have hf := HX.out.1
              simp only [cond_false] at hf
              have HF := Lib.hid hf
              clear hf hRS
              go_wp2_with fail
              go_roundg (hs.length - (i + 1))
              case measure => have := HX.out.2.1; omega
              case rel => exact ⟨i + 1, by simp, by omega, rfl, HF.out, HX.out.2.2.1.trans (H8.out.mono HX.out.2.2.1.size)⟩
              --]]c9
            --]]c7
        · obtain rfl : i = hs.length := by omega
          obtain ⟨wo, rfl⟩ : ∃ wo : World, wo = wr := ⟨_, rfl⟩
          rw [List.drop_eq_nil_of_le (Nat.le_refl _), firstR] at hfr
          have hr := HR4.out
          rw [← hfr] at hr
          subst hr
          have hno := Lib.hid (show ∀ k, (∃ h, st.heights[k]? = some h ∧ 0 ≤ h) → roundL p.code k = false from fun k ⟨h, hh, h0⟩ => by
            have := firstR_none hs 0 hfr.symm k h (by rw [HN.out.2.2]; exact hh) h0
            rwa [Nat.zero_add] at this)
          have hdn := Lib.hid (fun k hk => dn_all hcl.out hno.out (k := k) hk)
          have hRS := Lib.hid (H7.out.2.2.1.keep (Keeps.of_below hB (S := fun _ => False)) (fun f => f) (fun f => f))
          have HX := Lib.hid (And.intro BW RR)
          obtain ⟨ti, hti, tz, ts, tb⟩ := info_parts infoInt
          obtain ⟨cs, hmk, hcs⟩ := run_make_ints (P := Tryz.prog) (t := 29) Tryz.underlying29 hti tz ts tb cn (by have := HR.out.2.2; have := HN.out.2.1; omega)
          have HCS := Lib.hid hcs
          clear hfr hgk hB BW RR k0 k1 k3 hti tz ts tb hcs
          --[[c10
          go_wp2_with fail
          go_region
          go_wp2_with fail
          obtain ⟨w9, hw9⟩ : ∃ w9, w9 = ((wo.alloc (.cells #[.slice ha hs.length hc, .int .i64 st.most, .int .i64 0] 31)).alloc (.cells cs 3)).drew := ⟨_, rfl⟩
          have B9 : Below wo.heap.size wo w9 := by rw [hw9]; exact (((Below.refl _ _).alloc (Nat.le_refl _) _).alloc (by simp) _).drew
          have fb : w9.heap[wo.heap.size]? = some (.cells #[.slice ha hs.length hc, .int .i64 st.most, .int .i64 0] 31 (0, 0)) := by rw [hw9]; exact heap_lt2
          have kr : RowAt w9 3 (.slice (some ⟨wo.heap.size + 1, 0, none⟩) cn cn) (List.replicate cn (0 : Int)) := by rw [hw9]; exact (RowAt.made heap_new2 HCS.out (by simp) (by have := HR.out.2.2; have := HN.out.2.1; unfold maxLen; omega)).drew
          have sz9 : w9.heap.size = wo.heap.size + 2 := by rw [hw9]; simp
          rw [← hw9]
          have H9 := Lib.hid (And.intro B9 (And.intro fb (And.intro kr (And.intro sz9 k0r))))
          clear hw9 B9 fb kr sz9 k0r k1r k3r hmk
          go_loopg [72] (hs.length) (fun gk v72 wr => SLRel w9 wo.heap.size (wo.heap.size + 1) cn p.code (.slice ha hs.length hc) st.most hs gk v72 wr)
          case atStart => exact ⟨0, 0, _, rfl, Nat.zero_le _, rfl, Nat.zero_le _, rfl, H9.out.2.1, H9.out.2.2.1, by simp, KN.zero _ _, Keeps.refl _ _⟩
          case round =>
            obtain ⟨i, m, known, rfl, hi, hgk, hm, hsp, hfb, hkr, hkl, hKN, hK⟩ := hrel
            have hRS2 := Lib.hid ((hRS.out.keep (Keeps.of_below H9.out.1 (S := fun _ => False)) (fun f => f) (fun f => f)).keep hK (fun e => by have := hRS.out.l; omega) (fun e => by have := hRS.out.l; omega))
            have RRz := (HX.out.2.below H9.out.1).keep hK (fun g hg e => by have := HX.out.2.lt hg; omega)
            by_cases hin : i < hs.length
            · obtain ⟨x, hx⟩ := elem_at hin
              have hdr : hs.drop i = x :: hs.drop (i + 1) := by
                rw [List.drop_eq_getElem_cons (List.getElem?_eq_some_iff.1 hx).1, (List.getElem?_eq_some_iff.1 hx).2]
              rw [hdr, spanM] at hsp
              obtain ⟨g, off, rfl, hg⟩ := RRz.addr hx
              have m0 := row_int RRz hx
              have hin' : (i : Int) < hs.length := by omega
              have hwi : IntKind.i64.wrap ((i : Int) + 1) = (i : Int) + 1 := IntWalk.i64_in _ (by have := HN.out.1; have := HN.out.2.1; omega)
              cases hz3 : decide (0 ≤ x) with
              | false =>
                --[[c11
                have e0 : ¬ 0 ≤ x := of_decide_eq_false hz3
                rw [hz3] at hsp
                simp only [cond_false] at hsp
                have HZ := Lib.hid (And.intro hsp (And.intro hgk (And.intro hfb (And.intro hkr (And.intro hKN hK)))))
                clear hsp hgk hfb hkr hKN hK RRz hdr hx
                go_wp2_with fail
                go_roundg (hs.length - (i + 1))
                case measure => have := HZ.out.2.1; omega
                case rel => exact ⟨i + 1, m, known, by simp, by omega, rfl, hm, HZ.out.1, HZ.out.2.2.1, HZ.out.2.2.2.1, hkl, HZ.out.2.2.2.2.1, HZ.out.2.2.2.2.2⟩
                --]]c11
              | true =>
                --[[c12
                have e0 : 0 ≤ x := of_decide_eq_true hz3
                rw [hz3] at hsp
                simp only [cond_true] at hsp
                have hRi : ∃ h, st.heights[i]? = some h ∧ 0 ≤ h := ⟨x, by rw [← HN.out.2.2]; exact hx, e0⟩
                have KW := Keeps.trans (S := fun j => wo.heap.size ≤ j) (T := fun j => j = wo.heap.size ∨ j = wo.heap.size + 1) ((Keeps.of_below H9.out.1 (S := fun _ => False)).mono (fun _ _ f => f.elim)) hK (fun j hj e => by omega)
                have kz := (KW.cell (p := ⟨w4.heap.size, 0, none⟩) lkr (by show ¬ wo.heap.size ≤ w4.heap.size; omega)).trans H9.out.2.2.2.2
                have lkz : w4.heap.size < wr.heap.size := Nat.lt_of_lt_of_le lkr KW.size
                have HCz := (HI.out.keep (S := fun _ => False) (Keeps.of_below HX.out.1) (fun _ _ f => f)).keep KW (fun g hg e => by have := HX.out.1.size; omega)
                have CS := Lib.hid (fun W' (K : Below wr.heap.size wr W') => span_any w4.heap.size (fun j => j < W.heap.size) ca cn cc p.code HOK.out (fun k => ∃ h, st.heights[k]? = some h ∧ 0 ≤ h) hcl.out (wo.heap.size + 1) 0 cn (by omega) (fun j hj => by have := HX.out.1.size; omega) (p.code.length + 1) i W' known (by have := HN.out.2.1; omega) (hdn.out i hRi) hRi ((K.cell (p := ⟨w4.heap.size, 0, none⟩) lkz).trans kz) (Nat.lt_of_lt_of_le lkz K.size) (HCz.keep (S := fun _ => False) (Keeps.of_below K) (fun _ _ f => f)).code (hkr.below K) hkl hKN)
                have hle := spF_le p.code (p.code.length + 1) i
                generalize spF p.code (p.code.length + 1) i = s at *
                have p2 : wr.cell? ⟨wo.heap.size, 2, none⟩ = some (.int .i64 m) := by rw [cell_of_heap hfb]; rfl
                have lf : wo.heap.size < wr.heap.size := lt_of_heap hfb
                have hmx : max (m : Int) (s : Int) = ((max m s : Nat) : Int) := by omega
                have HM := Lib.hid hmx
                have HZ := Lib.hid (And.intro hsp (And.intro hgk (And.intro hfb (And.intro hK KW))))
                clear hsp hgk hfb hkr hKN hK KW RRz hdr hx hRi kz HCz hmx
                go_wp2_with fail
                go_region_law
                  ((go_simp; go_at_call 39; refine (CS.out _ ((Below.refl _ _).drew)).mono ?_; rintro e w8 ⟨rfl, H8⟩; obtain ⟨kn', g1, g2, g3, g4⟩ := H8.out; have hb8 := (g4.block wo.heap.size lf (by omega)).trans HZ.out.2.2.1; have y2 : w8.cell? ⟨wo.heap.size, 2, none⟩ = some (.int .i64 m) := (by rw [cell_of_heap hb8]; rfl); have fy : ∀ o, w8.frozen? ⟨wo.heap.size, o, none⟩ = false := (fun o => frozen_of_heap hb8 o); have ly : wo.heap.size < w8.heap.size := (lt_of_heap hb8); have HG := Lib.hid (And.intro g1 (And.intro g2 (And.intro g3 (And.intro (((Keeps.refl (fun j => j = wo.heap.size + 1) wr).drew).comp g4) hb8)))); clear g1 g2 g3 g4 hb8))
                all_goals
                  go_wp2_with fail
                  go_roundg (hs.length - (i + 1))
                  case measure => have := HZ.out.2.1; omega
                  refine ⟨i + 1, max m s, kn', by simp, by omega, rfl, by have := HN.out.2.1; omega, HZ.out.1, ?_, HG.out.1.keep (Keeps.setCell (S := fun j => j = wo.heap.size) (p := ⟨wo.heap.size, 2, none⟩) (Keeps.refl _ _) (.inl rfl) _) (fun g hg e => by have h1 : wo.heap.size + 1 = g := Option.some.inj hg; omega), HG.out.2.1, HG.out.2.2.1, ?_⟩
                  · rw [← HM.out]
                    exact set_fact HG.out.2.2.2.2 _
                  · exact (HZ.out.2.2.2.1.trans (T := fun j => j = wo.heap.size + 1) (HG.out.2.2.2.1) (fun j _ e => .inr e)).trans (T := fun j => j = wo.heap.size) (Keeps.setCell (S := fun j => j = wo.heap.size) (p := ⟨wo.heap.size, 2, none⟩) (Keeps.refl _ _) (.inl rfl) _) (fun j _ e => .inl e)
                --]]c12
            · obtain rfl : i = hs.length := by omega
              rw [List.drop_eq_nil_of_le (Nat.le_refl _), spanM] at hsp
              have e0 : wr.cell? ⟨wo.heap.size, 0, none⟩ = some (.slice ha hs.length hc) := by rw [cell_of_heap hfb]; rfl
              have e1 : wr.cell? ⟨wo.heap.size, 1, none⟩ = some (.int .i64 st.most) := by rw [cell_of_heap hfb]; rfl
              have e2 : wr.cell? ⟨wo.heap.size, 2, none⟩ = some (.int .i64 m) := by rw [cell_of_heap hfb]; rfl
              have lf : wo.heap.size < wr.heap.size := lt_of_heap hfb
              have d1 : ¬ wo.heap.size = W.heap.size + 1 := by have := hRS.out.l; omega
              have d2 : ¬ wo.heap.size = W.heap.size + 1 + 1 := by have := hRS.out.l; omega
              have Bz : Below W.heap.size W wr := HX.out.1.trans ((H9.out.1.mono HX.out.1.size).trans (hK.below (by have := HX.out.1.size; have := H9.out.1.size; omega) (fun j hj e => by have := HX.out.1.size; omega)))
              have HZ := Lib.hid (And.intro hsp (And.intro Bz RRz))
              clear hsp Bz RRz hfb hkr hKN hK hgk
              --[[c13
              obtain ⟨c0, c1, c2, c3, c4, f0, f1, l2⟩ := hRS2.out
              have l1 : W.heap.size + 1 < wr.heap.size := by omega
              have KF := five_keeps wr (W.heap.size + 1) (W.heap.size + 1 + 1) 0 1 2 0 1 (.slice ha hs.length hc) (.int .i64 st.most) (.int .i64 m) (.int .i64 (-1)) (.int .i64 0)
              have BB := Lib.hid (And.intro (HZ.out.2.1.trans (KF.below (by omega) (fun j hj e => by omega))) (HZ.out.2.2.keep KF (fun g hg e => by have := H6.out.1.lo g (.inr (.inl hg)); have := H4.out.2.1.l; omega)))
              clear KF
              go_wp2_with fail
              exact bodyPost_ret (v := .tuple #[.agg #[.slice ha hs.length hc, .int .i64 st.most, .int .i64 m], .agg #[.int .i64 (-1), .int .i64 0]]) (by simp only [results, Tryz.results15]; go_simp) rfl ⟨.slice ha hs.length hc, by rw [← HZ.out.1], Lib.hid ⟨BB.out.2, (fun g hg => by have := H6.out.1.lo g (.inr (.inl hg)); have := H4.out.2.1.l; omega), BB.out.1⟩⟩
              --]]c13
          --]]c10
      --]]c5
    --]]c3
--]]c1
end Go.Proofs.YtielnengimninaaGreatDoor
