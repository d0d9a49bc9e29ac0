/- the law VerifyChecks, walked. -/
import Derived.Test.YtielnengimninaaGreatDoorV82
import Derived.Test.YtielnengimninaaGreatDoorV37
namespace Go.Proofs.YtielnengimninaaGreatDoor
open Go.RowKit Go.Own Go.Own.MapTy Go.Va Go.Sort
open Go.Own.Cells (sz enc)
theorem BoxI.all {w : World} {b : Nat} {i : IC} (h : BoxI w b i) : w.cell? ⟨b, 0, none⟩ = some (.slice i.ca i.cn i.cc) ∧ w.cell? ⟨b, 1, none⟩ = some (.slice i.ka i.kn i.kc) ∧ w.cell? ⟨b, 2, none⟩ = some (.slice i.na i.nn i.nc) ∧ w.cell? ⟨b, 3, none⟩ = some (.int .i64 i.pl) ∧ b < w.heap.size := ⟨h.c0, h.c1, h.c2, h.c3, h.lt⟩
/-- what is known of a program, in a box; what is wrong, in the next -/
structure TwoB (w : World) (b : Nat) (hv : Value) (mo sp at_ er : Int) : Prop where
  f : w.heap[b]? = some (.cells #[hv, .int .i64 mo, .int .i64 sp] 31 (0, 0))
  g : w.heap[b + 1]? = some (.cells #[.int .i64 at_, .int .i64 er] 34 (0, 0))
theorem TwoB.below {w w' : World} {b : Nat} {hv : Value} {mo sp at_ er : Int} (h : TwoB w b hv mo sp at_ er) (B : Below w.heap.size w w') : TwoB w' b hv mo sp at_ er := ⟨(B.block _ (lt_of_heap h.f)).trans h.f, (B.block _ (lt_of_heap h.g)).trans h.g⟩
theorem TwoB.all {w : World} {b : Nat} {hv : Value} {mo sp at_ er : Int} (h : TwoB w b hv mo sp at_ er) : w.cell? ⟨b, 0, none⟩ = some hv ∧ w.cell? ⟨b, 1, none⟩ = some (.int .i64 mo) ∧ w.cell? ⟨b, 2, none⟩ = some (.int .i64 sp) ∧ w.cell? ⟨b + 1, 0, none⟩ = some (.int .i64 at_) ∧ w.cell? ⟨b + 1, 1, none⟩ = some (.int .i64 er) ∧ b < w.heap.size ∧ b + 1 < w.heap.size :=
  ⟨by rw [cell_of_heap h.f]; rfl, by rw [cell_of_heap h.f]; rfl, by rw [cell_of_heap h.f]; rfl, by rw [cell_of_heap h.g]; rfl, by rw [cell_of_heap h.g]; rfl, lt_of_heap h.f, lt_of_heap h.g⟩
def C1Rel (w6 : World) (p : Img) (hs : List Int) (gk : Nat) (v60 v7 v8 : Value) (wr : World) : Prop :=
  ∃ i : Nat, v60 = .int .i64 i ∧ i ≤ hs.length ∧ gk = hs.length - i ∧ ((v7 = .int .i64 (-1) ∧ v8 = .int .i64 0 ∧ firstR p.code i (hs.drop i) = firstR p.code 0 hs) ∨ (∃ k : Nat, v7 = .int .i64 k ∧ v8 = .int .i64 133 ∧ firstR p.code 0 hs = some k)) ∧ Below w6.heap.size w6 wr
def C2Rel (w6 : World) (p : Img) (hs : List Int) (gk : Nat) (v126 v12 v13 : Value) (wr : World) : Prop :=
  ∃ i m r : Nat, v126 = .int .i64 i ∧ v12 = .int .i64 m ∧ v13 = .int .i64 r ∧ i ≤ hs.length ∧ gk = hs.length - i ∧ r ≤ i ∧ m ≤ 600 ∧ spanM p.code i (hs.drop i) m = spanM p.code 0 hs 0 ∧ r + reachL (hs.drop i) = reachL hs ∧ Below w6.heap.size w6 wr
theorem firstR_cons (code : List In) (k : Nat) (h : Int) (r : List Int) : firstR code k (h :: r) = bif decide (0 ≤ h) && roundL code k then some k else firstR code (k + 1) r := rfl
set_option maxRecDepth 100000 in
set_option maxHeartbeats 8000000 in
theorem checks_walk {N : Nat} (i : IC) (p : Img) (W : World) (G : Gl Tryz.prog N W) (H : IAt (fun j => j < W.heap.size) W i p) (hb64 : Val.all.allL B64 p.consts) :
    Calls Tryz.prog 3 #[.agg #[.slice i.ca i.cn i.cc, .slice i.ka i.kn i.kc, .slice i.na i.nn i.nc, .int .i64 i.pl]] W fun en w' => en = .returned (.bool true) ∧ Below W.heap.size W w' := by
  have HG := Lib.hid G
  have HL := H.lens.1
  have SM := Lib.hid (fun W' (K : Below W.heap.size W W') => small_any _ W' i p (H.below K) _ rfl)
  have CK := Lib.hid (fun W' (K : Below W.heap.size W W') (hw : ∀ x ∈ p.consts, x.wf) => vcheck_any _ i p W' (H.below K) hw _ rfl)
  have RI := Lib.hid (fun W' (K : Below W.heap.size W W') (hw : ∀ x ∈ p.consts, x.wf) => rimg_any _ W' i p (H.below K) _ hw rfl)
  have HT := Lib.hid (fun W' (K : Below W.heap.size W W') (h0 : imgL p = 0) => heights_any _ W' i p (H.below K) h0 _ rfl)
  have RR := Lib.hid (fun W' (K : Below W.heap.size W W') (h0 : imgL p = 0) k0 hk => rround_any _ W' i p (H.below K) h0 k0 hk _ rfl)
  have PP := Lib.hid (fun W' (K : Below W.heap.size W W') (h0 : imgL p = 0) m hm => rpaths_any _ W' i p (H.below K) h0 m hm)
  have hsm := @small_wf p.code.length p.consts p.names
  obtain ⟨sm, hsmq⟩ : ∃ sm, smallL p.code.length p.consts p.names = sm := ⟨_, rfl⟩
  rw [hsmq] at SM hsm
  have HSM := Lib.hid (fun h => hsm h hb64)
  obtain ⟨ca, cn, cc, ka, kn, kc, na, nn, nc, pl⟩ := i
  dsimp only at SM CK RI HT RR PP HL ⊢
  have HLL := Lib.hid HL
  clear G H hb64 hsm hsmq HL
  go_enter Tryz.func3, Tryz.ntmps3
  go_wp2_with fail
  have B0 : Below W.heap.size W (W.alloc (.cells #[.slice ca cn cc, .slice ka kn kc, .slice na nn nc, .int .i64 pl] 26)) := (Below.refl _ _).alloc (Nat.le_refl _) _
  refine (asks_true _ (HG.out.below B0)).mono ?_
  rintro en w1 ⟨rfl, hB1⟩
  have b1 : BoxI w1 W.heap.size ⟨ca, cn, cc, ka, kn, kc, na, nn, nc, pl⟩ := (hB1.block W.heap.size (by simp)).trans (heap_alloc_new W (.cells #[.slice ca cn cc, .slice ka kn kc, .slice na nn nc, .int .i64 pl] 26))
  have H1 := Lib.hid (And.intro (B0.trans (hB1.mono (by simp))) b1)
  obtain ⟨q0, q1, q2, q3, l1⟩ := b1.all
  dsimp only at q0 q1 q2 q3
  clear B0 hB1 b1
  go_wp2_with fail
  refine (SM.out _ H1.out.1).mono ?_
  rintro en w2 ⟨rfl, hB2⟩
  have H2 := Lib.hid (And.intro (H1.out.1.trans (hB2.mono H1.out.1.size)) (H1.out.2.below hB2))
  obtain ⟨q0, q1, q2, q3, l2⟩ := H2.out.2.all
  dsimp only at q0 q1 q2 q3
  clear hB2 SM H1 l1
  cases sm with
  | false =>
    go_wp2_with fail
    go_ret
    exact ⟨rfl, H2.out.1⟩
  | true =>
    have hwf := HSM.out rfl
    have CA := Lib.hid (CK.out w2 H2.out.1 hwf)
    have HWF := Lib.hid hwf
    obtain ⟨fa, at_, er, hck⟩ : ∃ fa a e, checkG p = (fa, a, e) := ⟨_, _, _, rfl⟩
    rw [hck] at CA
    have HCK := Lib.hid hck
    clear hck hwf CK HSM
    --[[c1
    go_wp2_with fail
    refine CA.out.mono ?_
    rintro en w3 ⟨v3, rfl, H3⟩
    obtain ⟨xa, xc, rfl⟩ := H3.out.1.slice
    obtain ⟨fh, fm, fs⟩ := fa
    dsimp only at H3 ⊢
    have B3 := H2.out.1.trans (H3.out.2.2.mono H2.out.1.size)
    have X3 := H2.out.2.below H3.out.2.2
    obtain ⟨w5, hw5⟩ : ∃ w5, w5 = (w3.alloc (.cells #[.slice xa fh.length xc, .int .i64 fm, .int .i64 fs] 31)).alloc (.cells #[.int .i64 at_, .int .i64 er] 34) := ⟨_, rfl⟩
    have B5 : Below w3.heap.size w3 w5 := by rw [hw5]; exact ((Below.refl _ _).alloc (Nat.le_refl _) _).alloc (by simp) _
    have T5 : TwoB w5 w3.heap.size (.slice xa fh.length xc) fm fs at_ er := by rw [hw5]; exact ⟨heap_lt2, heap_new2⟩
    have H5 := Lib.hid (And.intro (B3.trans (B5.mono B3.size)) (And.intro (X3.below B5) (And.intro T5 (H3.out.1.below B5))))
    clear q0 q1 q2 q3 l2
    obtain ⟨q0, q1, q2, q3, l2⟩ := X3.all
    dsimp only at q0 q1 q2 q3
    clear B3 X3 CA B5 T5
    have RA := Lib.hid (RI.out w5 H5.out.1 HWF.out)
    obtain ⟨ie, hie⟩ : ∃ ie, imgL p = ie := ⟨_, rfl⟩
    rw [hie] at RA
    have HIE := Lib.hid hie
    clear hie RI H3
    go_wp2_with fail
    rw [← hw5]
    clear hw5
    refine RA.out.mono ?_
    rintro en w6 ⟨rfl, hB6⟩
    have H6 := Lib.hid (And.intro (H5.out.1.trans (hB6.mono H5.out.1.size)) (And.intro (H5.out.2.1.below hB6) (And.intro (H5.out.2.2.1.below hB6) (H5.out.2.2.2.below hB6))))
    clear q0 q1 q2 q3 l2 H5 hB6 RA
    cases hz : (ie != 0) with
    | true =>
      have hc := HCK.out
      unfold checkG at hc
      rw [HIE.out, hz] at hc
      simp only [cond_true] at hc
      obtain ⟨z0, z1, z2, z3, z4, lz, lz1⟩ := H6.out.2.2.1.all
      cases hc
      dsimp only [List.length_nil] at z0 ⊢
      --[[c2
      go_wp2_with fail
      go_ret
      exact ⟨by simp, H6.out.1⟩
      --]]c2
    | false =>
      have hi0 : imgL p = 0 := by rw [HIE.out]; simpa using hz
      have hc := HCK.out
      unfold checkG at hc
      rw [HIE.out, hz] at hc
      simp only [cond_false] at hc
      have hie0 : ie = 0 := by simpa using hz
      subst hie0
      have HA := Lib.hid (HT.out w6 H6.out.1 hi0)
      have hwl := @walkL_law p.code (codeOk_of hi0)
      obtain ⟨qa, qe, st, hq⟩ : ∃ qa qe st, walkL p.code = ((qa, qe), st) := ⟨_, _, _, rfl⟩
      rw [hq] at HA hc hwl
      have HC := Lib.hid (And.intro hc (And.intro hwl hi0))
      clear hc hwl hq hz HT HIE
      obtain ⟨q0, q1, q2, q3, l2⟩ := H6.out.2.1.all
      dsimp only at q0 q1 q2 q3
      --[[c3
      go_wp2_with fail
      refine HA.out.mono ?_
      rintro en w7 ⟨hv, hm, rfl, H7⟩
      dsimp only at H7 ⊢
      have H8 := Lib.hid (And.intro (H6.out.1.trans (H7.out.1.mono H6.out.1.size)) (And.intro (H6.out.2.1.below H7.out.1) (And.intro (H6.out.2.2.1.below H7.out.1) (H6.out.2.2.2.below H7.out.1))))
      clear q0 q1 q2 q3 l2 HA
      cases hqe : (qe != 0) with
      | true =>
        have hqe0 : (qe == 0) = false := by simpa using hqe
        have hc := HC.out.1
        rw [hqe] at hc
        simp only [cond_true] at hc
        obtain ⟨z0, z1, z2, z3, z4, lz, lz1⟩ := H8.out.2.2.1.all
        cases hc
        dsimp only [List.length_nil] at z0 ⊢
        --[[c4
        go_wp2_with fail
        go_ret
        exact ⟨by simp, H8.out.1⟩
        --]]c4
      | false =>
        have hqe0 : qe = 0 := by simpa using hqe
        subst hqe0
        have hc := HC.out.1
        rw [hqe] at hc
        simp only [cond_false] at hc
        obtain ⟨_, WK⟩ := HC.out.2.1 rfl
        have hcl := WK.closed (codeOk_of HC.out.2.2)
        obtain ⟨hrow, hmo⟩ := H7.out.2 rfl
        subst hmo
        try dsimp only at hrow
        try dsimp only at WK
        try dsimp only at hcl
        try dsimp only at hc
        have hlen := WK.inv.len
        have h512 := (codeOk_of HC.out.2.2).len
        have hreach : ∀ (k : Nat), (∃ h, st.heights[k]? = some h ∧ 0 ≤ h) → roundR p.code k = roundL p.code k := by
          intro k hk
          have hway : ∀ {a k}, (∃ h, st.heights[a]? = some h ∧ 0 ≤ h) → Go.Va.Way p.code a k → (∃ h, st.heights[k]? = some h ∧ 0 ≤ h) := fun {a k} ha h => by
            induction h with
            | one _ h2 => exact (hcl _ ha).2 _ h2
            | more _ _ h3 ih => exact (hcl _ ih).2 _ h3
          refine roundR_eq (hcl _ hk).1 (fun j x h hx => ?_)
          have hj : ∃ h, st.heights[j]? = some h ∧ 0 ≤ h := h.elim (fun h => hway hk h) (fun h => by rw [h]; exact hk)
          exact (hcl _ ((hcl _ hj).2 _ hx)).1
        have hpath : ∀ (k : Nat), (∃ h, st.heights[k]? = some h ∧ 0 ≤ h) → pathF p.code p.code.length k = spF p.code (p.code.length + 1) k := fun k hk => path_sp (Rc := fun k => ∃ h, st.heights[k]? = some h ∧ 0 ≤ h) hcl _ k hk
        obtain ⟨ha, hcp, rfl⟩ := hrow.slice
        generalize st.heights = hs at *
        generalize st.most = mo at *
        have HS := Lib.hid (And.intro hrow (And.intro hreach (And.intro hpath (And.intro hlen (And.intro hcl hc)))))
        have hsl : hs.length ≤ 512 := by omega
        clear hrow hreach hpath hlen hcl hc WK hqe H7 h512
        --[[c5
        go_wp2_with fail
        go_loopg [60, 7, 8] (hs.length) (fun gk v60 v7 v8 wr => C1Rel w7 p hs gk v60 v7 v8 wr)
        case atStart => exact ⟨0, rfl, Nat.zero_le _, rfl, .inl ⟨rfl, rfl, rfl⟩, Below.refl _ _⟩
        case round =>
          obtain ⟨j, rfl, hj, hgk, hst, hB⟩ := hrel
          have XB := H8.out.2.1.below hB
          obtain ⟨q0, q1, q2, q3, l2⟩ := XB.all
          dsimp only at q0 q1 q2 q3
          by_cases hjn : j < hs.length
          · obtain ⟨x, hx⟩ := elem_at hjn
            have hdr : hs.drop j = x :: hs.drop (j + 1) := by
              rw [List.drop_eq_getElem_cons (List.getElem?_eq_some_iff.1 hx).1, (List.getElem?_eq_some_iff.1 hx).2]
            have RW := HS.out.1.below hB
            obtain ⟨hg, ho, rfl, hgl⟩ := RW.addr hx
            have y0 := row_int RW hx
            have hjn' : (j : Int) < hs.length := by omega
            have hj1 : j + 1 ≤ hs.length := by omega
            have HMS := Lib.hid (show hs.length - (j + 1) < gk from by omega)
            rw [hdr, firstR_cons] at hst
            by_cases hx0 : 0 ≤ x
            · rcases hst with ⟨rfl, rfl, hf⟩ | ⟨k, rfl, rfl, hf⟩
              · have hkj : j < p.code.length := by have := HS.out.2.2.2.1; omega
                have RO := RR.out wr (H8.out.1.trans (hB.mono H8.out.1.size)) HC.out.2.2 j hkj
                rw [HS.out.2.1 j ⟨x, hx, hx0⟩] at RO
                have RO := Lib.hid RO
                rw [decide_eq_true hx0] at hf
                simp only [Bool.true_and] at hf
                have HX := Lib.hid (And.intro hf hB)
                clear hf hB hgk hdr hx RW XB hkj
                --[[d1
                go_wp2_with fail
                refine RO.out.mono ?_
                rintro en wz ⟨rfl, hBz⟩
                have HZ := Lib.hid (HX.out.2.trans (hBz.mono HX.out.2.size))
                have hf := HX.out.1
                clear hBz RO y0 hgl
                cases hrl : roundL p.code j with
                | true =>
                  rw [hrl] at hf
                  simp only [cond_true] at hf
                  have HY := Lib.hid hf
                  clear hf
                  go_wp2_with fail
                  go_roundg (hs.length - (j + 1))
                  case measure => exact HMS.out
                  case rel => exact ⟨j + 1, by simp, hj1, rfl, .inr ⟨j, rfl, rfl, HY.out.symm⟩, HZ.out⟩
                | false =>
                  rw [hrl] at hf
                  simp only [cond_false] at hf
                  have HY := Lib.hid hf
                  clear hf
                  go_wp2_with fail
                  go_roundg (hs.length - (j + 1))
                  case measure => exact HMS.out
                  case rel => exact ⟨j + 1, by simp, hj1, rfl, .inl ⟨rfl, rfl, HY.out⟩, HZ.out⟩
                --]]d1
              · have hk0 : ¬ (k : Int) < 0 := by omega
                have hkd : decide ((k : Int) < 0) = false := decide_eq_false hk0
                have HX := Lib.hid (And.intro hf hB)
                clear hf hB hgk hdr hx RW XB
                --[[d2
                go_wp2_with fail
                go_roundg (hs.length - (j + 1))
                case measure => exact HMS.out
                case rel => exact ⟨j + 1, by simp, hj1, rfl, .inr ⟨k, rfl, rfl, HX.out.1⟩, HX.out.2⟩
                --]]d2
            · have hx0' : x < 0 := by omega
              have hxd : decide (0 ≤ x) = false := decide_eq_false hx0
              have hst2 : (u7 = .int .i64 (-1) ∧ u8 = .int .i64 0 ∧ firstR p.code (j + 1) (hs.drop (j + 1)) = firstR p.code 0 hs) ∨ (∃ k : Nat, u7 = .int .i64 k ∧ u8 = .int .i64 133 ∧ firstR p.code 0 hs = some k) := by
                rw [hxd] at hst
                exact hst
              have HX := Lib.hid (And.intro hst2 hB)
              clear hst hst2 hB hgk hdr hx RW XB
              --[[d3
              go_wp2_with fail
              go_roundg (hs.length - (j + 1))
              case measure => exact HMS.out
              case rel => exact ⟨j + 1, by simp, hj1, rfl, HX.out.1, HX.out.2⟩
              --]]d3
          · obtain rfl : j = hs.length := by omega
            have hjj : ¬ (hs.length : Int) < hs.length := by omega
            rw [List.drop_eq_nil_of_le (Nat.le_refl _)] at hst
            have HX := Lib.hid (And.intro (H8.out.1.trans (hB.mono H8.out.1.size)) (And.intro XB (And.intro (H8.out.2.2.1.below hB) (And.intro (H8.out.2.2.2.below hB) (HS.out.1.below hB)))))
            obtain ⟨z0, z1, z2, z3, z4, lz, lz1⟩ := HX.out.2.2.1.all
            have hc := HS.out.2.2.2.2.2
            clear hgk hB XB
            rcases hst with ⟨rfl, rfl, hf⟩ | ⟨k, rfl, rfl, hf⟩
            · have hf : firstR p.code 0 hs = none := hf.symm
              rw [hf] at hc
              dsimp only at hc
              cases hc
              clear hf
              --[[e1
              have hcn := HLL.out
              have hhs := HS.out.2.2.2.1
              have PA := Lib.hid (PP.out wr HX.out.1 HC.out.2.2 cn (by omega))
              clear hcn hhs
              go_wp2_with fail
              refine PA.out.mono ?_
              rintro en w9 ⟨lv, rfl, H9⟩
              obtain ⟨la, lc, hlv⟩ := H9.out.1.slice
              rw [pthR_len] at hlv
              subst hlv
              have HY := Lib.hid (And.intro (HX.out.1.trans (H9.out.2.mono HX.out.1.size)) (And.intro (HX.out.2.2.1.below H9.out.2) (And.intro (HX.out.2.2.2.1.below H9.out.2) (And.intro (HX.out.2.2.2.2.below H9.out.2) H9.out.1))))
              clear q0 q1 q2 q3 l2 z0 z1 z2 z3 z4 lz lz1 PA H9
              --[[e2
              go_wp2_with fail
              go_loopg [126, 12, 13] (fh.length) (fun gk v126 v12 v13 wr => C2Rel w9 p fh gk v126 v12 v13 wr)
              case atStart => exact ⟨0, 0, 0, rfl, rfl, rfl, Nat.zero_le _, rfl, Nat.le_refl _, Nat.zero_le _, rfl, by simp, Below.refl _ _⟩
              case round =>
                obtain ⟨j, m, r, rfl, rfl, rfl, hj, hgk, hr, hm6, hsp, hre, hB⟩ := hrel
                have T := HY.out.2.1.below hB
                obtain ⟨z0, z1, z2, z3, z4, lz, lz1⟩ := T.all
                by_cases hjn : j < fh.length
                · obtain ⟨x, hx⟩ := elem_at hjn
                  have hdr : fh.drop j = x :: fh.drop (j + 1) := by
                    rw [List.drop_eq_getElem_cons (List.getElem?_eq_some_iff.1 hx).1, (List.getElem?_eq_some_iff.1 hx).2]
                  have RW := HY.out.2.2.2.1.below hB
                  obtain ⟨hg, ho, rfl, hgl⟩ := RW.addr hx
                  have y0 := row_int RW hx
                  have RV := HY.out.2.2.1.below hB
                  obtain ⟨vg, vo, rfl, vgl⟩ := RV.addr hx
                  have y1 := row_int RV hx
                  have hjn' : (j : Int) < fh.length := by omega
                  have hj1 : j + 1 ≤ fh.length := by omega
                  have hr1 : r ≤ j + 1 := by omega
                  have HMS := Lib.hid (show fh.length - (j + 1) < gk from by omega)
                  rw [hdr, spanM] at hsp
                  rw [hdr, reachL] at hre
                  by_cases hx0 : 0 ≤ x
                  · rw [decide_eq_true hx0] at hsp hre
                    simp only [cond_true] at hsp hre
                    have hhs := HS.out.2.2.2.1
                    have PR := HY.out.2.2.2.2.below hB
                    have hpa := pthR_at (code := p.code) (k := cn) (j := p.code.length) (x := j) (by omega)
                    obtain ⟨lg, lo, rfl, lgl⟩ := PR.addr hpa
                    have y2 := row_nat PR hpa
                    have hjp : (j : Int) < p.code.length := by omega
                    have hpe : pathF p.code cn j = spF p.code (p.code.length + 1) j := by rw [HLL.out]; exact HS.out.2.2.1 j ⟨x, hx, hx0⟩
                    have hsb := spF_le p.code (p.code.length + 1) j
                    rw [hpe] at y2
                    generalize spF p.code (p.code.length + 1) j = sp at *
                    have hmx : ((max m sp : Nat) : Int) = max (m : Int) sp := by omega
                    have HMX := Lib.hid hmx
                    have HX2 := Lib.hid (And.intro hsp (And.intro hre (And.intro hB (show max m sp ≤ 600 from by omega))))
                    have hr2 : r + 1 ≤ j + 1 := by omega
                    clear hsp hre hB hgk hdr hx RW RV PR hpa hpe hsb hmx hhs T
                    --[[e3
                    go_wp2_with fail
                    go_region
                    go_wp2_with fail
                    go_roundg (fh.length - (j + 1))
                    case measure => exact HMS.out
                    case rel => exact ⟨j + 1, max m sp, r + 1, by simp, by rw [HMX.out], by simp, hj1, rfl, hr2, HX2.out.2.2.2, HX2.out.1, by rw [← HX2.out.2.1]; omega, HX2.out.2.2.1.drew⟩
                    --]]e3
                  · have hx0' : x < 0 := by omega
                    have hxd : decide (0 ≤ x) = false := decide_eq_false hx0
                    rw [hxd] at hsp hre
                    simp only [cond_false] at hsp hre
                    have HX2 := Lib.hid (And.intro hsp (And.intro hre hB))
                    clear hsp hre hB hgk hdr hx RW RV T
                    --[[e4
                    go_wp2_with fail
                    go_region
                    go_wp2_with fail
                    go_roundg (fh.length - (j + 1))
                    case measure => exact HMS.out
                    case rel => exact ⟨j + 1, m, r, by simp, rfl, rfl, hj1, rfl, hr1, hm6, HX2.out.1, by rw [← HX2.out.2.1]; omega, HX2.out.2.2.drew⟩
                    --]]e4
                · obtain rfl : j = fh.length := by omega
                  have hjj : ¬ (fh.length : Int) < fh.length := by omega
                  rw [List.drop_eq_nil_of_le (Nat.le_refl _), spanM] at hsp
                  rw [List.drop_eq_nil_of_le (Nat.le_refl _), reachL, Nat.add_zero] at hre
                  have RV := HY.out.2.2.1.below hB
                  have RE := Lib.hid (reached_any (.slice xa fh.length xc) fh fm ((spanM p.code 0 fh 0 : Nat) : Int) wr RV)
                  have HB := Lib.hid (HY.out.1.trans (hB.mono HY.out.1.size))
                  rw [← hsp, ← hre] at RE
                  rw [← hsp] at z2
                  clear hB hgk hsp hre RV T
                  --[[e5
                  go_wp2_with fail
                  refine RE.out.mono ?_
                  rintro en w10 ⟨rfl, hB10⟩
                  have HE := Lib.hid (HB.out.trans (hB10.mono HB.out.size))
                  clear hB10
                  go_wp2_with fail
                  go_ret
                  exact ⟨by simp, HE.out⟩
                  --]]e5
              --]]e2
              --]]e1
            · rw [hf] at hc
              dsimp only at hc
              cases hc
              dsimp only [List.length_nil] at z0 ⊢
              clear hf
              --[[e6
              go_wp2_with fail
              go_ret
              exact ⟨by simp, HX.out.1⟩
              --]]e6
        --]]c5
      --]]c3
    --]]c1
end Go.Proofs.YtielnengimninaaGreatDoor
