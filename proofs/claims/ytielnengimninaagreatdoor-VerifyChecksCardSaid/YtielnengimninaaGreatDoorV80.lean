/- the document's heights (foliotref13.Heights), walked: they are the program's. -/
import Derived.Test.YtielnengimninaaGreatDoorV79
namespace Go.Proofs.YtielnengimninaaGreatDoor
open Go.RowKit Go.Own Go.Own.MapTy Go.Va Go.Sort
open Go.Own.Cells (sz enc)
def HPost (w : World) (q : (Int × Int) × KSt) (e : Ending) (w' : World) : Prop := ∃ (v : Value) (m : Int), e = .returned (.tuple #[v, .int .i64 q.1.1, .int .i64 q.1.2, .int .i64 m]) ∧ Hid (Below w.heap.size w w' ∧ (q.1.2 = 0 → RowAt w' 3 v q.2.heights ∧ m = q.2.most))
/-- between two rounds -/
def HtRel (w0 : World) (N n : Nat) (code : List In) (q : (Int × Int) × KSt) (hv : Value) (hb : Nat) (gk : Nat) (v8 v9 v10 : Value) (wr : World) : Prop :=
  ∃ (st : KSt) (pre : List Nat), v9 = .int .i64 st.most ∧ v10 = .int .i64 pre.length ∧ RowAt wr 3 hv st.heights ∧ RowAt wr 3 v8 (pre ++ st.todo) ∧ (∀ g, v8.ownBlock = some g → N ≤ g ∧ g ≠ hb) ∧ Inv n gk st ∧ bfsL code gk st = q ∧ Below N w0 wr ∧ pre.length + gk ≤ n + 1
def HiRel (w0 : World) (N n : Nat) (fv : Value) (fl : List Nat) (pre : List Nat) (h : Int) (R : Int × KSt) (mo : Int) (hv : Value) (hb : Nat) (gk : Nat) (v15 v8 : Value) (wr : World) : Prop :=
  ∃ (j : Nat) (st : KSt), v15 = .int .i64 j ∧ j ≤ fl.length ∧ gk = fl.length - j ∧ RowAt wr 3 hv st.heights ∧ RowAt wr 3 v8 (pre ++ st.todo) ∧ (∀ g, v8.ownBlock = some g → N ≤ g ∧ g ≠ hb ∧ fv.ownBlock ≠ some g) ∧ comesL n h (fl.drop j) st = R ∧ RowAt wr 3 fv fl ∧ Below N w0 wr ∧ st.most = mo ∧ st.heights.length = n ∧ st.todo.length ≤ 600 + j
theorem alloc_sz (w : World) (o : Obj) : (w.alloc o).heap.size = w.heap.size + 1 := by simp
theorem code_all {p : Img} (h : imgL p = 0) : ∀ c ∈ p.code, (ofL c.op).2 = true := fun c hc => ((imgL_ok h).2.2.2.2.2.2.2.2 c hc).1
set_option maxRecDepth 100000 in
set_option maxHeartbeats 8000000 in
theorem heights_any (F : Nat → Prop) (w : World) (i : IC) (p : Img) (H : IAt F w i p) (hi0 : imgL p = 0) (q : (Int × Int) × KSt) (hq : walkL p.code = q) :
    Calls Tryz.prog 17 #[.agg #[.slice i.ca i.cn i.cc, .slice i.ka i.kn i.kc, .slice i.na i.nn i.nc, .int .i64 i.pl]] w (HPost w q) := by
  have OK := codeOk_of hi0
  have hop := code_all hi0
  have h0 := (imgL_ok hi0).1
  have h512 := OK.len
  have l1 := H.lens.1
  have HI := Lib.hid (And.intro H (And.intro OK (And.intro hop (And.intro hq l1))))
  obtain ⟨ca, cn, cc, ka, kn, kc, na, nn, nc, pl⟩ := i
  dsimp only at l1
  rw [← l1] at h0 h512
  clear H OK hop hq hi0 l1
  dsimp only
  go_enter Tryz.func17, Tryz.ntmps17
  go_wp2_with fail
  obtain ⟨w0, hw0⟩ : ∃ w0, w0 = w.alloc (.cells #[.slice ca cn cc, .slice ka kn kc, .slice na nn nc, .int .i64 pl] 26) := ⟨_, rfl⟩
  have B0 : Below w.heap.size w w0 := by rw [hw0]; exact (Below.refl _ _).alloc (Nat.le_refl _) _
  have X0 : BoxI w0 w.heap.size ⟨ca, cn, cc, ka, kn, kc, na, nn, nc, pl⟩ := by rw [hw0]; exact heap_alloc_new _ _
  have sz0 : w0.heap.size = w.heap.size + 1 := by rw [hw0]; simp
  rw [← hw0]
  have H0 := Lib.hid (And.intro B0 (And.intro X0 sz0))
  clear hw0 B0 X0 sz0
  go_loopg [6, 7] cn (fun gk v6 v7 wr => ∃ j : Nat, v7 = .int .i64 j ∧ j ≤ cn ∧ gk = cn - j ∧ RowAt wr 3 v6 (List.replicate j (-1 : Int)) ∧ (∀ g, v6.ownBlock = some g → w0.heap.size ≤ g) ∧ Below w0.heap.size w0 wr)
  case atStart => exact ⟨0, rfl, Nat.zero_le _, rfl, RowAt.nil _ _, (fun g h => by cases h), Below.refl _ _⟩
  case round =>
    obtain ⟨j, rfl, hj, hgk, hR, hO, hB⟩ := hrel
    have XB := H0.out.2.1.below hB
    have k0 := XB.c0
    have lx := XB.lt
    dsimp only at k0
    obtain ⟨ha, hc, he⟩ := hR.slice
    rw [List.length_replicate] at he
    subst he
    have HX := Lib.hid (And.intro hgk (And.intro hR (And.intro hO hB)))
    clear hgk hR hO hB XB
    by_cases hjn : j < cn
    · have hjn' : (j : Int) < cn := by omega
      --[[h1
      go_wp2_with (at_builtin; go_must (refine wp_appW (α := Int) elemI8 rfl (.tmp 23) (.tmp 24) rfl (HX.out.2.1.alloc _) (-1) rfl rfl (heap_alloc_new _ _) (by simp; omega) (by simp; unfold maxLen; omega) ?_); intro a1 q1 w1 hr1 hk1 hf1; rw [List.length_replicate] at hr1; simp only [List.length_replicate] at hf1; have HF := Lib.hid (And.intro hr1 (And.intro hk1 hf1)); clear hr1 hk1 hf1)
      go_roundg (cn - (j + 1))
      case measure => have := HX.out.1; omega
      case rel =>
        have hb := HX.out.2.2.2
        refine ⟨j + 1, by simp, by omega, rfl, by have := HF.out.1; rwa [show List.replicate j (-1 : Int) ++ [-1] = List.replicate (j + 1) (-1) from (List.replicate_succ' ..).symm] at this, fun g hg => ?_, ?_⟩
        · rcases HF.out.2.2 g hg with h | h
          · exact HX.out.2.2.1 g h
          · have := hb.size; simp at h; omega
        · exact hb.trans (((Below.refl _ _).alloc hb.size _).trans (HF.out.2.1.below (by have := hb.size; simp; omega) (fun j hj e => by have := HX.out.2.2.1 j e; omega)))
      --]]h1
    · obtain rfl : j = cn := by omega
      have hjj : ¬ (j : Int) < j := by omega
      have hm1 : (List.replicate j (-1 : Int))[0]? = some (-1) := by rw [List.getElem?_replicate, if_pos h0]
      obtain ⟨hb, ho, rfl, hbl⟩ := HX.out.2.1.addr hm1
      have hbN := HX.out.2.2.1 hb rfl
      have h0' : (0 : Int) < j := by omega
      have fz : ∀ o, wr.frozen? ⟨hb, o, none⟩ = false := fun o => HX.out.2.1.frozen o
      have y0 := row_int HX.out.2.1 hm1
      rw [Nat.add_zero] at y0
      have S1 := HX.out.2.1.setOne hm1 (y := 0) (j := 0) (u := .int .i64 0) (by decide) rfl
      rw [show ho + (0 * sz Int + 0) = ho from by simp] at S1
      have K1 : Keeps (fun j => j = hb) wr (wr.setCell ⟨hb, ho, none⟩ (.int .i64 0)) := Keeps.setCell (S := fun j => j = hb) (p := ⟨hb, ho, none⟩) (Keeps.refl _ _) (.inl rfl) _
      have HS := Lib.hid (And.intro S1 K1)
      clear S1 K1
      --[[h2
      go_wp2_with fail
      obtain ⟨w2, hw2⟩ : ∃ w2, w2 = (wr.setCell ⟨hb, ho, none⟩ (.int .i64 0)).alloc (.cells #[.int .i64 0] 3) := ⟨_, rfl⟩
      have S2 : RowAt w2 3 (.slice (some ⟨hb, ho, none⟩) j hc) ((List.replicate j (-1 : Int)).set 0 0) := by rw [hw2]; exact HS.out.1.alloc _
      have T2 : RowAt w2 3 (.slice (some ⟨wr.heap.size, 0, none⟩) 1 1) ([] ++ [0] : List Nat) := by
        rw [hw2]
        refine RowAt.made (cs := #[.int .i64 0]) ?_ rfl rfl (by decide)
        have := heap_alloc_new (wr.setCell ⟨hb, ho, none⟩ (.int .i64 0)) (.cells #[.int .i64 0] 3)
        rwa [setCell_size] at this
      have B2 : Below w0.heap.size w0 w2 := by
        rw [hw2]
        exact (HX.out.2.2.2.trans (HS.out.2.below HX.out.2.2.2.size (fun j hj e => by omega))).alloc (by have := HX.out.2.2.2.size; rw [setCell_size]; exact this) _
      have hcs : walkL p.code = bfsL p.code (p.code.length + 1) ⟨(List.replicate j (-1 : Int)).set 0 0, [0], 0⟩ := by
        have hl := HI.out.2.2.2.2
        unfold walkL comeL
        rw [decide_eq_false (show ¬ p.code.length ≤ 0 by omega), ← hl, List.getD_eq_getElem?_getD, hm1]
        rfl
      have hqq := HI.out.2.2.2.1
      rw [hcs] at hqq
      have I2 : Inv j (j + 1) ⟨(List.replicate j (-1 : Int)).set 0 0, [0], 0⟩ := by
        have hI := comeL_inv (n := j) (f := j) (k := 0) (h := 0) (st := ⟨List.replicate j (-1), [], 0⟩) ⟨by simp, (fun x hx => by rw [(List.mem_replicate.1 hx).2]; omega), (fun k hk => by cases hk), (by rw [negs_replicate]; simp), Int.le_refl 0, (by show (0 : Int) ≤ 32; decide)⟩ (by decide) (by decide)
        have e : (comeL j 0 0 ⟨List.replicate j (-1), [], 0⟩).2 = ⟨(List.replicate j (-1 : Int)).set 0 0, [0], 0⟩ := by
          unfold comeL
          rw [decide_eq_false (show ¬ j ≤ 0 by omega), List.getD_eq_getElem?_getD, hm1]
          rfl
        rw [e] at hI
        exact ⟨hI.len, hI.all, hI.todo, by have := hI.less; omega, hI.m0, hI.m1⟩
      have H2 := Lib.hid (And.intro S2 (And.intro T2 (And.intro B2 (And.intro hqq I2))))
      have hbw : hb < wr.heap.size := hbl
      have hwN := HX.out.2.2.2.size
      rw [← hw2]
      clear S2 T2 B2 hqq I2 hcs hw2 k0 lx fz y0
      go_loopg [8, 9, 10] (j + 1) (fun gk v8 v9 v10 wr => HtRel w0 w0.heap.size j p.code q (.slice (some ⟨hb, ho, none⟩) j hc) hb gk v8 v9 v10 wr)
      case atStart => exact ⟨_, [], rfl, rfl, H2.out.1, H2.out.2.1, (fun g hg => by cases hg; exact ⟨hwN, Nat.ne_of_gt hbw⟩), H2.out.2.2.2.2, by have := H2.out.2.2.2.1; rw [← HI.out.2.2.2.2] at this; exact this, H2.out.2.2.1, by simp⟩
      case round =>
        obtain ⟨st, pre, rfl, rfl, hR, hT, hTo, hI, hF, hB, hg1⟩ := hrel
        obtain ⟨ta, tc, hv8⟩ := hT.slice
        obtain ⟨ol, hol⟩ : ∃ ol, (pre ++ st.todo).length = ol := ⟨_, rfl⟩
        rw [hol] at hv8
        subst hv8
        have XB := H0.out.2.1.below hB
        have k0 := XB.c0
        have lx := XB.lt
        dsimp only at k0
        have hlo : ol = pre.length + st.todo.length := by rw [← hol]; exact List.length_append
        have hcase : st.todo = [] ∨ ∃ k rr, st.todo = k :: rr := by cases st.todo <;> simp
        rcases hcase with hto | ⟨k, rr, hto⟩
        · have hq : ((-1, 0), st) = q := by
            cases gk with
            | zero => exact hF
            | succ f => rw [bfsL, hto] at hF; exact hF
          subst hq
          have hpp : ¬ (pre.length : Int) < ol := by rw [hlo, hto]; simp
          have HY := Lib.hid (And.intro hR hB)
          clear hR hT hTo hI hF hB hg1 hto hlo hol XB
          --[[h3
          go_wp2_with fail
          exact bodyPost_ret (v := .tuple #[.slice (some ⟨hb, ho, none⟩) j hc, .int .i64 (-1), .int .i64 0, .int .i64 st.most]) (by simp only [results, Tryz.results17]; go_simp) rfl ⟨_, _, rfl, Lib.hid ⟨H0.out.1.trans (HY.out.2.mono H0.out.1.size), fun _ => ⟨HY.out.1, rfl⟩⟩⟩
          --]]h3
        · obtain ⟨f, rfl⟩ : ∃ f, gk = f + 1 := ⟨gk - 1, by have := hI.less; rw [hto] at this; simp at this; omega⟩
          rw [bfsL, hto] at hF
          dsimp only at hF
          have hk0 : (pre ++ st.todo)[pre.length]? = some k := by rw [hto, List.getElem?_append_right (Nat.le_refl _)]; simp
          obtain ⟨x, hx, hx0⟩ := hI.todo k (by rw [hto]; exact List.mem_cons_self ..)
          have hkl : k < j := by have := (List.getElem?_eq_some_iff.1 hx).1; have := hI.len; omega
          have hll := HI.out.2.2.2.2
          obtain ⟨c, hcc⟩ := elem_at (l := p.code) (k := k) (by omega)
          rw [hcc] at hF
          dsimp only at hF
          have hcm := List.mem_of_getElem? hcc
          obtain ⟨tg, toff, rfl, htg⟩ := hT.addr hk0
          have t0 := row_nat hT hk0
          have hR0 := row_int hR hx
          obtain ⟨hg', hoff', hhe, hgl⟩ := hR.addr hx
          cases hhe
          have hlen : st.todo.length = rr.length + 1 := by rw [hto]; rfl
          have hpos : (pre.length : Int) < ol := by omega
          have BW := H0.out.1.trans (hB.mono H0.out.1.size)
          obtain ⟨g, off, e', _, hgw, hgr, m0, m1⟩ := HI.out.1.code_at BW hcc
          dsimp only at e'
          subst e'
          have okc := HI.out.2.2.1 c hcm
          have a0 := HI.out.2.1.a0 c hcm
          have tkb := HI.out.2.1.tk c hcm
          have ob := HI.out.2.1.o c hcm
          obtain ⟨op0, op1⟩ := ok_range.1 okc
          have NX := Lib.hid (fun W' (B' : Below w.heap.size w W') => rnext_any (HI.out.1.below B') k c hcc okc a0 (by omega))
          have hfl := followN_len c k
          have I2 : Inv j f { st with todo := rr } := ⟨hI.len, hI.all, (fun j hj => hI.todo j (by rw [hto]; exact List.mem_cons_of_mem _ hj)), (by have := hI.less; rw [hlen] at this; show negs st.heights + rr.length ≤ f; omega), hI.m0, hI.m1⟩
          have I3 := stepL_inv (k := k) (c := c) I2 ob.1
          have hF2 : (bif (stepL j c k { st with todo := rr }).1 != 0 then (((k : Int), (stepL j c k { st with todo := rr }).1), (stepL j c k { st with todo := rr }).2) else bfsL p.code f (stepL j c k { st with todo := rr }).2) = q := by rw [hll]; exact hF
          obtain ⟨SQ, hSQ⟩ : ∃ SQ, SQ = stepL j c k { st with todo := rr } := ⟨_, rfl⟩
          rw [← hSQ] at hF2 I3
          unfold stepL at hSQ
          rw [show ({ st with todo := rr } : KSt).heights = st.heights from rfl, List.getD_eq_getElem?_getD, hx, Option.getD_some] at hSQ
          generalize followN c k = fl at *
          obtain ⟨tk, htk⟩ : ∃ tk, takesL c = tk := ⟨_, rfl⟩
          obtain ⟨oo, hoo⟩ : ∃ oo, (ofL c.op).1.o = oo := ⟨_, rfl⟩
          obtain ⟨op, a⟩ := c
          dsimp only at m0 m1 op0 op1 hoo ob a0
          have IN := Lib.hid (rin_any op a op0 op1)
          have OU := Lib.hid (rout_any op op0 op1)
          rw [htk] at IN hSQ tkb
          rw [hoo] at OU ob
          dsimp only at hSQ
          rw [hoo] at hSQ
          have hxb := hI.all x (List.mem_of_getElem? hx)
          have hw1 : IntKind.i64.wrap (x - tk) = x - tk := IntWalk.i64_in _ (by omega)
          have hw2 : IntKind.i64.wrap (x - tk + oo) = x - tk + oo := IntWalk.i64_in _ (by omega)
          have hw1' : wrap64 (x - tk) = x - tk := by unfold wrap64; omega
          have hw2' : wrap64 (x - tk + oo) = x - tk + oo := by unfold wrap64; omega
          have hkj : (k : Int) < j := by omega
          have hpre : (pre ++ st.todo) = (pre ++ [k]) ++ rr := by rw [hto, List.append_assoc]; rfl
          have hTT := hT
          rw [hpre] at hTT
          have hplen : ol = ((pre ++ [k]) ++ rr).length := by rw [← hol, hpre]
          have HY := Lib.hid (And.intro hR (And.intro hTT (And.intro hTo (And.intro hB (And.intro hF2 (And.intro I3 (And.intro hSQ (And.intro hpre (And.intro hfl BW)))))))))
          have HZ := Lib.hid (And.intro hI.len (And.intro hI.m0 (And.intro hI.m1 (And.intro hlen (And.intro hg1 (And.intro hplen (And.intro I2.less hxb)))))))
          clear hR hT hTT hTo hB hF hF2 hI I2 I3 hSQ hto hk0 hx hcc hcm okc htk hoo hpre hlen hll hg1 hfl hlo hol XB BW hxb hplen hgw
          --[[h4
          go_wp2_with fail
          obtain ⟨w5, hw5⟩ : ∃ w5, w5 = wr.alloc (.cells #[.int .i64 op, .int .i64 a] 45) := ⟨_, rfl⟩
          have B5 : Below w0.heap.size w0 w5 := by rw [hw5]; exact HY.out.2.2.2.1.alloc HY.out.2.2.2.1.size _
          have sz5 : w5.heap.size = wr.heap.size + 1 := by rw [hw5]; simp
          have i0 : w5.cell? ⟨wr.heap.size, 0, none⟩ = some (.int .i64 op) := by rw [hw5, cell_of_heap (heap_alloc_new _ _)]; rfl
          have i1 : w5.cell? ⟨wr.heap.size, 1, none⟩ = some (.int .i64 a) := by rw [hw5, cell_of_heap (heap_alloc_new _ _)]; rfl
          have B51 : Below wr.heap.size wr w5 := by rw [hw5]; exact (Below.refl _ _).alloc (Nat.le_refl _) _
          have hR0 := (B51.cell (p := ⟨hb, ho + k, none⟩) hgl).trans hR0
          have k0 := (B51.cell (p := ⟨w.heap.size, 0, none⟩) lx).trans k0
          have hgl : hb < w5.heap.size := by omega
          have lx : w.heap.size < w5.heap.size := by omega
          have l5 : wr.heap.size < w5.heap.size := by omega
          have H5 := Lib.hid (And.intro B5 (And.intro B51 sz5))
          rw [← hw5]
          clear hw5 B5 B51 sz5 m0 m1 t0 htg hgr
          refine wp_region_ext (by kernel_rfl) (by kernel_rfl) ?_
          repeat (go_big_quiet_step ((go_at_call 42; exact ext_call (IN.out _))))
          refine wpQuiet_nil ?_
          intro w7 hB7
          have k0 := (hB7.cell (p := ⟨w.heap.size, 0, none⟩) lx).trans k0
          have i0 := (hB7.cell (p := ⟨wr.heap.size, 0, none⟩) l5).trans i0
          have i1 := (hB7.cell (p := ⟨wr.heap.size, 1, none⟩) l5).trans i1
          have lx : w.heap.size < w7.heap.size := Nat.lt_of_lt_of_le lx hB7.size
          have l5 : wr.heap.size < w7.heap.size := Nat.lt_of_lt_of_le l5 hB7.size
          have H7 := Lib.hid (H5.out.2.1.trans (hB7.mono (by have := H5.out.2.2; omega)))
          clear hB7 hR0 hgl IN
          cases c5 : decide (x - tk < 0) with
          | true =>
            have e5 : x - tk < 0 := of_decide_eq_true c5
            have hs := HY.out.2.2.2.2.2.2.1
            rw [c5] at hs
            simp only [cond_true] at hs
            have hF2 := HY.out.2.2.2.2.1
            rw [hs] at hF2
            have hF3 : (((k : Int), (131 : Int)), ({ st with todo := rr } : KSt)) = q := hF2
            subst hF3
            clear hs hF2
            --[[h5
            go_wp2_with fail
            exact bodyPost_ret (v := .tuple #[.slice none 0 0, .int .i64 k, .int .i64 131, .int .i64 0]) (by simp only [results, Tryz.results17]; go_simp) rfl ⟨_, _, rfl, Lib.hid ⟨HY.out.2.2.2.2.2.2.2.2.2.trans (H7.out.mono HY.out.2.2.2.2.2.2.2.2.2.size), fun h => by cases h⟩⟩
            --]]h5
          | false =>
            have e5 : ¬ x - tk < 0 := of_decide_eq_false c5
            have hs := HY.out.2.2.2.2.2.2.1
            rw [c5] at hs
            simp only [cond_false] at hs
            cases c6 : decide (32 < x - tk + oo) with
            | true =>
              have e6 : 32 < x - tk + oo := of_decide_eq_true c6
              rw [c6] at hs
              simp only [cond_true] at hs
              have hF2 := HY.out.2.2.2.2.1
              rw [hs] at hF2
              have hF3 : (((k : Int), (131 : Int)), ({ st with todo := rr } : KSt)) = q := hF2
              subst hF3
              clear hs hF2
              --[[h6
              go_wp2_with fail
              refine (OU.out _).mono ?_
              rintro e w8 ⟨rfl, hB8⟩
              have H8 := Lib.hid (H7.out.trans (hB8.mono H7.out.size))
              clear hB8
              go_wp2_with fail
              exact bodyPost_ret (v := .tuple #[.slice none 0 0, .int .i64 k, .int .i64 131, .int .i64 0]) (by simp only [results, Tryz.results17]; go_simp) rfl ⟨_, _, rfl, Lib.hid ⟨HY.out.2.2.2.2.2.2.2.2.2.trans (H8.out.mono HY.out.2.2.2.2.2.2.2.2.2.size), fun h => by cases h⟩⟩
              --]]h6
            | false =>
              have e6 : ¬ 32 < x - tk + oo := of_decide_eq_false c6
              rw [c6] at hs
              simp only [cond_false] at hs
              have HS3 := Lib.hid hs
              clear hs
              --[[h7
              go_wp2_with fail
              refine (OU.out _).mono ?_
              rintro e w8 ⟨rfl, hB8⟩
              have k0 := (hB8.cell (p := ⟨w.heap.size, 0, none⟩) lx).trans k0
              have i0 := (hB8.cell (p := ⟨wr.heap.size, 0, none⟩) l5).trans i0
              have i1 := (hB8.cell (p := ⟨wr.heap.size, 1, none⟩) l5).trans i1
              have lx : w.heap.size < w8.heap.size := Nat.lt_of_lt_of_le lx hB8.size
              have l5 : wr.heap.size < w8.heap.size := Nat.lt_of_lt_of_le l5 hB8.size
              have H8 := Lib.hid (H7.out.trans (hB8.mono H7.out.size))
              clear hB8
              go_wp2_with fail
              refine (OU.out _).mono ?_
              rintro e w9 ⟨rfl, hB9⟩
              have k0 := (hB9.cell (p := ⟨w.heap.size, 0, none⟩) lx).trans k0
              have lx : w.heap.size < w9.heap.size := Nat.lt_of_lt_of_le lx hB9.size
              have H9 := H8.out.trans (hB9.mono H8.out.size)
              obtain ⟨h, hh⟩ : ∃ h, h = x - tk + oo := ⟨_, rfl⟩
              have hh2 : 0 ≤ h := by omega
              have hw3 : IntKind.i64.wrap (x - tk + oo) = h := by rw [hh]; exact hw2
              have hw3' : wrap64 (x - tk + oo) = h := by rw [hh]; exact hw2'
              have hs := HS3.out
              rw [← hh] at hs
              have e6' : ¬ 32 < h := by omega
              have BN := HY.out.2.2.2.1.trans (H9.mono HY.out.2.2.2.1.size)
              have BW := H0.out.1.trans (BN.mono H0.out.1.size)
              have NN := Lib.hid (NX.out w9 BW)
              have xq : ∀ o, w9.cell? ⟨w.heap.size, o, none⟩ = (#[.slice (some ⟨g, off, none⟩) j cc, .slice ka kn kc, .slice na nn nc, .int .i64 pl] : Array Value)[o]? := fun o => by rw [cell_of_heap (H0.out.2.1.below BN)]
              have x0 := xq 0
              have x1 := xq 1
              have x2 := xq 2
              have x3 := xq 3
              simp only [List.getElem?_toArray, List.getElem?_cons_zero, List.getElem?_cons_succ] at x0 x1 x2 x3
              have HH := Lib.hid (And.intro H9 (And.intro hs (And.intro BN BW)))
              clear hB9 H9 hs hh hw2 hw2' e6 xq BN BW k0 i0 i1 l5 OU NX
              by_cases clt : st.most < h
              · have hs2 := HH.out.2.1
                rw [Int.max_eq_right (Int.le_of_lt clt)] at hs2
                have HS4 := Lib.hid hs2
                clear hs2 HS3
                --[[ha
                go_wp2_with fail
                clear clt
                refine NN.out.mono ?_
                rintro e w10 ⟨fv, rfl, hfr, hff, hB10⟩
                obtain ⟨fa, fc, rfl⟩ := hfr.slice
                have BR := HH.out.1.trans (hB10.mono HH.out.1.size)
                have HF := Lib.hid (And.intro hfr (And.intro hff (And.intro hB10 (And.intro BR (HY.out.2.2.2.1.trans (BR.mono HY.out.2.2.2.1.size))))))
                have hfl := HY.out.2.2.2.2.2.2.2.2.1
                clear hfr hff hB10 BR NN x1 x2 x3 x0 hw1 hw1' hw3 hw3'
                go_wp2_with fail
                go_loopg [15, 8] (fl.length) (fun gk v15 v8 wz => HiRel w0 w0.heap.size j (.slice fa fl.length fc) fl (pre ++ [k]) h SQ h (.slice (some ⟨hb, ho, none⟩) j hc) hb gk v15 v8 wz)
                case atStart =>
                  have hzl := HZ.out.1
                  refine ⟨0, { { st with todo := rr } with most := h }, rfl, Nat.zero_le _, rfl, HY.out.1.below HF.out.2.2.2.1, ?_, fun g hg => ⟨(HY.out.2.2.1 g hg).1, (HY.out.2.2.1 g hg).2, fun e => ?_⟩, by rw [List.drop_zero]; exact HS4.out.symm, HF.out.1, HF.out.2.2.2.2, rfl, hzl, ?_⟩
                  · exact HY.out.2.1.below HF.out.2.2.2.1
                  · have h1 := HF.out.2.1 g e
                    have h2 := HY.out.2.1.lt hg
                    have h3 := HH.out.1.size
                    omega
                  · have := HZ.out.2.2.2.2.2.2.1
                    have := HZ.out.2.2.2.2.1
                    show rr.length ≤ 600 + 0
                    omega
                case round =>
                  obtain ⟨jj, st', rfl, hji, hgk, hR, hT, hTo, hco, hfr, hB, hmm, hln, htl⟩ := hrel
                  have XB := H0.out.2.1.below hB
                  have k0 := XB.c0
                  have lx := XB.lt
                  dsimp only at k0
                  have HJW := Lib.hid (show wrap64 ((jj : Int) + 1) = (jj : Int) + 1 from by unfold wrap64; omega)
                  by_cases hin : jj < fl.length
                  · obtain ⟨y, hy⟩ := elem_at hin
                    have hdr : fl.drop jj = y :: fl.drop (jj + 1) := by
                      rw [List.drop_eq_getElem_cons (List.getElem?_eq_some_iff.1 hy).1, (List.getElem?_eq_some_iff.1 hy).2]
                    rw [hdr, comesL] at hco
                    obtain ⟨fg, foff, rfl, hfg⟩ := hfr.addr hy
                    have z0 := row_nat hfr hy
                    have hin' : (jj : Int) < fl.length := by omega
                    have hj1 : jj + 1 ≤ fl.length := by omega
                    have HMS := Lib.hid (show fl.length - (jj + 1) < fl.length - jj from by omega)
                    by_cases hyn : j ≤ y
                    · have hyn' : (j : Int) ≤ y := by omega
                      have hce : comeL j y h st' = (132, st') := by unfold comeL; rw [decide_eq_true hyn]; rfl
                      rw [hce] at hco
                      have hSQ : (132, st') = SQ := hco
                      have hF2 := HY.out.2.2.2.2.1
                      rw [← hSQ] at hF2
                      have hF3 : (((k : Int), (132 : Int)), st') = q := hF2
                      have HQ := Lib.hid (And.intro hF3 hB)
                      clear hco hSQ hF2 hF3 hce hR hT hTo hfr hB hgk hdr hy XB
                      --[[i1
                      go_wp2_with fail
                      go_region
                      go_wp2_with fail
                      exact bodyPost_ret (v := .tuple #[.slice none 0 0, .int .i64 k, .int .i64 132, .int .i64 0]) (by simp only [results, Tryz.results17]; go_simp) rfl ⟨_, _, by rw [← HQ.out.1], Lib.hid ⟨(H0.out.1.trans (HQ.out.2.mono H0.out.1.size)).drew, fun h => by rw [← HQ.out.1] at h; cases h⟩⟩
                      --]]i1
                    · have hyn' : ¬ (j : Int) ≤ y := by omega
                      have hyj : (y : Int) < j := by omega
                      obtain ⟨z, hz⟩ := elem_at (l := st'.heights) (k := y) (by omega)
                      have r0 := row_int hR hz
                      have hbr : hb < wr.heap.size := hR.lt rfl
                      have fz : ∀ o, wr.frozen? ⟨hb, o, none⟩ = false := fun o => hR.frozen o
                      by_cases hzn : z < 0
                      · have hce : comeL j y h st' = (0, { st' with heights := st'.heights.set y h, todo := st'.todo ++ [y] }) := by
                          unfold comeL
                          rw [decide_eq_false hyn, List.getD_eq_getElem?_getD, hz, Option.getD_some, decide_eq_true hzn]
                          rfl
                        rw [hce] at hco
                        simp only [bne_self_eq_false, cond_false] at hco
                        have S7 := hR.setOne hz (y := h) (j := 0) (u := .int .i64 h) (by decide) rfl
                        rw [show ho + (y * sz Int + 0) = ho + y from by simp [Cells.sz]] at S7
                        have K8 : Keeps (fun j => j = hb) wr (wr.setCell ⟨hb, ho + y, none⟩ (.int .i64 h)) := Keeps.setCell (S := fun j => j = hb) (p := ⟨hb, ho + y, none⟩) (Keeps.refl _ _) (.inl rfl) _
                        obtain ⟨za, zc, hv8⟩ := hT.slice
                        obtain ⟨zl, hzl⟩ : ∃ zl, ((pre ++ [k]) ++ st'.todo).length = zl := ⟨_, rfl⟩
                        rw [hzl] at hv8
                        subst hv8
                        have T7 := hT.keep K8 (fun g hg e => (hTo g hg).2.1 e)
                        have AN := Lib.hid (show ((wr.setCell ⟨hb, ho + y, none⟩ (.int .i64 h)).alloc (.cells #[.int .i64 y] 3)).drew.heap[wr.heap.size]? = some (.cells (Cells.enc y).toArray 3 (0, 0)) from by
                          have := heap_alloc_new (wr.setCell ⟨hb, ho + y, none⟩ (.int .i64 h)) (.cells #[.int .i64 y] 3)
                          rwa [setCell_size] at this)
                        have hlt : zl ≤ 2000 := by
                          rw [← hzl]
                          have := HZ.out.2.2.2.2.1
                          simp only [List.length_append, List.length_singleton]
                          omega
                        have HA := Lib.hid (And.intro S7 (And.intro T7 (And.intro K8 (And.intro hco (And.intro hgk (And.intro hTo (And.intro hfr (And.intro hB (And.intro hmm (And.intro hln htl))))))))))
                        have hhx : (h != h) = false := by simp
                        have nfb : ¬ fg = hb := by have := HF.out.2.1 fg rfl; have := HH.out.1.size; have := HY.out.1.lt (g := hb) rfl; omega
                        have nbf : ¬ hb = fg := fun e => nfb e.symm
                        have hrow : (wr.setCell ⟨hb, ho + y, none⟩ (.int .i64 h)).heap.size = wr.heap.size := setCell_size _ _ _
                        have HRW := Lib.hid hrow
                        have HZL := Lib.hid hzl
                        have HYJ := Lib.hid hy
                        have HYL := Lib.hid (show y < st'.heights.length from (List.getElem?_eq_some_iff.1 hz).1)
                        clear S7 T7 K8 hco hgk hR hT hTo hfr hB hce hdr hy hz XB hrow hmm hln htl hzl
                        --[[i2
                        go_wp2_with fail
                        go_region
                        go_wp2_with (at_builtin; go_must (refine wp_appW (α := Nat) elemN rfl (.tmp 104) (.tmp 109) rfl ((HA.out.2.1.alloc _).drew) y rfl rfl AN.out (by rw [HZL.out]; omega) (by rw [HZL.out]; unfold maxLen; omega) ?_); intro a1 q1 w8 hr1 hk1 hf1; rw [HZL.out] at hr1 hf1 ⊢; have H8 := Lib.hid (And.intro hr1 (And.intro hk1 hf1)); have hTo := HA.out.2.2.2.2.2.1; have hnb : ¬ (Value.slice za zl zc).ownBlock = some hb := (fun e => (hTo hb e).2.1 rfl); have hnf : ¬ (Value.slice za zl zc).ownBlock = some fg := (fun e => (hTo fg e).2.2 rfl); have RW := ((HA.out.1.alloc (.cells #[.int .i64 y] 3)).drew).keep hk1 (fun g hg e => by { cases hg; exact hnb e }); have FW := (((HA.out.2.2.2.2.2.2.1.keep HA.out.2.2.1 (fun gz hg e => by { have e : gz = hb := e; have := HF.out.2.1 gz hg; have := HH.out.1.size; have := HY.out.1.lt (g := hb) rfl; omega })).alloc (.cells #[.int .i64 y] 3)).drew).keep hk1 (fun g hg e => by { cases hg; exact hnf e }); have HRF := Lib.hid (And.intro RW FW); have ry := row_int RW (i := y) (x := h) (by { rw [List.getElem?_set_self HYL.out] }); have zy := row_nat FW (i := jj) (x := y) HYJ.out; have hbr8 : hb < w8.heap.size := RW.lt rfl; have fgr8 : fg < w8.heap.size := FW.lt rfl; clear hr1 hk1 hf1 RW FW hTo hnb hnf)
                        go_roundg (fl.length - (jj + 1))
                        case measure => rw [HA.out.2.2.2.2.1]; exact HMS.out
                        case rel =>
                          have hT8 := HA.out.2.2.2.2.2.1
                          refine ⟨jj + 1, { st' with heights := st'.heights.set y h, todo := st'.todo ++ [y] }, by simp, hj1, rfl, HRF.out.1, ?_, fun g hg => ?_, HA.out.2.2.2.1, HRF.out.2, ?_, HA.out.2.2.2.2.2.2.2.2.1, ?_, ?_⟩
                          · have := H8.out.1
                            rwa [List.append_assoc] at this
                          · rcases H8.out.2.2 g hg with e | e
                            · exact hT8 g e
                            · have hsz : wr.heap.size + 1 ≤ g := by
                                have e : ((wr.setCell ⟨hb, ho + y, none⟩ (.int .i64 h)).alloc (.cells #[.int .i64 y] 3)).heap.size ≤ g := e
                                rw [alloc_sz, setCell_size] at e
                                exact e
                              refine ⟨?_, ?_, fun e2 => ?_⟩
                              · have := HA.out.2.2.2.2.2.2.2.1.size; omega
                              · have := HA.out.1.lt (g := hb) rfl
                                rw [setCell_size] at this
                                omega
                              · have := HA.out.2.2.2.2.2.2.1.lt e2
                                omega
                          · refine HA.out.2.2.2.2.2.2.2.1.trans ((HA.out.2.2.1.below HA.out.2.2.2.2.2.2.2.1.size (fun jz hj e => ?_)).trans ((((Below.refl _ _).alloc (by rw [setCell_size]; exact HA.out.2.2.2.2.2.2.2.1.size) _).drew).trans (H8.out.2.1.below (by show _ ≤ (World.alloc _ _).heap.size; rw [alloc_sz, setCell_size]; have := HA.out.2.2.2.2.2.2.2.1.size; omega) (fun jz hj e => ?_))))
                            · have e : jz = hb := e
                              omega
                            · have := (hT8 jz e).1
                              omega
                          · show (st'.heights.set y h).length = j
                            rw [List.length_set]
                            exact HA.out.2.2.2.2.2.2.2.2.2.1
                          · have := HA.out.2.2.2.2.2.2.2.2.2.2
                            show (st'.todo ++ [y]).length ≤ _
                            rw [List.length_append, List.length_singleton]
                            omega
                        --]]i2
                      · have hzn' : ¬ z < 0 := hzn
                        by_cases hzh : z = h
                        · have hce : comeL j y h st' = (0, st') := by
                            unfold comeL
                            rw [decide_eq_false hyn, List.getD_eq_getElem?_getD, hz, Option.getD_some, decide_eq_false hzn]
                            simp only [cond_false]
                            rw [show (z != h) = false by simpa using hzh]
                            rfl
                          rw [hce] at hco
                          simp only [bne_self_eq_false, cond_false] at hco
                          have e1 : (z != h) = false := by simpa using hzh
                          have e2 : (z == h) = true := by simpa using hzh
                          have HQ := Lib.hid (And.intro hR (And.intro hT (And.intro hTo (And.intro hco (And.intro hfr (And.intro hB (And.intro hmm (And.intro hln (And.intro htl hgk)))))))))
                          clear hR hT hTo hco hfr hB hmm hln htl hgk hce hdr hy hz XB hzh
                          --[[i3
                          go_wp2_with fail
                          go_region
                          go_wp2_with fail
                          go_roundg (fl.length - (jj + 1))
                          case measure => rw [HQ.out.2.2.2.2.2.2.2.2.2]; exact HMS.out
                          case rel => exact ⟨jj + 1, st', by simp, hj1, rfl, HQ.out.1.drew, HQ.out.2.1.drew, HQ.out.2.2.1, HQ.out.2.2.2.1, HQ.out.2.2.2.2.1.drew, HQ.out.2.2.2.2.2.1.drew, HQ.out.2.2.2.2.2.2.1, HQ.out.2.2.2.2.2.2.2.1, Nat.le_succ_of_le HQ.out.2.2.2.2.2.2.2.2.1⟩
                          --]]i3
                        · have hce : comeL j y h st' = (131, st') := by
                            unfold comeL
                            rw [decide_eq_false hyn, List.getD_eq_getElem?_getD, hz, Option.getD_some, decide_eq_false hzn]
                            simp only [cond_false]
                            rw [show (z != h) = true by simpa using hzh]
                            rfl
                          rw [hce] at hco
                          have hSQ : (131, st') = SQ := hco
                          have hF2 := HY.out.2.2.2.2.1
                          rw [← hSQ] at hF2
                          have hF3 : (((k : Int), (131 : Int)), st') = q := hF2
                          have e1 : (z != h) = true := by simpa using hzh
                          have e2 : (z == h) = false := by simpa using hzh
                          have HQ := Lib.hid (And.intro hF3 hB)
                          clear hco hSQ hF2 hF3 hce hR hT hTo hfr hB hgk hdr hy hz XB hzh
                          --[[i4
                          go_wp2_with fail
                          go_region
                          go_wp2_with fail
                          exact bodyPost_ret (v := .tuple #[.slice none 0 0, .int .i64 k, .int .i64 131, .int .i64 0]) (by simp only [results, Tryz.results17]; go_simp) rfl ⟨_, _, by rw [← HQ.out.1], Lib.hid ⟨(H0.out.1.trans (HQ.out.2.mono H0.out.1.size)).drew, fun h => by rw [← HQ.out.1] at h; cases h⟩⟩
                          --]]i4
                  · obtain rfl : jj = fl.length := by omega
                    rw [List.drop_eq_nil_of_le (Nat.le_refl _), comesL] at hco
                    have hff : ¬ (fl.length : Int) < fl.length := by omega
                    have HQ := Lib.hid (And.intro hR (And.intro hT (And.intro hTo (And.intro hco (And.intro hB hmm)))))
                    clear hR hT hTo hco hfr hB hmm hln htl hgk XB
                    --[[i5
                    go_wp2_with fail
                    go_roundg f
                    case measure => omega
                    case rel =>
                      have hSQ := HQ.out.2.2.2.1
                      have hF2 := HY.out.2.2.2.2.1
                      have I3 := HY.out.2.2.2.2.2.1
                      rw [← hSQ] at hF2 I3
                      refine ⟨st', pre ++ [k], by rw [HQ.out.2.2.2.2.2], by have := HZ.out.2.2.2.2.1; simp; unfold wrap64; omega, HQ.out.1, HQ.out.2.1, fun g hg => ⟨(HQ.out.2.2.1 g hg).1, (HQ.out.2.2.1 g hg).2.1⟩, I3, hF2, HQ.out.2.2.2.2.1, ?_⟩
                      have := HZ.out.2.2.2.2.1
                      simp only [List.length_append, List.length_singleton]
                      omega
                    --]]i5
                --]]ha
              · have hs2 := HH.out.2.1
                rw [Int.max_eq_left (by omega)] at hs2
                have HS4 := Lib.hid hs2
                clear hs2 HS3
                --[[hb
                go_wp2_with fail
                clear clt
                refine NN.out.mono ?_
                rintro e w10 ⟨fv, rfl, hfr, hff, hB10⟩
                obtain ⟨fa, fc, rfl⟩ := hfr.slice
                have BR := HH.out.1.trans (hB10.mono HH.out.1.size)
                have HF := Lib.hid (And.intro hfr (And.intro hff (And.intro hB10 (And.intro BR (HY.out.2.2.2.1.trans (BR.mono HY.out.2.2.2.1.size))))))
                have hfl := HY.out.2.2.2.2.2.2.2.2.1
                clear hfr hff hB10 BR NN x1 x2 x3 x0 hw1 hw1' hw3 hw3'
                go_wp2_with fail
                go_loopg [15, 8] (fl.length) (fun gk v15 v8 wz => HiRel w0 w0.heap.size j (.slice fa fl.length fc) fl (pre ++ [k]) h SQ st.most (.slice (some ⟨hb, ho, none⟩) j hc) hb gk v15 v8 wz)
                case atStart =>
                  have hzl := HZ.out.1
                  refine ⟨0, { { st with todo := rr } with most := st.most }, rfl, Nat.zero_le _, rfl, HY.out.1.below HF.out.2.2.2.1, ?_, fun g hg => ⟨(HY.out.2.2.1 g hg).1, (HY.out.2.2.1 g hg).2, fun e => ?_⟩, by rw [List.drop_zero]; exact HS4.out.symm, HF.out.1, HF.out.2.2.2.2, rfl, hzl, ?_⟩
                  · exact HY.out.2.1.below HF.out.2.2.2.1
                  · have h1 := HF.out.2.1 g e
                    have h2 := HY.out.2.1.lt hg
                    have h3 := HH.out.1.size
                    omega
                  · have := HZ.out.2.2.2.2.2.2.1
                    have := HZ.out.2.2.2.2.1
                    show rr.length ≤ 600 + 0
                    omega
                case round =>
                  obtain ⟨jj, st', rfl, hji, hgk, hR, hT, hTo, hco, hfr, hB, hmm, hln, htl⟩ := hrel
                  have XB := H0.out.2.1.below hB
                  have k0 := XB.c0
                  have lx := XB.lt
                  dsimp only at k0
                  have HJW := Lib.hid (show wrap64 ((jj : Int) + 1) = (jj : Int) + 1 from by unfold wrap64; omega)
                  by_cases hin : jj < fl.length
                  · obtain ⟨y, hy⟩ := elem_at hin
                    have hdr : fl.drop jj = y :: fl.drop (jj + 1) := by
                      rw [List.drop_eq_getElem_cons (List.getElem?_eq_some_iff.1 hy).1, (List.getElem?_eq_some_iff.1 hy).2]
                    rw [hdr, comesL] at hco
                    obtain ⟨fg, foff, rfl, hfg⟩ := hfr.addr hy
                    have z0 := row_nat hfr hy
                    have hin' : (jj : Int) < fl.length := by omega
                    have hj1 : jj + 1 ≤ fl.length := by omega
                    have HMS := Lib.hid (show fl.length - (jj + 1) < fl.length - jj from by omega)
                    by_cases hyn : j ≤ y
                    · have hyn' : (j : Int) ≤ y := by omega
                      have hce : comeL j y h st' = (132, st') := by unfold comeL; rw [decide_eq_true hyn]; rfl
                      rw [hce] at hco
                      have hSQ : (132, st') = SQ := hco
                      have hF2 := HY.out.2.2.2.2.1
                      rw [← hSQ] at hF2
                      have hF3 : (((k : Int), (132 : Int)), st') = q := hF2
                      have HQ := Lib.hid (And.intro hF3 hB)
                      clear hco hSQ hF2 hF3 hce hR hT hTo hfr hB hgk hdr hy XB
                      --[[i1
                      go_wp2_with fail
                      go_region
                      go_wp2_with fail
                      exact bodyPost_ret (v := .tuple #[.slice none 0 0, .int .i64 k, .int .i64 132, .int .i64 0]) (by simp only [results, Tryz.results17]; go_simp) rfl ⟨_, _, by rw [← HQ.out.1], Lib.hid ⟨(H0.out.1.trans (HQ.out.2.mono H0.out.1.size)).drew, fun h => by rw [← HQ.out.1] at h; cases h⟩⟩
                      --]]i1
                    · have hyn' : ¬ (j : Int) ≤ y := by omega
                      have hyj : (y : Int) < j := by omega
                      obtain ⟨z, hz⟩ := elem_at (l := st'.heights) (k := y) (by omega)
                      have r0 := row_int hR hz
                      have hbr : hb < wr.heap.size := hR.lt rfl
                      have fz : ∀ o, wr.frozen? ⟨hb, o, none⟩ = false := fun o => hR.frozen o
                      by_cases hzn : z < 0
                      · have hce : comeL j y h st' = (0, { st' with heights := st'.heights.set y h, todo := st'.todo ++ [y] }) := by
                          unfold comeL
                          rw [decide_eq_false hyn, List.getD_eq_getElem?_getD, hz, Option.getD_some, decide_eq_true hzn]
                          rfl
                        rw [hce] at hco
                        simp only [bne_self_eq_false, cond_false] at hco
                        have S7 := hR.setOne hz (y := h) (j := 0) (u := .int .i64 h) (by decide) rfl
                        rw [show ho + (y * sz Int + 0) = ho + y from by simp [Cells.sz]] at S7
                        have K8 : Keeps (fun j => j = hb) wr (wr.setCell ⟨hb, ho + y, none⟩ (.int .i64 h)) := Keeps.setCell (S := fun j => j = hb) (p := ⟨hb, ho + y, none⟩) (Keeps.refl _ _) (.inl rfl) _
                        obtain ⟨za, zc, hv8⟩ := hT.slice
                        obtain ⟨zl, hzl⟩ : ∃ zl, ((pre ++ [k]) ++ st'.todo).length = zl := ⟨_, rfl⟩
                        rw [hzl] at hv8
                        subst hv8
                        have T7 := hT.keep K8 (fun g hg e => (hTo g hg).2.1 e)
                        have AN := Lib.hid (show ((wr.setCell ⟨hb, ho + y, none⟩ (.int .i64 h)).alloc (.cells #[.int .i64 y] 3)).drew.heap[wr.heap.size]? = some (.cells (Cells.enc y).toArray 3 (0, 0)) from by
                          have := heap_alloc_new (wr.setCell ⟨hb, ho + y, none⟩ (.int .i64 h)) (.cells #[.int .i64 y] 3)
                          rwa [setCell_size] at this)
                        have hlt : zl ≤ 2000 := by
                          rw [← hzl]
                          have := HZ.out.2.2.2.2.1
                          simp only [List.length_append, List.length_singleton]
                          omega
                        have HA := Lib.hid (And.intro S7 (And.intro T7 (And.intro K8 (And.intro hco (And.intro hgk (And.intro hTo (And.intro hfr (And.intro hB (And.intro hmm (And.intro hln htl))))))))))
                        have hhx : (h != h) = false := by simp
                        have nfb : ¬ fg = hb := by have := HF.out.2.1 fg rfl; have := HH.out.1.size; have := HY.out.1.lt (g := hb) rfl; omega
                        have nbf : ¬ hb = fg := fun e => nfb e.symm
                        have hrow : (wr.setCell ⟨hb, ho + y, none⟩ (.int .i64 h)).heap.size = wr.heap.size := setCell_size _ _ _
                        have HRW := Lib.hid hrow
                        have HZL := Lib.hid hzl
                        have HYJ := Lib.hid hy
                        have HYL := Lib.hid (show y < st'.heights.length from (List.getElem?_eq_some_iff.1 hz).1)
                        clear S7 T7 K8 hco hgk hR hT hTo hfr hB hce hdr hy hz XB hrow hmm hln htl hzl
                        --[[i2
                        go_wp2_with fail
                        go_region
                        go_wp2_with (at_builtin; go_must (refine wp_appW (α := Nat) elemN rfl (.tmp 104) (.tmp 109) rfl ((HA.out.2.1.alloc _).drew) y rfl rfl AN.out (by rw [HZL.out]; omega) (by rw [HZL.out]; unfold maxLen; omega) ?_); intro a1 q1 w8 hr1 hk1 hf1; rw [HZL.out] at hr1 hf1 ⊢; have H8 := Lib.hid (And.intro hr1 (And.intro hk1 hf1)); have hTo := HA.out.2.2.2.2.2.1; have hnb : ¬ (Value.slice za zl zc).ownBlock = some hb := (fun e => (hTo hb e).2.1 rfl); have hnf : ¬ (Value.slice za zl zc).ownBlock = some fg := (fun e => (hTo fg e).2.2 rfl); have RW := ((HA.out.1.alloc (.cells #[.int .i64 y] 3)).drew).keep hk1 (fun g hg e => by { cases hg; exact hnb e }); have FW := (((HA.out.2.2.2.2.2.2.1.keep HA.out.2.2.1 (fun gz hg e => by { have e : gz = hb := e; have := HF.out.2.1 gz hg; have := HH.out.1.size; have := HY.out.1.lt (g := hb) rfl; omega })).alloc (.cells #[.int .i64 y] 3)).drew).keep hk1 (fun g hg e => by { cases hg; exact hnf e }); have HRF := Lib.hid (And.intro RW FW); have ry := row_int RW (i := y) (x := h) (by { rw [List.getElem?_set_self HYL.out] }); have zy := row_nat FW (i := jj) (x := y) HYJ.out; have hbr8 : hb < w8.heap.size := RW.lt rfl; have fgr8 : fg < w8.heap.size := FW.lt rfl; clear hr1 hk1 hf1 RW FW hTo hnb hnf)
                        go_roundg (fl.length - (jj + 1))
                        case measure => rw [HA.out.2.2.2.2.1]; exact HMS.out
                        case rel =>
                          have hT8 := HA.out.2.2.2.2.2.1
                          refine ⟨jj + 1, { st' with heights := st'.heights.set y h, todo := st'.todo ++ [y] }, by simp, hj1, rfl, HRF.out.1, ?_, fun g hg => ?_, HA.out.2.2.2.1, HRF.out.2, ?_, HA.out.2.2.2.2.2.2.2.2.1, ?_, ?_⟩
                          · have := H8.out.1
                            rwa [List.append_assoc] at this
                          · rcases H8.out.2.2 g hg with e | e
                            · exact hT8 g e
                            · have hsz : wr.heap.size + 1 ≤ g := by
                                have e : ((wr.setCell ⟨hb, ho + y, none⟩ (.int .i64 h)).alloc (.cells #[.int .i64 y] 3)).heap.size ≤ g := e
                                rw [alloc_sz, setCell_size] at e
                                exact e
                              refine ⟨?_, ?_, fun e2 => ?_⟩
                              · have := HA.out.2.2.2.2.2.2.2.1.size; omega
                              · have := HA.out.1.lt (g := hb) rfl
                                rw [setCell_size] at this
                                omega
                              · have := HA.out.2.2.2.2.2.2.1.lt e2
                                omega
                          · refine HA.out.2.2.2.2.2.2.2.1.trans ((HA.out.2.2.1.below HA.out.2.2.2.2.2.2.2.1.size (fun jz hj e => ?_)).trans ((((Below.refl _ _).alloc (by rw [setCell_size]; exact HA.out.2.2.2.2.2.2.2.1.size) _).drew).trans (H8.out.2.1.below (by show _ ≤ (World.alloc _ _).heap.size; rw [alloc_sz, setCell_size]; have := HA.out.2.2.2.2.2.2.2.1.size; omega) (fun jz hj e => ?_))))
                            · have e : jz = hb := e
                              omega
                            · have := (hT8 jz e).1
                              omega
                          · show (st'.heights.set y h).length = j
                            rw [List.length_set]
                            exact HA.out.2.2.2.2.2.2.2.2.2.1
                          · have := HA.out.2.2.2.2.2.2.2.2.2.2
                            show (st'.todo ++ [y]).length ≤ _
                            rw [List.length_append, List.length_singleton]
                            omega
                        --]]i2
                      · have hzn' : ¬ z < 0 := hzn
                        by_cases hzh : z = h
                        · have hce : comeL j y h st' = (0, st') := by
                            unfold comeL
                            rw [decide_eq_false hyn, List.getD_eq_getElem?_getD, hz, Option.getD_some, decide_eq_false hzn]
                            simp only [cond_false]
                            rw [show (z != h) = false by simpa using hzh]
                            rfl
                          rw [hce] at hco
                          simp only [bne_self_eq_false, cond_false] at hco
                          have e1 : (z != h) = false := by simpa using hzh
                          have e2 : (z == h) = true := by simpa using hzh
                          have HQ := Lib.hid (And.intro hR (And.intro hT (And.intro hTo (And.intro hco (And.intro hfr (And.intro hB (And.intro hmm (And.intro hln (And.intro htl hgk)))))))))
                          clear hR hT hTo hco hfr hB hmm hln htl hgk hce hdr hy hz XB hzh
                          --[[i3
                          go_wp2_with fail
                          go_region
                          go_wp2_with fail
                          go_roundg (fl.length - (jj + 1))
                          case measure => rw [HQ.out.2.2.2.2.2.2.2.2.2]; exact HMS.out
                          case rel => exact ⟨jj + 1, st', by simp, hj1, rfl, HQ.out.1.drew, HQ.out.2.1.drew, HQ.out.2.2.1, HQ.out.2.2.2.1, HQ.out.2.2.2.2.1.drew, HQ.out.2.2.2.2.2.1.drew, HQ.out.2.2.2.2.2.2.1, HQ.out.2.2.2.2.2.2.2.1, Nat.le_succ_of_le HQ.out.2.2.2.2.2.2.2.2.1⟩
                          --]]i3
                        · have hce : comeL j y h st' = (131, st') := by
                            unfold comeL
                            rw [decide_eq_false hyn, List.getD_eq_getElem?_getD, hz, Option.getD_some, decide_eq_false hzn]
                            simp only [cond_false]
                            rw [show (z != h) = true by simpa using hzh]
                            rfl
                          rw [hce] at hco
                          have hSQ : (131, st') = SQ := hco
                          have hF2 := HY.out.2.2.2.2.1
                          rw [← hSQ] at hF2
                          have hF3 : (((k : Int), (131 : Int)), st') = q := hF2
                          have e1 : (z != h) = true := by simpa using hzh
                          have e2 : (z == h) = false := by simpa using hzh
                          have HQ := Lib.hid (And.intro hF3 hB)
                          clear hco hSQ hF2 hF3 hce hR hT hTo hfr hB hgk hdr hy hz XB hzh
                          --[[i4
                          go_wp2_with fail
                          go_region
                          go_wp2_with fail
                          exact bodyPost_ret (v := .tuple #[.slice none 0 0, .int .i64 k, .int .i64 131, .int .i64 0]) (by simp only [results, Tryz.results17]; go_simp) rfl ⟨_, _, by rw [← HQ.out.1], Lib.hid ⟨(H0.out.1.trans (HQ.out.2.mono H0.out.1.size)).drew, fun h => by rw [← HQ.out.1] at h; cases h⟩⟩
                          --]]i4
                  · obtain rfl : jj = fl.length := by omega
                    rw [List.drop_eq_nil_of_le (Nat.le_refl _), comesL] at hco
                    have hff : ¬ (fl.length : Int) < fl.length := by omega
                    have HQ := Lib.hid (And.intro hR (And.intro hT (And.intro hTo (And.intro hco (And.intro hB hmm)))))
                    clear hR hT hTo hco hfr hB hmm hln htl hgk XB
                    --[[i5
                    go_wp2_with fail
                    go_roundg f
                    case measure => omega
                    case rel =>
                      have hSQ := HQ.out.2.2.2.1
                      have hF2 := HY.out.2.2.2.2.1
                      have I3 := HY.out.2.2.2.2.2.1
                      rw [← hSQ] at hF2 I3
                      refine ⟨st', pre ++ [k], by rw [HQ.out.2.2.2.2.2], by have := HZ.out.2.2.2.2.1; simp; unfold wrap64; omega, HQ.out.1, HQ.out.2.1, fun g hg => ⟨(HQ.out.2.2.1 g hg).1, (HQ.out.2.2.1 g hg).2.1⟩, I3, hF2, HQ.out.2.2.2.2.1, ?_⟩
                      have := HZ.out.2.2.2.2.1
                      simp only [List.length_append, List.length_singleton]
                      omega
                    --]]i5
                --]]hb
              --]]h7
          --]]h4
      --]]h2
end Go.Proofs.YtielnengimninaaGreatDoor
