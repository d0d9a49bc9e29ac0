/- VerifyWalks, walked. -/
import Derived.Test.YtielnengimninaaGreatDoorV36
import Derived.Test.YtielnengimninaaGreatDoorV28
namespace Go.Proofs.YtielnengimninaaGreatDoor
open Go.RowKit Go.Own Go.Own.MapTy Go.Va Go.Sort
open Go.Own.Cells (sz enc)
theorem open_bools {H : Type} {tok : TypeId × Value → H} {w : World} {base : Nat} {spare : Nat → Bool} {held : Bool} {a : Option Addr} {len cap : Nat} {d : DataW H} {p : List MemPlace} (h : DataW.Trod tok Tryz.prog w base spare held 43 (.slice a len cap) d p) : ∃ bs : List Bool, RdF (fun j => j < w.heap.size) w (.slice a len cap) bs := by
  obtain ⟨fuel, hf⟩ := h
  obtain ⟨a', len', cap', e, ys, hr, _⟩ := open_rd (α := Bool) (Q := fun _ => True) Tryz.underlying43 (show Tryz.prog.cellsOf 4 = 1 by kernel_rfl) (by decide) false (fun m _ cs x hcl ht => by
    obtain ⟨b, e, _⟩ := DataW.trod_bool Tryz.underlying4 ht
    exact ⟨b, e, trivial⟩) hf
  simp [Value.cells] at e
  obtain ⟨rfl, rfl, rfl⟩ := e
  exact ⟨ys, hr⟩
/-- what a program that may be is known by -/
structure Known (p : Img) (fa : Fa) : Prop where
  img : imgL p = 0
  len : fa.heights.length = p.code.length
  zero : fa.heights[0]? = some 0
  most : 0 ≤ fa.most
  low : ∀ (k : Nat) (h : Int), fa.heights[k]? = some h → -1 ≤ h ∧ h ≤ 32
  done : ∀ (k : Nat) (h : Int), fa.heights[k]? = some h → 0 ≤ h → DoneAt p.code fa.heights fa.most k h
  dn : ∀ (k : Nat) (h : Int), fa.heights[k]? = some h → 0 ≤ h → dnF p.code (p.code.length + 1) k
  span : ∀ (k : Nat) (h : Int), fa.heights[k]? = some h → 0 ≤ h → ((spF p.code (p.code.length + 1) k : Nat) : Int) ≤ fa.span
theorem checkG_law {p : Img} {fa : Fa} {a e : Int} (h : checkG p = (fa, a, e)) : (e ≠ 0 → fa = noFa) ∧ (e = 0 → a = -1 ∧ Known p fa) := by
  unfold checkG at h
  cases h1 : (imgL p != 0) with
  | true =>
    rw [h1] at h
    simp only [cond_true, Prod.mk.injEq] at h
    exact ⟨fun _ => h.1.symm, fun e0 => by rw [← h.2.2] at e0; rw [e0] at h1; cases h1⟩
  | false =>
    have hi : imgL p = 0 := by simpa using h1
    have OK := codeOk_of hi
    rw [h1] at h
    simp only [cond_false] at h
    cases h2 : ((walkL p.code).1.2 != 0) with
    | true =>
      rw [h2] at h
      simp only [cond_true, Prod.mk.injEq] at h
      have h5 : (walkL p.code).1.2 = e := congrArg Prod.snd h.2
      exact ⟨fun _ => h.1.symm, fun e0 => by rw [h5, e0] at h2; cases h2⟩
    | false =>
      rw [h2] at h
      simp only [cond_false] at h
      obtain ⟨_, WD⟩ := walkL_law OK (by simpa using h2)
      generalize (walkL p.code).2 = st at h WD
      cases h3 : firstR p.code 0 st.heights with
      | some k =>
        rw [h3] at h
        simp only [Prod.mk.injEq] at h
        exact ⟨fun _ => h.1.symm, fun e0 => by have := h.2.2; omega⟩
      | none =>
        rw [h3] at h
        simp only [Prod.mk.injEq] at h
        obtain ⟨h4, h5, h6⟩ := h
        refine ⟨fun e0 => absurd h6.symm e0, fun _ => ⟨h5.symm, ?_⟩⟩
        subst h4
        have hcl := WD.closed OK
        have hno : ∀ k, (∃ h, st.heights[k]? = some h ∧ 0 ≤ h) → roundL p.code k = false := fun k ⟨h, hh, h0⟩ => by
          have := firstR_none st.heights 0 h3 k h hh h0
          rwa [Nat.zero_add] at this
        exact ⟨hi, WD.inv.len, WD.zero, WD.inv.m0, fun k h hh => WD.inv.all h (List.mem_of_getElem? hh), WD.done, fun k h hh h0 => dn_all hcl hno ⟨h, hh, h0⟩, fun k h hh h0 => by
          have := spanM_at (code := p.code) st.heights 0 0 k h hh h0
          rw [Nat.zero_add] at this
          show _ ≤ ((spanM p.code 0 st.heights 0 : Nat) : Int)
          omega⟩
theorem flow_op (op : Int) : (ofL op).1.flow = true → (op == 11) = false → op = 12 := by
  intro h h11
  by_cases h0 : 0 ≤ op ∧ op ≤ 32
  · obtain ⟨k, rfl⟩ : ∃ k : Nat, op = k := ⟨op.toNat, by omega⟩
    have H : ∀ k : Fin 33, (ofL (k.1 : Int)).1.flow = true → ((k.1 : Int) == 11) = false → (k.1 : Int) = 12 := by decide +kernel
    exact H ⟨k, by omega⟩ h h11
  · exfalso
    have e : ∀ j : Int, 0 ≤ j → j ≤ 32 → (op == j) = false := fun j h1 h2 => by rw [beq_eq_false_iff_ne]; omega
    simp only [ofL, waitsL, e 0 (by decide) (by decide), e 1 (by decide) (by decide), e 2 (by decide) (by decide), e 3 (by decide) (by decide), e 4 (by decide) (by decide), e 5 (by decide) (by decide), e 6 (by decide) (by decide), e 7 (by decide) (by decide), e 8 (by decide) (by decide), e 9 (by decide) (by decide), e 10 (by decide) (by decide), e 11 (by decide) (by decide), e 12 (by decide) (by decide), e 13 (by decide) (by decide), e 14 (by decide) (by decide), e 15 (by decide) (by decide), e 16 (by decide) (by decide), e 17 (by decide) (by decide), e 18 (by decide) (by decide), e 19 (by decide) (by decide), e 20 (by decide) (by decide), e 21 (by decide) (by decide), e 22 (by decide) (by decide), e 23 (by decide) (by decide), e 24 (by decide) (by decide), e 25 (by decide) (by decide), e 26 (by decide) (by decide), e 27 (by decide) (by decide), e 28 (by decide) (by decide), e 29 (by decide) (by decide), e 30 (by decide) (by decide), e 31 (by decide) (by decide), e 32 (by decide) (by decide), cond_false] at h
    cases h
/-- one instruction behind another one: which -/
theorem next_mem {c : In} {k : Nat} (he : (ofL c.op).1.ends = false) (t : Bool) : (bif (c.op == 11) || ((c.op == 12) && t) then c.a.toNat else k + 1) ∈ followN c k := by
  unfold followN
  rw [he]
  simp only [cond_false]
  cases h11 : (c.op == 11) with
  | true => simp
  | false =>
    simp only [Bool.false_or, cond_false]
    cases h12 : (c.op == 12) with
    | true =>
      have : (ofL c.op).1.flow = true := by rw [beq_iff_eq.1 h12]; rfl
      rw [this]
      cases t <;> simp
    | false => cases (ofL c.op).1.flow <;> simp
/-- a step along a way -/
theorem Known.step {p : Img} {fa : Fa} (K : Known p fa) {k : Nat} {h run : Int} (hh : fa.heights[k]? = some h) (h0 : 0 ≤ h) (hr : run + ((spF p.code (p.code.length + 1) k : Nat) : Int) ≤ fa.span) :
    ∃ c, p.code[k]? = some c ∧ (ofL c.op).2 = true ∧ 0 ≤ c.a ∧ c.a ≤ 512 ∧ 0 ≤ takesL c ∧ takesL c ≤ 512 ∧ 0 ≤ (ofL c.op).1.o ∧ (ofL c.op).1.o ≤ 2 ∧ takesL c ≤ h ∧ run + 1 ≤ fa.span ∧
      ∀ x ∈ followN c k, x < p.code.length ∧ ∃ h', h' = h + ((ofL c.op).1.o - takesL c) ∧ fa.heights[x]? = some h' ∧ 0 ≤ h' ∧ h' ≤ fa.most ∧ (bif restsL c then 0 else run + 1) + ((spF p.code (p.code.length + 1) x : Nat) : Int) ≤ fa.span := by
  obtain ⟨c, h1, h2, h3, h4, h5⟩ := K.done k h hh h0
  have OK := codeOk_of K.img
  have hcm := List.mem_of_getElem? h1
  obtain ⟨i1, i2, _, _, _, _, _, _, hco⟩ := imgL_ok K.img
  obtain ⟨o1, o2, o3⟩ := hco c hcm
  have hm : mostL p (ofL c.op).1.operand ≤ 513 := by
    unfold mostL
    obtain ⟨_, _, m3, m4, m5, m6, _, _, _⟩ := imgL_ok K.img
    cases ((ofL c.op).1.operand == 1) <;> cases ((ofL c.op).1.operand == 2) <;> cases ((ofL c.op).1.operand == 3) <;> cases ((ofL c.op).1.operand == 4) <;> cases ((ofL c.op).1.operand == 5) <;> simp <;> omega
  have hpos := spF_pos (K.dn k h hh h0)
  refine ⟨c, h1, o1, o2, by omega, (OK.tk c hcm).1, (OK.tk c hcm).2, (OK.o c hcm).1, (OK.o c hcm).2, by omega, by omega, fun x hx => ?_⟩
  obtain ⟨hxl, hxh⟩ := h5 x hx
  have ho := (OK.o c hcm).1
  refine ⟨hxl, h - takesL c + (ofL c.op).1.o, by omega, hxh, by omega, by omega, ?_⟩
  have hsx := K.span x _ hxh (by omega)
  cases hra : restsL c with
  | true => simp only [cond_true]; omega
  | false =>
    simp only [cond_false]
    have hra2 : restsAt p.code k = false := by unfold restsAt; rw [h1]; exact hra
    have hfa : followAt p.code k = followN c k := by unfold followAt; rw [h1]
    have hd := K.dn k h hh h0
    rw [dnF] at hd
    have hdx := hd.resolve_left (by rw [hra2]; simp) x (by rw [hfa]; exact hx)
    have hs : spF p.code (p.code.length + 1) k = (followN c k).foldl (fun n x => max n (spF p.code p.code.length x)) 0 + 1 := by
      rw [spF, hra2, hfa]
      rfl
    have hge : ∀ (l : List Nat) (a : Nat), x ∈ l → spF p.code p.code.length x ≤ l.foldl (fun n x => max n (spF p.code p.code.length x)) a := fun l => by
      have hmono : ∀ (l : List Nat) (a : Nat), a ≤ l.foldl (fun n x => max n (spF p.code p.code.length x)) a := fun l => by
        induction l with
        | nil => exact fun a => Nat.le_refl _
        | cons y r ih => exact fun a => Nat.le_trans (Nat.le_max_left ..) (ih _)
      induction l with
      | nil => intro a h; cases h
      | cons y r ih =>
        intro a h
        rw [List.foldl_cons]
        rcases List.mem_cons.1 h with rfl | h
        · exact Nat.le_trans (Nat.le_max_right ..) (hmono r _)
        · exact ih _ h
    have h6 := hge (followN c k) 0 hx
    have h7 := (dn_mono hdx (Nat.le_succ _)).2
    rw [h7]
    omega
theorem small_wf {n : Nat} {l : List Val} {names : List ByteArray} (h : smallL n l names = true) (hb : Val.all.allL B64 l) : ∀ x ∈ l, x.wf := by
  unfold smallL at h
  cases h1 : (decide (50 < n) || (decide (70 < l.length) || decide (40 < names.length))) with
  | true => rw [h1] at h; cases h
  | false =>
    rw [h1] at h
    simp only [cond_false, Bool.and_eq_true] at h
    have := fitL_txt l 0 300 h.1
    intro x hx
    exact wf_of (Val.allL_iff.1 hb x hx) (Val.allL_iff.1 this x hx)
def WkRel (w5 : World) (p : Img) (fa : Fa) (len : Nat) (gk : Nat) (v40 v7 v8 v9 : Value) (wr : World) : Prop :=
  ∃ (j k : Nat) (h run : Int), v40 = .int .i64 j ∧ v7 = .int .i64 k ∧ v8 = .int .i64 h ∧ v9 = .int .i64 run ∧ j ≤ len ∧ gk = len - j ∧ fa.heights[k]? = some h ∧ 0 ≤ h ∧ h ≤ fa.most ∧ 0 ≤ run ∧ run ≤ j ∧ run + ((spF p.code (p.code.length + 1) k : Nat) : Int) ≤ fa.span ∧ Below w5.heap.size w5 wr
--[[walks
set_option maxRecDepth 100000 in
set_option maxHeartbeats 8000000 in
theorem walks_walk {N : Nat} (i : IC) (p : Img) (bs : List Bool) (ba : Option Addr) (bl bc : Nat) (W : World) (G : Gl Tryz.prog N W) (H : IAt (fun j => j < W.heap.size) W i p) (hb64 : Val.all.allL B64 p.consts) (HB : RdF (fun j => j < W.heap.size) W (.slice ba bl bc) bs) :
    Calls Tryz.prog 4 #[.agg #[.slice i.ca i.cn i.cc, .slice i.ka i.kn i.kc, .slice i.na i.nn i.nc, .int .i64 i.pl], .slice ba bl bc] W fun en w' => en = .returned (.bool true) ∧ Below W.heap.size W w' := by
  have HG := Lib.hid G
  have HL := H.lens.1
  have hbl := HB.elems.1
  have SM := Lib.hid (fun W' (K : Below W.heap.size W W') => small_any _ W' i p (H.keep (S := fun _ => False) (Keeps.of_below K) (fun _ _ f => f)) _ rfl)
  have CK := Lib.hid (fun W' (K : Below W.heap.size W W') (hw : ∀ x ∈ p.consts, x.wf) (r : Fa × Int × Int) (hr : checkG p = r) => vcheck_any _ i p W' (H.keep (S := fun _ => False) (Keeps.of_below K) (fun _ _ f => f)) hw r hr)
  have HI := Lib.hid (And.intro H.code HB)
  have hsm := @small_wf p.code.length p.consts p.names
  obtain ⟨sm, hsmq⟩ : ∃ sm, smallL p.code.length p.consts p.names = sm := ⟨_, rfl⟩
  rw [hsmq] at SM hsm
  have HSM := Lib.hid (fun h => hsm h hb64)
  obtain ⟨ca, cn, cc, ka, kn, kc, na, nn, nc, pl⟩ := i
  dsimp only at SM CK HI HL ⊢
  subst hbl
  have HLL := Lib.hid HL
  clear G H HB hb64 hsm hsmq HL
  go_enter Tryz.func4, Tryz.ntmps4
  go_wp2_with fail
  have B0 : Below W.heap.size W (W.alloc (.cells #[.slice ca cn cc, .slice ka kn kc, .slice na nn nc, .int .i64 pl] 26)) := (Below.refl _ _).alloc (Nat.le_refl _) _
  refine (asks_true _ (HG.out.below B0)).mono ?_
  rintro en w1 ⟨rfl, hB1⟩
  have b1 := (hB1.block W.heap.size (by simp)).trans (heap_alloc_new W (.cells #[.slice ca cn cc, .slice ka kn kc, .slice na nn nc, .int .i64 pl] 26))
  have H1 := Lib.hid (And.intro (B0.trans (hB1.mono (by simp))) b1)
  have qq : ∀ o, w1.cell? ⟨W.heap.size, o, none⟩ = (#[.slice ca cn cc, .slice ka kn kc, .slice na nn nc, .int .i64 pl] : Array Value)[o]? := fun o => by rw [cell_of_heap b1]
  have q0 := qq 0
  have q1 := qq 1
  have q2 := qq 2
  have q3 := qq 3
  simp only [List.getElem?_toArray, List.getElem?_cons_zero, List.getElem?_cons_succ] at q0 q1 q2 q3
  have l1 := lt_of_heap b1
  clear B0 hB1 b1 qq
  go_wp2_with fail
  refine (SM.out _ H1.out.1).mono ?_
  rintro en w2 ⟨rfl, hB2⟩
  have q0 := (hB2.cell (p := ⟨W.heap.size, 0, none⟩) l1).trans q0
  have q1 := (hB2.cell (p := ⟨W.heap.size, 1, none⟩) l1).trans q1
  have q2 := (hB2.cell (p := ⟨W.heap.size, 2, none⟩) l1).trans q2
  have q3 := (hB2.cell (p := ⟨W.heap.size, 3, none⟩) l1).trans q3
  have l2 : W.heap.size < w2.heap.size := Nat.lt_of_lt_of_le l1 hB2.size
  have H2 := Lib.hid (H1.out.1.trans (hB2.mono H1.out.1.size))
  clear hB2 SM H1
  cases sm with
  | false =>
    go_wp2_with fail
    go_ret
    exact ⟨rfl, H2.out⟩
  | true =>
    by_cases h300 : 300 < bs.length
    · have e3 : (300 : Int) < bs.length := by omega
      go_wp2_with fail
      go_ret
      exact ⟨rfl, H2.out⟩
    · have e3 : ¬ (300 : Int) < bs.length := by omega
      obtain ⟨fa, at_, er, hck⟩ : ∃ fa a e, checkG p = (fa, a, e) := ⟨_, _, _, rfl⟩
      have LAW := Lib.hid (checkG_law hck)
      have CA := Lib.hid (CK.out w2 H2.out (HSM.out rfl) _ hck)
      clear hck CK HSM
      --[[w1
      go_wp2_with fail
      refine CA.out.mono ?_
      rintro en w3 ⟨v3, rfl, H3⟩
      obtain ⟨xa, xc, rfl⟩ := H3.out.1.slice
      dsimp only at H3 ⊢
      have B3 := H2.out.trans (H3.out.2.2.mono H2.out.size)
      have q0 := (H3.out.2.2.cell (p := ⟨W.heap.size, 0, none⟩) l2).trans q0
      have l3 : W.heap.size < w3.heap.size := Nat.lt_of_lt_of_le l2 H3.out.2.2.size
      have HB3 := Lib.hid B3
      clear B3 CA q1 q2 q3
      cases he : (er != 0) with
      | true =>
        --[[w2
        have hn := LAW.out.1 (by simpa using he)
        subst hn
        dsimp only [noFa, List.length_nil] at H3 ⊢
        go_wp2_with fail
        go_ret
        exact ⟨by simp, (HB3.out.alloc HB3.out.size _).alloc (by have := HB3.out.size; simp; omega) _⟩
        --]]w2
      | false =>
        have he0 : er = 0 := by simpa using he
        subst he0
        obtain ⟨rfl, hK⟩ := LAW.out.2 rfl
        have KN1 := Lib.hid hK
        clear hK he
        --[[w3
        go_wp2_with fail
        obtain ⟨fh, fm, fs⟩ := fa
        dsimp only at KN1 H3 ⊢
        obtain ⟨w5, hw5⟩ : ∃ w5, w5 = (w3.alloc (.cells #[.slice xa fh.length xc, .int .i64 fm, .int .i64 fs] 31)).alloc (.cells #[.int .i64 (-1), .int .i64 0] 34) := ⟨_, rfl⟩
        have B5 : Below w3.heap.size w3 w5 := by rw [hw5]; exact ((Below.refl _ _).alloc (Nat.le_refl _) _).alloc (by simp) _
        have b5 : w5.heap[w3.heap.size]? = some (.cells #[.slice xa fh.length xc, .int .i64 fm, .int .i64 fs] 31 (0, 0)) := by rw [hw5]; exact heap_lt2
        rw [← hw5]
        have q0 := (B5.cell (p := ⟨W.heap.size, 0, none⟩) l3).trans q0
        have l5 : W.heap.size < w5.heap.size := Nat.lt_of_lt_of_le l3 B5.size
        have RH := H3.out.1.below B5
        have H5 := Lib.hid (And.intro (HB3.out.trans (B5.mono HB3.out.size)) (And.intro b5 RH))
        clear hw5 B5 b5 RH
        go_loopg [40, 7, 8, 9] (bs.length) (fun gk v40 v7 v8 v9 wr => WkRel w5 p ⟨fh, fm, fs⟩ bs.length gk v40 v7 v8 v9 wr)
        case atStart => exact ⟨0, 0, 0, 0, rfl, rfl, rfl, rfl, Nat.zero_le _, rfl, KN1.out.zero, Int.le_refl 0, KN1.out.most, Int.le_refl 0, Int.le_refl 0, by have := KN1.out.span 0 0 KN1.out.zero (Int.le_refl 0); omega, Below.refl _ _⟩
        case round =>
          obtain ⟨j, k, h, run, rfl, rfl, rfl, rfl, hj, hgk, hh, hh0, hhm, hr0, hrj, hrs, hB⟩ := hrel
          by_cases hjn : j < bs.length
          · obtain ⟨t, ht⟩ := elem_at hjn
            have BWr := H5.out.1.trans (hB.mono H5.out.1.size)
            obtain ⟨_, _, bg, boff, hba, hbe⟩ := (HI.out.2.keep (S := fun _ => False) (Keeps.of_below BWr) (fun _ _ f => f)).elems
            obtain ⟨_, hbg, hbc⟩ := hbe j t ht
            have hba := hba.resolve_right (fun e => by rw [e] at ht; simp at ht)
            subst hba
            have t0 := hbc 0 _ rfl
            rw [show boff + (j * sz Bool + 0) = boff + j from by simp [Cells.sz]] at t0
            obtain ⟨c, hc, o1, a0, a1, tk0, tk1, oo0, oo1, htk, hr1, hnx⟩ := KN1.out.step hh hh0 hrs
            dsimp only at hr1
            obtain ⟨cg, coff, hca, hcg, m0, m1⟩ := code_cells (HI.out.1.keep (S := fun _ => False) (Keeps.of_below BWr) (fun _ _ f => f)) hc
            subst hca
            have hkl := (List.getElem?_eq_some_iff.1 hc).1
            have RHr := H5.out.2.2.below hB
            obtain ⟨hg', hoff, hxa, hgl⟩ := RHr.addr hh
            subst hxa
            have y0 := row_int RHr hh
            have hb5 := (hB.block w3.heap.size (lt_of_heap H5.out.2.1)).trans H5.out.2.1
            have z0 : wr.cell? ⟨w3.heap.size, 0, none⟩ = some (.slice (some ⟨hg', hoff, none⟩) fh.length xc) := by rw [cell_of_heap hb5]; rfl
            have z1 : wr.cell? ⟨w3.heap.size, 1, none⟩ = some (.int .i64 fm) := by rw [cell_of_heap hb5]; rfl
            have z2 : wr.cell? ⟨w3.heap.size, 2, none⟩ = some (.int .i64 fs) := by rw [cell_of_heap hb5]; rfl
            have lf := lt_of_heap hb5
            have q0 := (hB.cell (p := ⟨W.heap.size, 0, none⟩) l5).trans q0
            have lW : W.heap.size < wr.heap.size := Nat.lt_of_lt_of_le l5 hB.size
            have hk512 := (imgL_ok KN1.out.img).2.1
            have hjn' : (j : Int) < bs.length := by omega
            have hkn : (k : Int) < cn := by have := HLL.out; omega
            have hkh : (k : Int) < fh.length := by have hhl : fh.length = p.code.length := KN1.out.len; omega
            have hlow := (KN1.out.low k h hh).2
            have hwj : IntKind.i64.wrap ((j : Int) + 1) = (j : Int) + 1 := IntWalk.i64_in _ (by omega)
            have d1 : decide ((k : Int) < 0) = false := decide_eq_false (by omega)
            have d2 : decide ((cn : Int) ≤ (k : Int)) = false := decide_eq_false (by have := HLL.out; omega)
            have d3 : decide (32 < h) = false := decide_eq_false (by omega)
            have hhm' : h ≤ fm := hhm
            have d4 : decide (fm < h) = false := decide_eq_false (by omega)
            obtain ⟨inf, ok, hof⟩ : ∃ inf ok, ofL c.op = (inf, ok) := ⟨_, _, rfl⟩
            have OF := Lib.hid (of_rule c.op inf ok hof)
            have hnm := fun he => next_mem (c := c) (k := k) he t
            rw [hof] at o1 oo0 oo1 hnx hnm
            dsimp only at o1 oo0 oo1 hnm
            subst o1
            have hrl : restsL c = (inf.blocks || inf.ends) := by unfold restsL; rw [hof]
            have htl : takesL c = bif c.op == 29 then c.a else inf.i := by unfold takesL; rw [hof]
            obtain ⟨tk, htkq⟩ : ∃ tk, takesL c = tk := ⟨_, rfl⟩
            rw [htkq] at tk0 tk1 htk hnx htl
            rw [hrl] at hnx
            obtain ⟨op, a⟩ := c
            dsimp only at m0 m1 OF a0 a1 htl hnm hnx hof
            obtain ⟨an, rfl⟩ : ∃ an : Nat, a = an := ⟨a.toNat, by omega⟩
            rw [Int.toNat_natCast] at hnm
            have hpk : (op == 29) = true → inf.blocks = false ∧ inf.ends = false := fun h => by
              rw [beq_iff_eq] at h
              subst h
              have e : (ofL 29).1 = inf := by rw [hof]
              subst e
              exact ⟨rfl, rfl⟩
            have hwr : IntKind.i64.wrap (run + 1) = run + 1 := IntWalk.i64_in _ (by omega)
            have hwd : IntKind.i64.wrap (inf.o - tk) = inf.o - tk := IntWalk.i64_in _ (by omega)
            have hwh : IntKind.i64.wrap (h + (inf.o - tk)) = h + (inf.o - tk) := IntWalk.i64_in _ (by omega)
            have hwk : IntKind.i64.wrap ((k : Int) + 1) = (k : Int) + 1 := IntWalk.i64_in _ (by omega)
            have d5 : decide (h < tk) = false := decide_eq_false (by omega)
            have d6 : decide (fs < run + 1) = false := decide_eq_false (by omega)
            have HZ := Lib.hid (And.intro hnx (And.intro hnm (And.intro hgk (And.intro hB BWr))))
            clear hnx hnm hgk hB BWr hbe hbc hof hrl htkq hc hb5 RHr hh hrs ht
            --[[w4
            go_wp2_with fail
            refine (OF.out _).mono ?_
            rintro en w7 ⟨rfl, hB7⟩
            have x0 : w7.cell? ⟨wr.heap.size, 0, none⟩ = some (.int .i64 op) := by rw [hB7.cell (p := ⟨wr.heap.size, 0, none⟩) (by simp), cell_of_heap (heap_alloc_new _ _)]; rfl
            have x1 : w7.cell? ⟨wr.heap.size, 1, none⟩ = some (.int .i64 an) := by rw [hB7.cell (p := ⟨wr.heap.size, 1, none⟩) (by simp), cell_of_heap (heap_alloc_new _ _)]; rfl
            have lt7 : wr.heap.size < w7.heap.size := by have := hB7.size; simp at this; omega
            have B7 : Below wr.heap.size wr w7 := ((Below.refl _ _).alloc (Nat.le_refl _) (.cells #[.int .i64 op, .int .i64 an] 45)).trans (hB7.mono (by simp))
            have z2 := (B7.cell (p := ⟨w3.heap.size, 2, none⟩) lf).trans z2
            have lf7 : w3.heap.size < w7.heap.size := Nat.lt_of_lt_of_le lf B7.size
            have ne7 : ¬ w3.heap.size = w7.heap.size := by omega
            have ne8 : ¬ wr.heap.size = w7.heap.size := by omega
            have B8 := Lib.hid (B7.alloc B7.size (.cells #[.string inf.name, .int .i64 inf.operand, .int .i64 inf.i, .int .i64 inf.o, .bool inf.blocks, .bool inf.ends, .bool inf.flow] 47))
            clear hB7 B7 m0 m1 t0 y0 z0 z1 q0 OF
            have fin : ∀ (k' : Nat) (run' : Int), k' ∈ followN ⟨op, an⟩ k → run' = (bif inf.blocks || inf.ends then 0 else run + 1) → ∀ wz, Below w5.heap.size w5 wz → WkRel w5 p ⟨fh, fm, fs⟩ bs.length (bs.length - (j + 1)) (.int .i64 ((j : Int) + 1)) (.int .i64 k') (.int .i64 (h + (inf.o - tk))) (.int .i64 run') wz := fun k' run' hk' hrun wz hwz => by
              obtain ⟨_, h', rfl, e2, e3, e4, e5⟩ := HZ.out.1 k' hk'
              refine ⟨j + 1, k', _, run', by simp, rfl, rfl, rfl, by omega, rfl, e2, e3, e4, ?_, ?_, by rw [hrun]; exact e5, hwz⟩
              · rw [hrun]; cases (inf.blocks || inf.ends) <;> simp <;> omega
              · rw [hrun]; cases (inf.blocks || inf.ends) <;> simp <;> omega
            have FIN := Lib.hid fin
            clear fin
            cases h29 : (op == 29) with
            | true =>
              --[[w5
              rw [h29] at htl
              simp only [cond_true] at htl
              subst htl
              obtain ⟨hbl, hen⟩ := hpk h29
              have h11 : (op == 11) = false := by rw [beq_iff_eq.1 h29]; rfl
              have h12 : (op == 12) = false := by rw [beq_iff_eq.1 h29]; rfl
              rw [hbl, hen] at FIN
              go_wp2_with fail
              go_roundg (bs.length - (j + 1))
              case measure => have := HZ.out.2.2.1; omega
              case rel =>
                have hm := HZ.out.2.1 hen
                rw [h11, h12] at hm
                rw [hbl, hen] at B8
                exact FIN.out (k+1) (run+1) hm rfl _ (HZ.out.2.2.2.1.trans (B8.out.mono HZ.out.2.2.2.1.size))
              --]]w5
            | false =>
              rw [h29] at htl
              simp only [cond_false] at htl
              subst htl
              cases hen : inf.ends with
              | true =>
                --[[w6
                cases hbl : inf.blocks with
                | true =>
                  go_wp2_with fail
                  go_ret
                  exact ⟨rfl, by rw [hbl, hen] at B8; exact HZ.out.2.2.2.2.trans (B8.out.mono HZ.out.2.2.2.2.size)⟩
                | false =>
                  go_wp2_with fail
                  go_ret
                  exact ⟨rfl, by rw [hbl, hen] at B8; exact HZ.out.2.2.2.2.trans (B8.out.mono HZ.out.2.2.2.2.size)⟩
                --]]w6
              | false =>
                cases hbl : inf.blocks with
                | true =>
                  rw [hbl, hen] at FIN
                  cases h11 : (op == 11) with
                  | true =>
                    --[[w7
                    go_wp2_with fail
                    go_roundg (bs.length - (j + 1))
                    case measure => have := HZ.out.2.2.1; omega
                    case rel =>
                      have hm := HZ.out.2.1 hen
                      rw [h11] at hm
                      rw [hbl, hen] at B8
                      exact FIN.out an 0 hm rfl _ (HZ.out.2.2.2.1.trans (B8.out.mono HZ.out.2.2.2.1.size))
                    --]]w7
                  | false =>
                    cases h12 : (op == 12) with
                    | true =>
                      --[[w7a
                      cases t with
                      | true =>
                        go_wp2_with fail
                        go_roundg (bs.length - (j + 1))
                        case measure => have := HZ.out.2.2.1; omega
                        case rel =>
                          have hm := HZ.out.2.1 hen
                          rw [h11, h12] at hm
                          rw [hbl, hen] at B8
                          exact FIN.out an 0 hm rfl _ (HZ.out.2.2.2.1.trans (B8.out.mono HZ.out.2.2.2.1.size))
                      | false =>
                        go_wp2_with fail
                        go_roundg (bs.length - (j + 1))
                        case measure => have := HZ.out.2.2.1; omega
                        case rel =>
                          have hm := HZ.out.2.1 hen
                          rw [h11, h12] at hm
                          rw [hbl, hen] at B8
                          exact FIN.out (k+1) 0 hm rfl _ (HZ.out.2.2.2.1.trans (B8.out.mono HZ.out.2.2.2.1.size))
                      --]]w7a
                    | false =>
                      --[[w7b
                      go_wp2_with fail
                      go_roundg (bs.length - (j + 1))
                      case measure => have := HZ.out.2.2.1; omega
                      case rel =>
                        have hm := HZ.out.2.1 hen
                        rw [h11, h12] at hm
                        rw [hbl, hen] at B8
                        exact FIN.out (k+1) 0 hm rfl _ (HZ.out.2.2.2.1.trans (B8.out.mono HZ.out.2.2.2.1.size))
                      --]]w7b
                | false =>
                  rw [hbl, hen] at FIN
                  cases h11 : (op == 11) with
                  | true =>
                    --[[w8
                    go_wp2_with fail
                    go_roundg (bs.length - (j + 1))
                    case measure => have := HZ.out.2.2.1; omega
                    case rel =>
                      have hm := HZ.out.2.1 hen
                      rw [h11] at hm
                      rw [hbl, hen] at B8
                      exact FIN.out an (run+1) hm rfl _ (HZ.out.2.2.2.1.trans (B8.out.mono HZ.out.2.2.2.1.size))
                    --]]w8
                  | false =>
                    cases h12 : (op == 12) with
                    | true =>
                      --[[w8a
                      cases t with
                      | true =>
                        go_wp2_with fail
                        go_roundg (bs.length - (j + 1))
                        case measure => have := HZ.out.2.2.1; omega
                        case rel =>
                          have hm := HZ.out.2.1 hen
                          rw [h11, h12] at hm
                          rw [hbl, hen] at B8
                          exact FIN.out an (run+1) hm rfl _ (HZ.out.2.2.2.1.trans (B8.out.mono HZ.out.2.2.2.1.size))
                      | false =>
                        go_wp2_with fail
                        go_roundg (bs.length - (j + 1))
                        case measure => have := HZ.out.2.2.1; omega
                        case rel =>
                          have hm := HZ.out.2.1 hen
                          rw [h11, h12] at hm
                          rw [hbl, hen] at B8
                          exact FIN.out (k+1) (run+1) hm rfl _ (HZ.out.2.2.2.1.trans (B8.out.mono HZ.out.2.2.2.1.size))
                      --]]w8a
                    | false =>
                      --[[w8b
                      go_wp2_with fail
                      go_roundg (bs.length - (j + 1))
                      case measure => have := HZ.out.2.2.1; omega
                      case rel =>
                        have hm := HZ.out.2.1 hen
                        rw [h11, h12] at hm
                        rw [hbl, hen] at B8
                        exact FIN.out (k+1) (run+1) hm rfl _ (HZ.out.2.2.2.1.trans (B8.out.mono HZ.out.2.2.2.1.size))
                      --]]w8b
            --]]w4
          · have _u := trivial
            --[[w9
            obtain rfl : j = bs.length := by omega
            have HZ := Lib.hid (H5.out.1.trans (hB.mono H5.out.1.size))
            clear hB hgk hh hrs
            go_wp2_with fail
            go_ret
            exact ⟨rfl, HZ.out⟩
            --]]w9
        --]]w3
      --]]w1
--]]walks
end Go.Proofs.YtielnengimninaaGreatDoor
