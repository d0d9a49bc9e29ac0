/- value.count.walk, walked. -/
import Derived.Test.YtielnengimninaaGreatDoorVm
import Derived.Test.YtielnengimninaaGreatDoorV4
namespace Go.Va
open Go.Own Go.RowKit
/-- how many values were gone through, and what is wrong, behind one more value -/
def walkV : Val → Nat → Nat × Int → Nat × Int
  | .mk k _ s l, d, (p, e) =>
    bif e != 0 then (p, e) else
    bif decide (256 ≤ p) then (p + 1, 2) else
    bif k == 0 || k == 1 then (p + 1, 0) else
    bif k == 2 then (p + 1, bif decide (256 < s.size) then 2 else 0) else
    bif k == 3 then walkL l (d + 1) (p + 1, bif decide (8 ≤ d) then 30 else bif decide (64 < l.length) then 2 else 0) else (p + 1, 9)
where walkL : List Val → Nat → Nat × Int → Nat × Int
  | [], _, c => c
  | x :: r, d, c => bif c.2 != 0 then c else walkL r d (walkV x d c)
theorem walkV_eq (x : Val) (d p : Nat) (e : Int) : walkV x d (p, e) = bif e != 0 then (p, e) else
    bif decide (256 ≤ p) then (p + 1, 2) else
    bif x.kind == 0 || x.kind == 1 then (p + 1, 0) else
    bif x.kind == 2 then (p + 1, bif decide (256 < x.txt.size) then 2 else 0) else
    bif x.kind == 3 then walkV.walkL x.list (d + 1) (p + 1, bif decide (8 ≤ d) then 30 else bif decide (64 < x.list.length) then 2 else 0) else (p + 1, 9) := by
  cases x
  rw [walkV]
  rfl
theorem walkL_cons (x : Val) (r : List Val) (d : Nat) (c : Nat × Int) : walkV.walkL (x :: r) d c = bif c.2 != 0 then c else walkV.walkL r d (walkV x d c) := by
  rw [walkV.walkL]
theorem walkL_nil (d : Nat) (c : Nat × Int) : walkV.walkL [] d c = c := by rw [walkV.walkL]
theorem walkL_err (r : List Val) (d : Nat) (c : Nat × Int) (h : (c.2 != 0) = true) : walkV.walkL r d c = c := by
  cases r with
  | nil => rw [walkL_nil]
  | cons x r => rw [walkL_cons, h]; rfl
mutual
theorem walkV_bd : ∀ (x : Val) (d : Nat) (c : Nat × Int), (c.2 = 0 → c.1 ≤ 256) → ((walkV x d c).2 = 0 → (walkV x d c).1 ≤ 256)
  | .mk k n s l, d, (p, e), h => by
    rw [walkV]
    cases h1 : (e != 0) with
    | true => simpa using h
    | false =>
      cases h2 : decide (256 ≤ p) with
      | true => simp
      | false =>
        rw [decide_eq_false_iff_not] at h2
        cases h3 : (k == 0 || k == 1) with
        | true => simp; omega
        | false =>
          cases h4 : (k == 2) with
          | true => simp; omega
          | false =>
            cases h5 : (k == 3) with
            | true =>
              simp only [cond_false, cond_true]
              exact walkL_bd l (d + 1) _ (fun _ => by simp; omega)
            | false => simp
theorem walkL_bd : ∀ (l : List Val) (d : Nat) (c : Nat × Int), (c.2 = 0 → c.1 ≤ 256) → ((walkV.walkL l d c).2 = 0 → (walkV.walkL l d c).1 ≤ 256)
  | [], d, c, h => by rw [walkL_nil]; exact h
  | x :: r, d, c, h => by
    rw [walkL_cons]
    cases h1 : (c.2 != 0) with
    | true => exact h
    | false => exact walkL_bd r d _ (walkV_bd x d c h)
end
end Go.Va
namespace Go.Proofs.YtielnengimninaaGreatDoor
open Go.RowKit Go.Own Go.Own.MapTy Go.Va Go.Sort
open Go.Own.Cells (sz enc)
/-- a count under way -/
def CX (w : World) (b : Nat) (c : Nat × Int) : Prop := w.heap[b]? = some (.cells #[.int .i64 c.1, .int .i64 c.2] 151 (0, 0))
theorem CX.c0 {w : World} {b : Nat} {c : Nat × Int} (h : CX w b c) : w.cell? ⟨b, 0, none⟩ = some (.int .i64 c.1) := by rw [cell_of_heap h]; rfl
theorem CX.c1 {w : World} {b : Nat} {c : Nat × Int} (h : CX w b c) : w.cell? ⟨b, 1, none⟩ = some (.int .i64 c.2) := by rw [cell_of_heap h]; rfl
theorem CX.fr {w : World} {b : Nat} {c : Nat × Int} (h : CX w b c) (o : Nat) : w.frozen? ⟨b, o, none⟩ = false := frozen_of_heap h o
theorem CX.lt {w : World} {b : Nat} {c : Nat × Int} (h : CX w b c) : b < w.heap.size := lt_of_heap h
theorem CX.keep {w w' : World} {b : Nat} {c : Nat × Int} {S : Nat → Prop} (h : CX w b c) (K : Keeps S w w') (hs : ¬ S b) : CX w' b c := (K.block b h.lt hs).trans h
theorem CX.set0 {w : World} {b p : Nat} {e : Int} (h : CX w b (p, e)) (q : Nat) : CX (w.setCell ⟨b, 0, none⟩ (.int .i64 q)) b (q, e) := by
  unfold CX at h ⊢
  simp [World.setCell, Array.getElem?_modify, h]
theorem CX.set1 {w : World} {b p : Nat} {e : Int} (h : CX w b (p, e)) (f : Int) : CX (w.setCell ⟨b, 1, none⟩ (.int .i64 f)) b (p, f) := by
  unfold CX at h ⊢
  simp [World.setCell, Array.getElem?_modify, h]
def WPost (w : World) (b : Nat) (r : Nat × Int) (e : Ending) (w' : World) : Prop := e = .returned (.tuple #[]) ∧ CX w' b r ∧ Keeps (fun j => j = b) w w'
--[[walkE
set_option maxRecDepth 100000 in
set_option maxHeartbeats 8000000 in
theorem walk_err (x : Val)
    (b d p : Nat) (e : Int) (ck cn : Int) (cs : ByteArray) (la : Option Addr) (ln lc : Nat) (F : Nat → Prop) (w : World) (H : CX w b (p, e)) (C : CF F w ⟨ck, cn, cs, la, ln, lc⟩ x) (hF : ¬ F b) (hd : d ≤ 8) (hp : e = 0 → p ≤ 256) (r : Nat × Int) (hr : walkV x d (p, e) = r)
    (he : (e != 0) = true) :
    Calls Tryz.prog 102 #[.pointer (some ⟨b, 0, none⟩), .agg #[.int .i64 ck, .int .i64 cn, .string cs, .slice la ln lc], .int .i64 d] w (WPost w b r)
    := by
  have _h := And.intro hF (And.intro hd hp)
  have b0 := H.lt
  have c0 := H.c0
  have c1 := H.c1
  have f0 := H.fr
  rw [walkV_eq] at hr
  have hck : ck = x.kind := C.kind
  have hcs : cs = x.txt := C.s
  have HH := Lib.hid (And.intro H C)
  clear H C
  dsimp only at c0 c1
  go_enter Tryz.func102, Tryz.ntmps102
  rw [he] at hr
  have HR := Lib.hid hr
  clear hr hck hcs
  go_wp2_with fail
  have hr' := HR.out
  simp only [cond_true] at hr'
  subst hr'
  exact bodyPost_ret (v := .tuple #[]) (by simp only [results, Tryz.results102]; go_simp) rfl ⟨rfl, HH.out.1.keep (S := fun _ => False) ((Keeps.refl _ _).alloc _) (fun f => f), (Keeps.refl _ _).alloc _⟩
--]]walkE
--[[walkO
set_option maxRecDepth 100000 in
set_option maxHeartbeats 8000000 in
theorem walk_one (x : Val)
    (b d p : Nat) (e : Int) (ck cn : Int) (cs : ByteArray) (la : Option Addr) (ln lc : Nat) (F : Nat → Prop) (w : World) (H : CX w b (p, e)) (C : CF F w ⟨ck, cn, cs, la, ln, lc⟩ x) (hF : ¬ F b) (hd : d ≤ 8) (hp : e = 0 → p ≤ 256) (r : Nat × Int) (hr : walkV x d (p, e) = r)
    (he : e = 0) (h3 : (x.kind == 3) = false ∨ 256 ≤ p) :
    Calls Tryz.prog 102 #[.pointer (some ⟨b, 0, none⟩), .agg #[.int .i64 ck, .int .i64 cn, .string cs, .slice la ln lc], .int .i64 d] w (WPost w b r)
    := by
  have _h := And.intro hF hd
  subst he
  have b0 := H.lt
  have c0 := H.c0
  have c1 := H.c1
  have f0 := H.fr
  rw [walkV_eq] at hr
  have hck : ck = x.kind := C.kind
  have hcs : cs = x.txt := C.s
  have HH := Lib.hid (And.intro H C)
  clear H C
  dsimp only at c0 c1
  go_enter Tryz.func102, Tryz.ntmps102
  simp only [bne_self_eq_false, cond_false] at hr
  have hp := hp rfl
  have T0 := HH.out.1.set0 (p + 1)
  have K0 : Keeps (fun j => j = b) w (w.setCell ⟨b, 0, none⟩ (.int .i64 ((p : Int) + 1))) := Keeps.setCell (S := fun j => j = b) (p := ⟨b, 0, none⟩) (Keeps.refl _ w) (.inl rfl) _
  have KA : ∀ W, Keeps (fun _ => False) W (W.alloc (.cells #[.int .i64 ck, .int .i64 cn, .string cs, .slice la ln lc] 63)) := fun W => (Keeps.refl _ _).alloc _
  have HT := Lib.hid (And.intro T0 (And.intro K0 KA))
  clear T0 K0 KA
  cases h2 : decide (256 ≤ p) with
  | true =>
    rw [h2] at hr
    rw [decide_eq_true_eq] at h2
    have HR := Lib.hid hr
    have e2 : (256 : Int) < (p : Int) + 1 := by omega
    clear hr hck hcs
    go_wp2_with fail
    have hr' := HR.out
    simp only [cond_true] at hr'
    subst hr'
    exact bodyPost_ret (v := .tuple #[]) (by simp only [results, Tryz.results102]; go_simp) rfl ⟨rfl, (HT.out.1.set1 2).keep (HT.out.2.2 _) (fun f => f), ((HT.out.2.1.setCell (p := ⟨b, 1, none⟩) (.inl rfl) (.int .i64 2)).alloc _)⟩
  | false =>
    rw [h2] at hr
    simp only [cond_false] at hr
    rw [decide_eq_false_iff_not] at h2
    have e2 : ¬ (256 : Int) < (p : Int) + 1 := by omega
    have h3 := h3.resolve_right h2
    cases h4 : (x.kind == 0 || x.kind == 1) with
    | true =>
      rw [h4] at hr
      have HR := Lib.hid hr
      have h4 : ck = 0 ∨ ck = 1 := by rw [hck]; simpa using h4
      clear hr hck hcs h3
      rcases h4 with rfl | rfl
      all_goals
        go_wp2_with fail
        have hr' := HR.out
        simp only [cond_true] at hr'
        subst hr'
        go_end0
        exact ⟨rfl, HT.out.1.keep (HT.out.2.2 _) (fun f => f), HT.out.2.1.alloc _⟩
    | false =>
      rw [h4] at hr
      simp only [cond_false] at hr
      rw [Bool.or_eq_false_iff, ← hck] at h4
      obtain ⟨k0, k1⟩ := h4
      cases k2 : (x.kind == 2) with
      | true =>
        rw [k2] at hr
        simp only [cond_true, ← hcs] at hr
        obtain rfl : ck = 2 := by rw [hck]; simpa using k2
        cases hs : decide (256 < cs.size) with
        | true =>
          rw [hs] at hr
          have HR := Lib.hid hr
          rw [decide_eq_true_eq] at hs
          have e5 : (256 : Int) < cs.size := by omega
          clear hr hck hcs h3 k0 k1 k2
          go_wp2_with fail
          have hr' := HR.out
          simp only [cond_true] at hr'
          subst hr'
          go_end0
          exact ⟨rfl, (HT.out.1.set1 2).keep (HT.out.2.2 _) (fun f => f), ((HT.out.2.1.setCell (p := ⟨b, 1, none⟩) (.inl rfl) (.int .i64 2)).alloc _)⟩
        | false =>
          rw [hs] at hr
          have HR := Lib.hid hr
          rw [decide_eq_false_iff_not] at hs
          have e5 : ¬ (256 : Int) < cs.size := by omega
          clear hr hck hcs h3 k0 k1 k2
          go_wp2_with fail
          have hr' := HR.out
          simp only [cond_false] at hr'
          subst hr'
          go_end0
          exact ⟨rfl, HT.out.1.keep (HT.out.2.2 _) (fun f => f), HT.out.2.1.alloc _⟩
      | false =>
        rw [k2, h3] at hr
        have HR := Lib.hid hr
        rw [← hck] at k2 h3
        clear hr hck hcs
        go_wp2_with fail
        have hr' := HR.out
        simp only [cond_false] at hr'
        subst hr'
        go_end0
        exact ⟨rfl, (HT.out.1.set1 9).keep (HT.out.2.2 _) (fun f => f), ((HT.out.2.1.setCell (p := ⟨b, 1, none⟩) (.inl rfl) (.int .i64 9)).alloc _)⟩
--]]walkO
--[[walkL
def WRel (w : World) (b d : Nat) (x : Val) (r : Nat × Int) (gk : Nat) (v64 : Value) (wr : World) : Prop :=
  ∃ (i : Nat) (cur : Nat × Int), v64 = .int .i64 i ∧ i ≤ x.list.length ∧ gk = x.list.length - i ∧ CX wr b cur ∧ Keeps (fun j => j = b) w wr ∧ walkV.walkL (x.list.drop i) (d + 1) cur = r ∧ (cur.2 = 0 → cur.1 ≤ 256 ∧ d < 8) ∧ w.heap.size < wr.heap.size
set_option maxRecDepth 100000 in
set_option maxHeartbeats 8000000 in
theorem walk_list (n : Nat) (IH : ∀ (x : Val), x.parts ≤ n → ∀ (b d p : Nat) (e : Int) (c : VC) (F : Nat → Prop) (w : World), CX w b (p, e) → CF F w c x → ¬ F b → d ≤ 8 → (e = 0 → p ≤ 256) →
      Calls Tryz.prog 102 #[.pointer (some ⟨b, 0, none⟩), .agg #[.int .i64 c.kind, .int .i64 c.n, .string c.s, .slice c.la c.ln c.lc], .int .i64 d] w (WPost w b (walkV x d (p, e))))
    (x : Val)
    (b d p : Nat) (e : Int) (ck cn : Int) (cs : ByteArray) (la : Option Addr) (ln lc : Nat) (F : Nat → Prop) (w : World) (H : CX w b (p, e)) (C : CF F w ⟨ck, cn, cs, la, ln, lc⟩ x) (hF : ¬ F b) (hd : d ≤ 8) (hp : e = 0 → p ≤ 256) (r : Nat × Int) (hr : walkV x d (p, e) = r)
    (he : e = 0) (h3 : (x.kind == 3) = true) (h2 : ¬ 256 ≤ p) (hx : x.parts ≤ n + 1) (g off : Nat)
    (hel : ln = x.list.length ∧ ln ≤ maxLen ∧ (∀ (i : Nat) (y : Val), x.list[i]? = some y → F g ∧ g < w.heap.size ∧ ∃ c, CF F w c y ∧
      w.cell? ⟨g, off + i * 4, none⟩ = some (.int .i64 c.kind) ∧ w.cell? ⟨g, off + i * 4 + 1, none⟩ = some (.int .i64 c.n) ∧ w.cell? ⟨g, off + i * 4 + 2, none⟩ = some (.string c.s) ∧ w.cell? ⟨g, off + i * 4 + 3, none⟩ = some (.slice c.la c.ln c.lc))) (hla : la = some ⟨g, off, none⟩) :
    Calls Tryz.prog 102 #[.pointer (some ⟨b, 0, none⟩), .agg #[.int .i64 ck, .int .i64 cn, .string cs, .slice la ln lc], .int .i64 d] w (WPost w b r)
    := by
  subst he
  subst hla
  have b0 := H.lt
  have c0 := H.c0
  have c1 := H.c1
  have f0 := H.fr
  rw [walkV_eq] at hr
  have hck : ck = x.kind := C.kind
  have hcs : cs = x.txt := C.s
  have HH := Lib.hid (And.intro H C)
  clear H C
  dsimp only at c0 c1
  simp only [bne_self_eq_false, cond_false] at hr
  have hp := hp rfl
  have HI := Lib.hid IH
  have k0 : (x.kind == 0 || x.kind == 1) = false := by have := beq_iff_eq.1 h3; rw [this]; rfl
  have k2 : (x.kind == 2) = false := by have := beq_iff_eq.1 h3; rw [this]; rfl
  have hck3 : ck = 3 := by rw [hck]; exact beq_iff_eq.1 h3
  subst hck3
  rw [k0, k2, h3] at hr
  have hd2 : decide (256 ≤ p) = false := by rw [decide_eq_false_iff_not]; exact h2
  rw [hd2] at hr
  simp only [cond_false, cond_true] at hr
  have e2 : ¬ (256 : Int) < (p : Int) + 1 := by omega
  obtain ⟨hln, hlm, hel⟩ := hel
  rw [← hln] at hr
  have HE := Lib.hid hel
  have HL := Lib.hid hln
  unfold maxLen at hlm
  have T0 := HH.out.1.set0 (p + 1)
  have K0 : Keeps (fun j => j = b) w (w.setCell ⟨b, 0, none⟩ (.int .i64 ((p : Int) + 1))) := Keeps.setCell (S := fun j => j = b) (p := ⟨b, 0, none⟩) (Keeps.refl _ w) (.inl rfl) _
  have KA : ∀ W, Keeps (fun _ => False) W (W.alloc (.cells #[.int .i64 3, .int .i64 cn, .string cs, .slice (some ⟨g, off, none⟩) ln lc] 63)) := fun W => (Keeps.refl _ _).alloc _
  have HT := Lib.hid (And.intro T0 (And.intro K0 KA))
  clear T0 K0 KA hck hcs k0 k2 h3 hd2 IH hel hln h2
  go_enter Tryz.func102, Tryz.ntmps102
  have cases3 : (∃ e1 : Int, walkV.walkL x.list (d + 1) (p + 1, e1) = r ∧ ((8 ≤ d ∧ e1 = 30) ∨ (¬ 8 ≤ d ∧ 64 < ln ∧ e1 = 2) ∨ (¬ 8 ≤ d ∧ ¬ 64 < ln ∧ e1 = 0))) := by
    refine ⟨_, hr, ?_⟩
    by_cases h8 : 8 ≤ d
    · exact .inl ⟨h8, by simp [h8]⟩
    · by_cases h64 : 64 < ln
      · exact .inr (.inl ⟨h8, h64, by simp [h8, h64]⟩)
      · exact .inr (.inr ⟨h8, h64, by simp [h8, h64]⟩)
  clear hr
  obtain ⟨e1, hr, hc3⟩ := cases3
  have HR := Lib.hid hr
  clear hr
  rcases hc3 with ⟨h8, rfl⟩ | ⟨h8, h64, rfl⟩ | ⟨h8, h64, rfl⟩
  · have t8 : (8 : Int) ≤ d := by omega
    --[[wl1
    go_wp2_with fail
    have T1 := (HT.out.1.set1 30).keep (HT.out.2.2 _) (fun f => f)
    have K1 := (HT.out.2.1.setCell (p := ⟨b, 1, none⟩) (.inl rfl) (.int .i64 30)).alloc (.cells #[.int .i64 3, .int .i64 cn, .string cs, .slice (some ⟨g, off, none⟩) ln lc] 63)
    go_loopg [64] (x.list.length) (fun gk v64 wr => WRel w b d x r gk v64 wr)
    case atStart => exact ⟨0, (p + 1, (30:Int)), rfl, Nat.zero_le _, rfl, T1, K1, HR.out, (by intro h; first | (simp at h; done) | (constructor <;> omega)), by simp⟩
    case round =>
      clear T1 K1 c0 c1 f0
      obtain ⟨i, cur, rfl, hi, hgk, hT, hK, hw, hbd, hsz⟩ := hrel
      have c0 := hT.c0
      have c1 := hT.c1
      have f0 := hT.fr
      have b1 := hT.lt
      by_cases hin : i < ln
      · obtain ⟨y, hy⟩ := elem_at (l := x.list) (k := i) (by have := HL.out; omega)
        obtain ⟨hFg, hg, c', hC, q0, q1, q2, q3⟩ := HE.out i y hy
        have hgb : g ≠ b := fun e => hF (e ▸ hFg)
        have hgl : g < wr.heap.size := by omega
        rw [← hK.cell (p := ⟨g, _, none⟩) hg hgb] at q0 q1 q2 q3
        have hdr : x.list.drop i = y :: x.list.drop (i + 1) := by
          rw [List.drop_eq_getElem_cons (List.getElem?_eq_some_iff.1 hy).1, (List.getElem?_eq_some_iff.1 hy).2]
        rw [hdr, walkL_cons] at hw
        have hC' := hC.keep hK (fun g h e => hF (e ▸ h))
        have hyp : y.parts ≤ n := by
          have := Val.parts_lt (v := x) (List.mem_of_getElem? hy)
          omega
        have hin' : (i : Int) < ln := by omega
        cases hce : (cur.2 != 0) with
        | true =>
          rw [hce] at hw
          have HX := Lib.hid (And.intro hw (And.intro hT hK))
          clear hw hT hK hgk hbd hC hC' hdr hy
          go_wp2_with fail
          have hr' := HX.out.1
          simp only [cond_true] at hr'
          subst hr'
          exact bodyPost_ret (v := .tuple #[]) (by simp only [results, Tryz.results102]; go_simp) rfl ⟨rfl, HX.out.2.1.keep (S := fun _ => False) ((Keeps.refl _ _).alloc _) (fun f => f), HX.out.2.2.alloc _⟩
        | false =>
          rw [hce] at hw
          have hc0 : cur.2 = 0 := by simpa using hce
          obtain ⟨hb1, hb2⟩ := hbd hc0
          exfalso
          omega
      · obtain rfl : i = ln := by have := HL.out; omega
        rw [List.drop_eq_nil_of_le (by have := HL.out; omega), walkL_nil] at hw
        have HX := Lib.hid (And.intro hw (And.intro hT hK))
        clear hw hT hK hgk hbd
        go_wp2_with fail
        have hr' := HX.out.1
        subst hr'
        go_end0
        exact ⟨rfl, HX.out.2.1, HX.out.2.2⟩
    --]]wl1
  · have t8 : ¬ (8 : Int) ≤ d := by omega
    have t64 : (64 : Int) < ln := by omega
    --[[wl2
    go_wp2_with fail
    have T1 := (HT.out.1.set1 2).keep (HT.out.2.2 _) (fun f => f)
    have K1 := (HT.out.2.1.setCell (p := ⟨b, 1, none⟩) (.inl rfl) (.int .i64 2)).alloc (.cells #[.int .i64 3, .int .i64 cn, .string cs, .slice (some ⟨g, off, none⟩) ln lc] 63)
    go_loopg [64] (x.list.length) (fun gk v64 wr => WRel w b d x r gk v64 wr)
    case atStart => exact ⟨0, (p + 1, (2:Int)), rfl, Nat.zero_le _, rfl, T1, K1, HR.out, (by intro h; first | (simp at h; done) | (constructor <;> omega)), by simp⟩
    case round =>
      clear T1 K1 c0 c1 f0
      obtain ⟨i, cur, rfl, hi, hgk, hT, hK, hw, hbd, hsz⟩ := hrel
      have c0 := hT.c0
      have c1 := hT.c1
      have f0 := hT.fr
      have b1 := hT.lt
      by_cases hin : i < ln
      · obtain ⟨y, hy⟩ := elem_at (l := x.list) (k := i) (by have := HL.out; omega)
        obtain ⟨hFg, hg, c', hC, q0, q1, q2, q3⟩ := HE.out i y hy
        have hgb : g ≠ b := fun e => hF (e ▸ hFg)
        have hgl : g < wr.heap.size := by omega
        rw [← hK.cell (p := ⟨g, _, none⟩) hg hgb] at q0 q1 q2 q3
        have hdr : x.list.drop i = y :: x.list.drop (i + 1) := by
          rw [List.drop_eq_getElem_cons (List.getElem?_eq_some_iff.1 hy).1, (List.getElem?_eq_some_iff.1 hy).2]
        rw [hdr, walkL_cons] at hw
        have hC' := hC.keep hK (fun g h e => hF (e ▸ h))
        have hyp : y.parts ≤ n := by
          have := Val.parts_lt (v := x) (List.mem_of_getElem? hy)
          omega
        have hin' : (i : Int) < ln := by omega
        cases hce : (cur.2 != 0) with
        | true =>
          rw [hce] at hw
          have HX := Lib.hid (And.intro hw (And.intro hT hK))
          clear hw hT hK hgk hbd hC hC' hdr hy
          go_wp2_with fail
          have hr' := HX.out.1
          simp only [cond_true] at hr'
          subst hr'
          exact bodyPost_ret (v := .tuple #[]) (by simp only [results, Tryz.results102]; go_simp) rfl ⟨rfl, HX.out.2.1.keep (S := fun _ => False) ((Keeps.refl _ _).alloc _) (fun f => f), HX.out.2.2.alloc _⟩
        | false =>
          rw [hce] at hw
          have hc0 : cur.2 = 0 := by simpa using hce
          obtain ⟨hb1, hb2⟩ := hbd hc0
          have HX := Lib.hid (And.intro hw (And.intro hT (And.intro hK hgk)))
          have hTA := hT.keep (S := fun _ => False) ((Keeps.refl _ _).alloc (.cells #[.int .i64 c'.kind, .int .i64 c'.n, .string c'.s, .slice c'.la c'.ln c'.lc] 63)) (fun f => f)
          have hCA := hC'.keep (S := fun _ => False) ((Keeps.refl _ _).alloc (.cells #[.int .i64 c'.kind, .int .i64 c'.n, .string c'.s, .slice c'.la c'.ln c'.lc] 63)) (fun _ _ f => f)
          have CA := Lib.hid (HI.out y hyp b (d + 1) cur.1 cur.2 c' F _ hTA hCA hF (by omega) (fun _ => hb1))
          clear hw hT hK hgk hbd hC hC' hdr hy hTA hCA
          go_wp2_with fail
          refine CA.out.mono ?_
          rintro e w5 ⟨rfl, hT5, hK5⟩
          have hb5 := walkV_bd y (d + 1) (cur.1, cur.2) (fun _ => hb1)
          have H5 := Lib.hid (And.intro hT5 (And.intro hK5 hb5))
          clear hT5 hK5 hb5
          go_wp2_with fail
          go_roundg (x.list.length - (i + 1))
          case measure => have := HX.out.2.2.2; have := HL.out; omega
          case rel =>
            have hw' := HX.out.1
            simp only [cond_false] at hw'
            refine ⟨i + 1, _, by simp, (by have := HL.out; omega), rfl, H5.out.1, (HX.out.2.2.1.alloc _).trans H5.out.2.1 (fun _ _ e => e), hw', (fun h => ⟨H5.out.2.2 h, hb2⟩), ?_⟩
            have := H5.out.2.1.size
            simp at this
            omega
      · obtain rfl : i = ln := by have := HL.out; omega
        rw [List.drop_eq_nil_of_le (by have := HL.out; omega), walkL_nil] at hw
        have HX := Lib.hid (And.intro hw (And.intro hT hK))
        clear hw hT hK hgk hbd
        go_wp2_with fail
        have hr' := HX.out.1
        subst hr'
        go_end0
        exact ⟨rfl, HX.out.2.1, HX.out.2.2⟩
    --]]wl2
  · have t8 : ¬ (8 : Int) ≤ d := by omega
    have t64 : ¬ (64 : Int) < ln := by omega
    --[[wl3
    go_wp2_with fail
    have T1 := HT.out.1.keep (HT.out.2.2 _) (fun f => f)
    have K1 := HT.out.2.1.alloc (.cells #[.int .i64 3, .int .i64 cn, .string cs, .slice (some ⟨g, off, none⟩) ln lc] 63)
    go_loopg [64] (x.list.length) (fun gk v64 wr => WRel w b d x r gk v64 wr)
    case atStart => exact ⟨0, (p + 1, (0:Int)), rfl, Nat.zero_le _, rfl, T1, K1, HR.out, (by intro h; first | (simp at h; done) | (constructor <;> omega)), by simp⟩
    case round =>
      clear T1 K1 c0 c1 f0
      obtain ⟨i, cur, rfl, hi, hgk, hT, hK, hw, hbd, hsz⟩ := hrel
      have c0 := hT.c0
      have c1 := hT.c1
      have f0 := hT.fr
      have b1 := hT.lt
      by_cases hin : i < ln
      · obtain ⟨y, hy⟩ := elem_at (l := x.list) (k := i) (by have := HL.out; omega)
        obtain ⟨hFg, hg, c', hC, q0, q1, q2, q3⟩ := HE.out i y hy
        have hgb : g ≠ b := fun e => hF (e ▸ hFg)
        have hgl : g < wr.heap.size := by omega
        rw [← hK.cell (p := ⟨g, _, none⟩) hg hgb] at q0 q1 q2 q3
        have hdr : x.list.drop i = y :: x.list.drop (i + 1) := by
          rw [List.drop_eq_getElem_cons (List.getElem?_eq_some_iff.1 hy).1, (List.getElem?_eq_some_iff.1 hy).2]
        rw [hdr, walkL_cons] at hw
        have hC' := hC.keep hK (fun g h e => hF (e ▸ h))
        have hyp : y.parts ≤ n := by
          have := Val.parts_lt (v := x) (List.mem_of_getElem? hy)
          omega
        have hin' : (i : Int) < ln := by omega
        cases hce : (cur.2 != 0) with
        | true =>
          rw [hce] at hw
          have HX := Lib.hid (And.intro hw (And.intro hT hK))
          clear hw hT hK hgk hbd hC hC' hdr hy
          go_wp2_with fail
          have hr' := HX.out.1
          simp only [cond_true] at hr'
          subst hr'
          exact bodyPost_ret (v := .tuple #[]) (by simp only [results, Tryz.results102]; go_simp) rfl ⟨rfl, HX.out.2.1.keep (S := fun _ => False) ((Keeps.refl _ _).alloc _) (fun f => f), HX.out.2.2.alloc _⟩
        | false =>
          rw [hce] at hw
          have hc0 : cur.2 = 0 := by simpa using hce
          obtain ⟨hb1, hb2⟩ := hbd hc0
          have HX := Lib.hid (And.intro hw (And.intro hT (And.intro hK hgk)))
          have hTA := hT.keep (S := fun _ => False) ((Keeps.refl _ _).alloc (.cells #[.int .i64 c'.kind, .int .i64 c'.n, .string c'.s, .slice c'.la c'.ln c'.lc] 63)) (fun f => f)
          have hCA := hC'.keep (S := fun _ => False) ((Keeps.refl _ _).alloc (.cells #[.int .i64 c'.kind, .int .i64 c'.n, .string c'.s, .slice c'.la c'.ln c'.lc] 63)) (fun _ _ f => f)
          have CA := Lib.hid (HI.out y hyp b (d + 1) cur.1 cur.2 c' F _ hTA hCA hF (by omega) (fun _ => hb1))
          clear hw hT hK hgk hbd hC hC' hdr hy hTA hCA
          go_wp2_with fail
          refine CA.out.mono ?_
          rintro e w5 ⟨rfl, hT5, hK5⟩
          have hb5 := walkV_bd y (d + 1) (cur.1, cur.2) (fun _ => hb1)
          have H5 := Lib.hid (And.intro hT5 (And.intro hK5 hb5))
          clear hT5 hK5 hb5
          go_wp2_with fail
          go_roundg (x.list.length - (i + 1))
          case measure => have := HX.out.2.2.2; have := HL.out; omega
          case rel =>
            have hw' := HX.out.1
            simp only [cond_false] at hw'
            refine ⟨i + 1, _, by simp, (by have := HL.out; omega), rfl, H5.out.1, (HX.out.2.2.1.alloc _).trans H5.out.2.1 (fun _ _ e => e), hw', (fun h => ⟨H5.out.2.2 h, hb2⟩), ?_⟩
            have := H5.out.2.1.size
            simp at this
            omega
      · obtain rfl : i = ln := by have := HL.out; omega
        rw [List.drop_eq_nil_of_le (by have := HL.out; omega), walkL_nil] at hw
        have HX := Lib.hid (And.intro hw (And.intro hT hK))
        clear hw hT hK hgk hbd
        go_wp2_with fail
        have hr' := HX.out.1
        subst hr'
        go_end0
        exact ⟨rfl, HX.out.2.1, HX.out.2.2⟩
    --]]wl3
--]]walkL
--[[walk0
set_option maxRecDepth 100000 in
set_option maxHeartbeats 8000000 in
theorem walk_list0 (x : Val)
    (b d p : Nat) (e : Int) (ck cn : Int) (cs : ByteArray) (la : Option Addr) (ln lc : Nat) (F : Nat → Prop) (w : World) (H : CX w b (p, e)) (C : CF F w ⟨ck, cn, cs, la, ln, lc⟩ x) (hF : ¬ F b) (hd : d ≤ 8) (hp : e = 0 → p ≤ 256) (r : Nat × Int) (hr : walkV x d (p, e) = r)
    (he : e = 0) (h3 : (x.kind == 3) = true) (h2 : ¬ 256 ≤ p) (hl : x.list = []) (hl0 : ln = 0) :
    Calls Tryz.prog 102 #[.pointer (some ⟨b, 0, none⟩), .agg #[.int .i64 ck, .int .i64 cn, .string cs, .slice la ln lc], .int .i64 d] w (WPost w b r)
    := by
  have _h := hF
  subst he
  subst hl0
  have b0 := H.lt
  have c0 := H.c0
  have c1 := H.c1
  have f0 := H.fr
  rw [walkV_eq] at hr
  have hck : ck = x.kind := C.kind
  have hcs : cs = x.txt := C.s
  have HH := Lib.hid (And.intro H C)
  clear H C
  dsimp only at c0 c1
  simp only [bne_self_eq_false, cond_false] at hr
  have hp := hp rfl
  have k0 : (x.kind == 0 || x.kind == 1) = false := by have := beq_iff_eq.1 h3; rw [this]; rfl
  have k2 : (x.kind == 2) = false := by have := beq_iff_eq.1 h3; rw [this]; rfl
  have hck3 : ck = 3 := by rw [hck]; exact beq_iff_eq.1 h3
  subst hck3
  rw [k0, k2, h3] at hr
  have hd2 : decide (256 ≤ p) = false := by rw [decide_eq_false_iff_not]; exact h2
  rw [hd2, hl, walkL_nil] at hr
  simp only [cond_false, cond_true] at hr
  have e2 : ¬ (256 : Int) < (p : Int) + 1 := by omega
  have T0 := HH.out.1.set0 (p + 1)
  have K0 : Keeps (fun j => j = b) w (w.setCell ⟨b, 0, none⟩ (.int .i64 ((p : Int) + 1))) := Keeps.setCell (S := fun j => j = b) (p := ⟨b, 0, none⟩) (Keeps.refl _ w) (.inl rfl) _
  have KA : ∀ W, Keeps (fun _ => False) W (W.alloc (.cells #[.int .i64 3, .int .i64 cn, .string cs, .slice la 0 lc] 63)) := fun W => (Keeps.refl _ _).alloc _
  have HT := Lib.hid (And.intro T0 (And.intro K0 KA))
  clear T0 K0 KA hck hcs k0 k2 h3 hd2 h2
  go_enter Tryz.func102, Tryz.ntmps102
  by_cases h8 : 8 ≤ d
  · have t8 : (8 : Int) ≤ d := by omega
    have t9 : decide (8 ≤ d) = true := by rw [decide_eq_true_eq]; exact h8
    rw [t9] at hr
    have HR := Lib.hid hr
    clear hr t9
    go_wp2_with fail
    have T1 := (HT.out.1.set1 30).keep (HT.out.2.2 _) (fun f => f)
    have K1 := (HT.out.2.1.setCell (p := ⟨b, 1, none⟩) (.inl rfl) (.int .i64 30)).alloc (.cells #[.int .i64 3, .int .i64 cn, .string cs, .slice la 0 lc] 63)
    go_loopg [64] (0) (fun _ v64 wr => v64 = .int .i64 0 ∧ CX wr b (p + 1, 30) ∧ Keeps (fun j => j = b) w wr)
    case atStart => exact ⟨rfl, T1, K1⟩
    case round =>
      obtain ⟨rfl, hT, hK⟩ := hrel
      have hr' := HR.out
      simp only [cond_true] at hr'
      subst hr'
      clear c0 c1 f0 T1 K1 HR
      go_wp2_with fail
      go_end0
      exact ⟨rfl, hT, hK⟩
  · have t8 : ¬ (8 : Int) ≤ d := by omega
    have t9 : decide (8 ≤ d) = false := by rw [decide_eq_false_iff_not]; exact h8
    rw [t9] at hr
    have HR := Lib.hid hr
    clear hr t9
    go_wp2_with fail
    have T1 := HT.out.1.keep (HT.out.2.2 _) (fun f => f)
    have K1 := HT.out.2.1.alloc (.cells #[.int .i64 3, .int .i64 cn, .string cs, .slice la 0 lc] 63)
    go_loopg [64] (0) (fun _ v64 wr => v64 = .int .i64 0 ∧ CX wr b (p + 1, 0) ∧ Keeps (fun j => j = b) w wr)
    case atStart => exact ⟨rfl, T1, K1⟩
    case round =>
      obtain ⟨rfl, hT, hK⟩ := hrel
      have hr' := HR.out
      simp at hr'
      subst hr'
      clear c0 c1 f0 T1 K1 HR
      go_wp2_with fail
      go_end0
      exact ⟨rfl, hT, hK⟩
--]]walk0
--[[walk
theorem walk_any : ∀ (n : Nat) (x : Val), x.parts ≤ n → ∀ (b d p : Nat) (e : Int) (c : VC) (F : Nat → Prop) (w : World), CX w b (p, e) → CF F w c x → ¬ F b → d ≤ 8 → (e = 0 → p ≤ 256) →
      Calls Tryz.prog 102 #[.pointer (some ⟨b, 0, none⟩), .agg #[.int .i64 c.kind, .int .i64 c.n, .string c.s, .slice c.la c.ln c.lc], .int .i64 d] w (WPost w b (walkV x d (p, e)))
  | 0, x, hx, _, _, _, _, _, _, _, _, _, _, _, _ => by have := x.parts_pos; omega
  | n + 1, x, hx, b, d, p, e, ⟨ck, cn, cs, la, ln, lc⟩, F, w, H, C, hF, hd, hp => by
    cases he : (e != 0) with
    | true => exact walk_err x b d p e ck cn cs la ln lc F w H C hF hd hp _ rfl he
    | false =>
      have he0 : e = 0 := by simpa using he
      by_cases h2 : 256 ≤ p
      · exact walk_one x b d p e ck cn cs la ln lc F w H C hF hd hp _ rfl he0 (.inr h2)
      · cases h3 : (x.kind == 3) with
        | false => exact walk_one x b d p e ck cn cs la ln lc F w H C hF hd hp _ rfl he0 (.inl h3)
        | true =>
          obtain ⟨h4, h5, h6⟩ := C.l.elems
          rcases h6 with h6 | ⟨g, off, hla, hFg, hg, h6⟩
          · exact walk_list0 x b d p e ck cn cs la ln lc F w H C hF hd hp _ rfl he0 h3 h2 h6 (by rw [show ln = x.list.length from h4, h6]; rfl)
          · exact walk_list n (fun y hy => walk_any n y hy) x b d p e ck cn cs la ln lc F w H C hF hd hp _ rfl he0 h3 h2 hx g off ⟨h4, h5, fun i y hy => ⟨hFg, hg, h6 i y hy⟩⟩ hla
--]]walk
end Go.Proofs.YtielnengimninaaGreatDoor
