/- foliotlaw12.fits, good, walked. -/
import Derived.Test.YtielnengimninaaGreatDoorV36
import Derived.Test.YtielnengimninaaGreatDoorV59
namespace Go.Va
open Go.Own Go.RowKit
/-- is a value of a size with which this is tried? what is left then -/
def fitW (d : Int) : Val → Int → Bool × Int
  | .mk _ _ s l, left => bif decide (left - 1 < 0) || (decide (12 < d) || decide (300 < s.size)) then (false, left - 1) else fitX (d + 1) l (left - 1)
where fitX (d : Int) : List Val → Int → Bool × Int
  | [], left => (true, left)
  | x :: r, left => bif (fitW d x left).1 then fitX d r (fitW d x left).2 else (false, (fitW d x left).2)
theorem fitW_eq (d : Int) (x : Val) (left : Int) : fitW d x left = bif decide (left - 1 < 0) || (decide (12 < d) || decide (300 < x.txt.size)) then (false, left - 1) else fitW.fitX (d + 1) x.list (left - 1) := by
  cases x
  rw [fitW]
  rfl
theorem fitX_cons (d : Int) (x : Val) (r : List Val) (left : Int) : fitW.fitX d (x :: r) left = bif (fitW d x left).1 then fitW.fitX d r (fitW d x left).2 else (false, (fitW d x left).2) := by rw [fitW.fitX]
theorem fitX_nil (d : Int) (left : Int) : fitW.fitX d [] left = (true, left) := by rw [fitW.fitX]
mutual
theorem fitW_bd : ∀ (x : Val) (d left : Int), left ≤ 400 → (fitW d x left).2 ≤ 400 ∧ ((fitW d x left).1 = true → 0 ≤ (fitW d x left).2)
  | .mk k n s l, d, left, h => by
    rw [fitW]
    by_cases h1 : left - 1 < 0
    · rw [decide_eq_true h1]
      simp
      omega
    · rw [decide_eq_false h1]
      cases (decide (12 < d) || decide (300 < s.size))
      · simp only [Bool.false_or, cond_false]
        exact fitX_bd l (d + 1) (left - 1) (by omega) (by omega)
      · simp
        omega
theorem fitX_bd : ∀ (l : List Val) (d left : Int), left ≤ 400 → 0 ≤ left → (fitW.fitX d l left).2 ≤ 400 ∧ ((fitW.fitX d l left).1 = true → 0 ≤ (fitW.fitX d l left).2)
  | [], d, left, h, h0 => by rw [fitX_nil]; exact ⟨h, fun _ => h0⟩
  | x :: r, d, left, h, h0 => by
    rw [fitX_cons]
    have h1 := fitW_bd x d left h
    cases hf : (fitW d x left).1 with
    | false => exact ⟨h1.1, fun e => by cases e⟩
    | true => exact fitX_bd r d _ h1.1 (h1.2 hf)
end
mutual
theorem fitW_txt : ∀ (x : Val) (d left : Int), (fitW d x left).1 = true → x.all (fun _ _ s => s.size ≤ 300)
  | .mk k n s l, d, left, h => by
    rw [fitW] at h
    rw [Val.all]
    cases hc : (decide (left - 1 < 0) || (decide (12 < d) || decide (300 < s.size))) with
    | true => rw [hc] at h; cases h
    | false =>
      rw [hc] at h
      simp only [cond_false] at h
      simp only [Bool.or_eq_false_iff, decide_eq_false_iff_not] at hc
      exact ⟨by omega, fitX_txt l (d + 1) _ h⟩
theorem fitX_txt : ∀ (l : List Val) (d left : Int), (fitW.fitX d l left).1 = true → Val.all.allL (fun _ _ s => s.size ≤ 300) l
  | [], _, _, _ => by rw [Val.all.allL]; trivial
  | x :: r, d, left, h => by
    rw [fitX_cons] at h
    rw [Val.all.allL]
    cases hf : (fitW d x left).1 with
    | false => rw [hf] at h; cases h
    | true =>
      rw [hf] at h
      exact ⟨fitW_txt x d left hf, fitX_txt r d _ h⟩
end
end Go.Va
namespace Go.Proofs.YtielnengimninaaGreatDoor
open Go.RowKit Go.Own Go.Own.MapTy Go.Va Go.Sort
open Go.Own.Cells (sz enc)
/-- is an image one that may be, and of a size with which this is tried? -/
def goodL (p : Img) : Bool :=
  bif decide (60 < p.code.length) || (decide (20 < p.consts.length) || decide (20 < p.names.length)) then false else (fitW.fitX 0 p.consts 100).1 && (p.names.all (fun s => decide (s.size ≤ 100)) && imgL p == 0)
theorem all_300 : ∀ {x : Val}, x.all (fun _ _ s => s.size ≤ 300) → x.all (fun _ _ s => s.size ≤ 1100)
  | .mk k n s l, h => by
    rw [Val.all] at h ⊢
    refine ⟨by have := h.1; omega, ?_⟩
    have h2 := h.2
    rw [Val.allL_iff] at h2 ⊢
    exact fun x hx => all_300 (h2 x hx)
/-- values of such a size may be -/
theorem fits_wf {l : List Val} {left : Int} (hf : (fitW.fitX 0 l left).1 = true) (hb : Val.all.allL B64 l) : ∀ x ∈ l, x.wf := fun x hx => wf_of (Val.allL_iff.1 hb x hx) (all_300 (Val.allL_iff.1 (fitX_txt l 0 left hf) x hx))
def FWRel (w : World) (b : Nat) (d : Int) (l : List Val) (r : Bool × Int) (gk : Nat) (v31 : Value) (wr : World) : Prop :=
  ∃ (i : Nat) (cur : Int), v31 = .int .i64 i ∧ i ≤ l.length ∧ gk = l.length - i ∧ LX wr b cur ∧ Keeps (fun j => j = b) w wr ∧ fitW.fitX d (l.drop i) cur = r ∧ 0 ≤ cur ∧ cur ≤ 400
--[[fits
set_option maxRecDepth 100000 in
set_option maxHeartbeats 8000000 in
theorem gfits_step (n : Nat) (IH : ∀ (x : Val), x.parts ≤ n → ∀ (b : Nat) (d left : Int) (c : VC) (F : Nat → Prop) (w : World), LX w b left → CF F w c x → ¬ F b → 0 ≤ left → left ≤ 400 → 0 ≤ d → d ≤ 100 →
      Calls Tryz.prog 29 #[.agg #[.int .i64 c.kind, .int .i64 c.n, .string c.s, .slice c.la c.ln c.lc], .int .i64 d, .pointer (some ⟨b, 0, none⟩)] w (FPost w b (fitW d x left)))
    (x : Val) (hx : x.parts ≤ n + 1) (b : Nat) (d left : Int) (ck cn : Int) (cs : ByteArray) (la : Option Addr) (ln lc : Nat) (F : Nat → Prop) (w : World) (H : LX w b left) (C : CF F w ⟨ck, cn, cs, la, ln, lc⟩ x) (hF : ¬ F b) (h0 : 0 ≤ left) (h4 : left ≤ 400) (hd0 : 0 ≤ d) (hd : d ≤ 100) (r : Bool × Int) (hr : fitW d x left = r) :
    Calls Tryz.prog 29 #[.agg #[.int .i64 ck, .int .i64 cn, .string cs, .slice la ln lc], .int .i64 d, .pointer (some ⟨b, 0, none⟩)] w (FPost w b r) := by
  rw [fitW_eq] at hr
  have HI := Lib.hid IH
  have hcs : cs = x.txt := C.s
  rw [← hcs] at hr
  have b0 := lt_of_heap H
  have c0 := H.c
  have f0 : ∀ o, w.frozen? ⟨b, o, none⟩ = false := fun o => frozen_of_heap H o
  obtain ⟨hln, hlm, hel⟩ := C.l.elems
  dsimp only at hln hlm hel
  have hw1 : IntKind.i64.wrap (left - 1) = left - 1 := IntWalk.i64_in _ (by omega)
  have hwd : IntKind.i64.wrap (d + 1) = d + 1 := IntWalk.i64_in _ (by omega)
  have HL := Lib.hid hln
  have hlm' : ln ≤ 9223372036854775807 := by unfold maxLen at hlm; omega
  have HE := Lib.hid hel
  have bne : ¬ w.heap.size = b := by omega
  have bne2 : ¬ b = w.heap.size := by omega
  have HS := Lib.hid (And.intro (H.set (left - 1)) (Keeps.setCell (S := fun j => j = b) (p := ⟨b, 0, none⟩) (Keeps.refl _ w) (.inl rfl) (.int .i64 (left - 1))))
  clear IH C hcs H hln hlm hel
  go_enter Tryz.func29, Tryz.ntmps29
  have key : (decide (left - 1 < 0) || (decide (12 < d) || decide (300 < cs.size))) = true ∨ (decide (left - 1 < 0) = false ∧ decide (12 < d) = false ∧ decide (300 < cs.size) = false) := by
    cases decide (left - 1 < 0) <;> cases decide (12 < d) <;> cases decide (300 < cs.size) <;> simp
  rcases key with hc | ⟨h1, h2, h3⟩
  · rw [hc] at hr
    simp only [cond_true] at hr
    subst hr
    have KA : ∀ (X : World) (o : Obj), Keeps (fun j => j = b) X (X.alloc o) := fun X o => (Keeps.refl _ _).alloc _
    cases h1 : decide (left - 1 < 0) with
    | true =>
      --[[f1
      clear hc
      go_wp2_with fail
      go_ret
      exact ⟨rfl, Lib.hid ⟨HS.out.1.keep (S := fun _ => False) ((Keeps.refl _ _).alloc _) (fun f => f), HS.out.2.alloc _⟩⟩
      --]]f1
    | false =>
      cases h2 : decide (12 < d) with
      | true =>
        --[[f2
        clear hc
        go_wp2_with fail
        go_ret
        exact ⟨rfl, Lib.hid ⟨HS.out.1.keep (S := fun _ => False) ((Keeps.refl _ _).alloc _) (fun f => f), HS.out.2.alloc _⟩⟩
        --]]f2
      | false =>
        --[[f3
        have h3 : decide (300 < cs.size) = true := by rw [h1, h2] at hc; simpa using hc
        have h4 : (300 : Int) < cs.size := by have := of_decide_eq_true h3; omega
        clear hc h3
        go_wp2_with fail
        go_ret
        exact ⟨rfl, Lib.hid ⟨HS.out.1.keep (S := fun _ => False) ((Keeps.refl _ _).alloc _) (fun f => f), HS.out.2.alloc _⟩⟩
        --]]f3
  · rw [h1, h2, h3] at hr
    simp only [Bool.or_self, cond_false] at hr
    have h5 : ¬ (300 : Int) < cs.size := by have := of_decide_eq_false h3; omega
    have h6 : 0 ≤ left - 1 := by have := of_decide_eq_false h1; omega
    have hl := Lib.hid hr
    clear hr h3
    --[[f4
    go_wp2_with fail
    obtain ⟨w1, hw1'⟩ : ∃ w1, w1 = (w.setCell ⟨b, 0, none⟩ (.int .i64 (left - 1))).alloc (.cells #[.int .i64 ck, .int .i64 cn, .string cs, .slice la ln lc] 63) := ⟨_, rfl⟩
    have X1 : LX w1 b (left - 1) := by rw [hw1']; exact HS.out.1.keep (S := fun _ => False) ((Keeps.refl _ _).alloc _) (fun f => f)
    have K1 : Keeps (fun j => j = b) w w1 := by rw [hw1']; exact HS.out.2.alloc _
    rw [← hw1']
    have H1 := Lib.hid (And.intro X1 K1)
    clear hw1' X1 K1 c0 f0 bne bne2
    go_loopg [31] (x.list.length) (fun gk v31 wr => FWRel w b (d + 1) x.list r gk v31 wr)
    case atStart => exact ⟨0, _, rfl, Nat.zero_le _, rfl, H1.out.1, H1.out.2, hl.out, h6, by omega⟩
    case round =>
      obtain ⟨i, cur, rfl, hi, hgk, hX, hK, hf, hc0, hc4⟩ := hrel
      by_cases hin : i < ln
      · obtain ⟨y, hy⟩ := elem_at (l := x.list) (k := i) (by have := HL.out; omega)
        obtain ⟨g, off, rfl, hFg, hg, hel⟩ := HE.out.resolve_left (fun e => by rw [e] at hy; simp at hy)
        obtain ⟨c', hC, q0, q1, q2, q3⟩ := hel i y hy
        have hgb : ¬ g = b := fun e => hF (e ▸ hFg)
        have hgl : g < wr.heap.size := by have := hK.size; omega
        rw [← hK.cell (p := ⟨g, _, none⟩) hg hgb] at q0 q1 q2 q3
        have hdr : x.list.drop i = y :: x.list.drop (i + 1) := by
          rw [List.drop_eq_getElem_cons (List.getElem?_eq_some_iff.1 hy).1, (List.getElem?_eq_some_iff.1 hy).2]
        rw [hdr, fitX_cons] at hf
        have hyp : y.parts ≤ n := by
          have := Val.parts_lt (v := x) (List.mem_of_getElem? hy)
          omega
        have hin' : (i : Int) < ln := by omega
        have hwi : IntKind.i64.wrap ((i : Int) + 1) = (i : Int) + 1 := IntWalk.i64_in _ (by omega)
        have CA := Lib.hid (HI.out y hyp b (d + 1) cur c' F _ (hX.keep (S := fun _ => False) ((Keeps.refl _ _).alloc (.cells #[.int .i64 c'.kind, .int .i64 c'.n, .string c'.s, .slice c'.la c'.ln c'.lc] 63)) (fun f => f)) ((hC.keep hK (fun g h e => hF (e ▸ h))).keep (S := fun _ => False) ((Keeps.refl _ _).alloc _) (fun _ _ f => f)) hF hc0 hc4 (by omega) (by have := of_decide_eq_false h2; omega))
        have hbd := fitW_bd y (d + 1) cur hc4
        generalize fitW (d + 1) y cur = fv at *
        have HX := Lib.hid (And.intro hf (And.intro hgk (And.intro hK hbd)))
        clear hf hgk hK hbd hC hX hdr hy hel
        go_wp2_with fail
        refine CA.out.mono ?_
        rintro e w5 ⟨rfl, H5⟩
        have K5 : Keeps (fun j => j = b) w w5 := (HX.out.2.2.1.alloc _).trans H5.out.2 (fun _ _ e => e)
        have HK5 := Lib.hid K5
        clear K5 CA
        cases hfv : fv.1 with
        | false =>
          have hr := HX.out.1
          rw [hfv] at hr
          simp only [cond_false] at hr
          subst hr
          go_wp2_with fail
          go_ret
          exact ⟨rfl, Lib.hid ⟨H5.out.1, HK5.out⟩⟩
        | true =>
          have hr := HX.out.1
          rw [hfv] at hr
          simp only [cond_true] at hr
          have HR := Lib.hid hr
          clear hr
          go_wp2_with fail
          go_roundg (x.list.length - (i + 1))
          case measure => have := HX.out.2.1; have := HL.out; omega
          case rel => exact ⟨i + 1, fv.2, by simp, by have := HL.out; omega, rfl, H5.out.1, HK5.out, HR.out, HX.out.2.2.2.2 hfv, HX.out.2.2.2.1⟩
      · obtain rfl : i = ln := by have := HL.out; omega
        rw [List.drop_eq_nil_of_le (by have := HL.out; omega), fitX_nil] at hf
        have HX := Lib.hid (And.intro hX hK)
        subst hf
        clear hX hK hgk
        go_wp2_with fail
        go_ret
        exact ⟨rfl, Lib.hid ⟨HX.out.1, HX.out.2⟩⟩
    --]]f4
--]]fits
theorem gfits_any : ∀ (n : Nat) (x : Val), x.parts ≤ n → ∀ (b : Nat) (d left : Int) (c : VC) (F : Nat → Prop) (w : World), LX w b left → CF F w c x → ¬ F b → 0 ≤ left → left ≤ 400 → 0 ≤ d → d ≤ 100 →
      Calls Tryz.prog 29 #[.agg #[.int .i64 c.kind, .int .i64 c.n, .string c.s, .slice c.la c.ln c.lc], .int .i64 d, .pointer (some ⟨b, 0, none⟩)] w (FPost w b (fitW d x left))
  | 0, x, hx, _, _, _, _, _, _, _, _, _, _, _, _, _ => by have := x.parts_pos; omega
  | n + 1, x, hx, b, d, left, ⟨ck, cn, cs, la, ln, lc⟩, F, w, H, C, hF, h0, h4, hd0, hd => gfits_step n (fun y hy => gfits_any n y hy) x hx b d left ck cn cs la ln lc F w H C hF h0 h4 hd0 hd _ rfl
--[[good
set_option maxRecDepth 100000 in
set_option maxHeartbeats 8000000 in
theorem good_any (F : Nat → Prop) (w : World) (i : IC) (p : Img) (H : IAt F w i p) (hb : Val.all.allL B64 p.consts) (r : Bool) (hr : goodL p = r) :
    Calls Tryz.prog 24 #[.agg #[.slice i.ca i.cn i.cc, .slice i.ka i.kn i.kc, .slice i.na i.nn i.nc, .int .i64 i.pl]] w fun e w' => e = .returned (.bool r) ∧ Below w.heap.size w w' := by
  obtain ⟨h1, h2, h3⟩ := H.lens
  have HI := Lib.hid (And.intro H hb)
  have hk := H.consts.elems.2.2
  have hn := H.names.elems.2.2
  obtain ⟨ca, cn, cc, ka, kn, kc, na, nn, nc, pl⟩ := i
  dsimp only at h1 h2 h3 hk hn
  have HE := Lib.hid (And.intro hk hn)
  have HL := Lib.hid (And.intro h1 (And.intro h2 h3))
  unfold goodL at hr
  rw [← h1, ← h2, ← h3] at hr
  clear H hb h1 h2 h3 hk hn
  dsimp only
  go_enter Tryz.func24, Tryz.ntmps24
  cases g1 : decide (60 < cn) with
  | true =>
    have e1 : (60 : Int) < cn := by have := of_decide_eq_true g1; omega
    rw [g1] at hr
    subst hr
    clear g1
    go_wp2_with fail
    go_ret
    exact ⟨rfl, (Below.refl _ _).alloc (Nat.le_refl _) _⟩
  | false =>
    have e1 : ¬ (60 : Int) < cn := by have := of_decide_eq_false g1; omega
    cases g2 : decide (20 < kn) with
    | true =>
      have e2 : (20 : Int) < kn := by have := of_decide_eq_true g2; omega
      rw [g1, g2] at hr
      subst hr
      clear g1 g2
      go_wp2_with fail
      go_ret
      exact ⟨rfl, (Below.refl _ _).alloc (Nat.le_refl _) _⟩
    | false =>
      have e2 : ¬ (20 : Int) < kn := by have := of_decide_eq_false g2; omega
      cases g3 : decide (20 < nn) with
      | true =>
        have e3 : (20 : Int) < nn := by have := of_decide_eq_true g3; omega
        rw [g1, g2, g3] at hr
        subst hr
        clear g1 g2 g3
        go_wp2_with fail
        go_ret
        exact ⟨rfl, (Below.refl _ _).alloc (Nat.le_refl _) _⟩
      | false =>
        have e3 : ¬ (20 : Int) < nn := by have := of_decide_eq_false g3; omega
        rw [g1, g2, g3] at hr
        simp only [Bool.or_self, cond_false] at hr
        have hkn : kn ≤ 20 := by have := of_decide_eq_false g2; omega
        have hnn : nn ≤ 20 := by have := of_decide_eq_false g3; omega
        have HR := Lib.hid hr
        clear hr g1 g2 g3
        --[[s1
        go_wp2_with fail
        obtain ⟨w1, hw1⟩ : ∃ w1, w1 = (w.alloc (.cells #[.slice ca cn cc, .slice ka kn kc, .slice na nn nc, .int .i64 pl] 26)).alloc (.cells #[.int .i64 100] 3) := ⟨_, rfl⟩
        have B1 : Below w.heap.size w w1 := by rw [hw1]; exact ((Below.refl _ _).alloc (Nat.le_refl _) _).alloc (by simp) _
        have X1 : LX w1 (w.heap.size + 1) 100 := by rw [hw1]; exact heap_new2
        have hb1 : w1.heap[w.heap.size]? = some (.cells #[.slice ca cn cc, .slice ka kn kc, .slice na nn nc, .int .i64 pl] 26 (0, 0)) := by rw [hw1]; exact heap_lt2
        rw [← hw1]
        have H1 := Lib.hid (And.intro B1 (And.intro X1 hb1))
        clear hw1 B1 X1 hb1
        go_loopg [27] (p.consts.length) (fun gk v27 wr => FWRel w1 (w.heap.size + 1) 0 p.consts (fitW.fitX 0 p.consts 100) gk v27 wr)
        case atStart => exact ⟨0, 100, rfl, Nat.zero_le _, rfl, H1.out.2.1, Keeps.refl _ _, rfl, by decide, by decide⟩
        case round =>
          obtain ⟨i, cur, rfl, hi, hgk, hX, hK, hf, hc0, hc4⟩ := hrel
          have hbw : Below w.heap.size w wr := H1.out.1.trans (hK.below (by have := lt_of_heap H1.out.2.2; omega) (fun j hj e => by omega))
          by_cases hin : i < kn
          · obtain ⟨y, hy⟩ := elem_at (l := p.consts) (k := i) (by have := HL.out.2.1; omega)
            obtain ⟨g, off, rfl, hFg, hg, hel⟩ := HE.out.1.resolve_left (fun e => by rw [e] at hy; simp at hy)
            obtain ⟨c', hC, q0, q1, q2, q3⟩ := hel i y hy
            have hgl : g < wr.heap.size := by have := hbw.size; omega
            rw [← hbw.cell (p := ⟨g, _, none⟩) hg] at q0 q1 q2 q3
            have hdr : p.consts.drop i = y :: p.consts.drop (i + 1) := by
              rw [List.drop_eq_getElem_cons (List.getElem?_eq_some_iff.1 hy).1, (List.getElem?_eq_some_iff.1 hy).2]
            rw [hdr, fitX_cons] at hf
            have hin' : (i : Int) < kn := by omega
            have hwi : IntKind.i64.wrap ((i : Int) + 1) = (i : Int) + 1 := IntWalk.i64_in _ (by omega)
            have CA := Lib.hid (gfits_any _ y (Nat.le_refl _) (w.heap.size + 1) 0 cur c' (fun j => j < w.heap.size) _ (hX.keep (S := fun _ => False) ((Keeps.refl _ _).alloc (.cells #[.int .i64 c'.kind, .int .i64 c'.n, .string c'.s, .slice c'.la c'.ln c'.lc] 63)) (fun f => f)) (((hC.mono (G := fun j => j < w.heap.size) (fun _ _ h => h)).keep (S := fun _ => False) (Keeps.of_below hbw) (fun _ _ f => f)).keep (S := fun _ => False) ((Keeps.refl _ _).alloc _) (fun _ _ f => f)) (by omega) hc0 hc4 (Int.le_refl 0) (by decide))
            have hbd := fitW_bd y 0 cur hc4
            generalize fitW 0 y cur = fv at *
            have HX := Lib.hid (And.intro hf (And.intro hgk (And.intro hK (And.intro hbd hbw))))
            clear hf hgk hK hbd hC hX hdr hy hel hbw
            --[[s2
            go_wp2_with fail
            refine CA.out.mono ?_
            rintro e w5 ⟨rfl, H5⟩
            have K5 := (HX.out.2.2.1.alloc (.cells #[.int .i64 c'.kind, .int .i64 c'.n, .string c'.s, .slice c'.la c'.ln c'.lc] 63)).trans H5.out.2 (fun _ _ e => e)
            have HK5 := Lib.hid K5
            clear K5 CA
            cases hfv : fv.1 with
            | false =>
              have hr := HX.out.1
              rw [hfv] at hr
              simp only [cond_false] at hr
              have hr2 := HR.out
              rw [← hr] at hr2
              simp only [Bool.false_and] at hr2
              subst hr2
              clear hr
              go_wp2_with fail
              go_ret
              exact ⟨rfl, H1.out.1.trans (HK5.out.below (by have := lt_of_heap H1.out.2.2; omega) (fun j hj e => by omega))⟩
            | true =>
              have hr := HX.out.1
              rw [hfv] at hr
              simp only [cond_true] at hr
              have HR2 := Lib.hid hr
              clear hr
              go_wp2_with fail
              go_roundg (p.consts.length - (i + 1))
              case measure => have := HX.out.2.1; have := HL.out.2.1; omega
              case rel => exact ⟨i + 1, fv.2, by simp, by have := HL.out.2.1; omega, rfl, H5.out.1, HK5.out, HR2.out, HX.out.2.2.2.1.2 hfv, HX.out.2.2.2.1.1⟩
            --]]s2
          · obtain rfl : i = kn := by have := HL.out.2.1; omega
            rw [List.drop_eq_nil_of_le (by have := HL.out.2.1; omega), fitX_nil] at hf
            have hr := HR.out
            rw [← hf] at hr
            simp only [Bool.true_and] at hr
            have lt1 : w.heap.size < wr.heap.size := by have := hbw.size; have := lt_of_heap hX; omega
            have hb2 := (hK.block w.heap.size (lt_of_heap H1.out.2.2) (by omega)).trans H1.out.2.2
            have q2 : wr.cell? ⟨w.heap.size, 2, none⟩ = some (.slice na nn nc) := by rw [cell_of_heap hb2]; rfl
            have q0 : wr.cell? ⟨w.heap.size, 0, none⟩ = some (.slice ca cn cc) := by rw [cell_of_heap hb2]; rfl
            have q1 : wr.cell? ⟨w.heap.size, 1, none⟩ = some (.slice ka i kc) := by rw [cell_of_heap hb2]; rfl
            have q3 : wr.cell? ⟨w.heap.size, 3, none⟩ = some (.int .i64 pl) := by rw [cell_of_heap hb2]; rfl
            have HR2 := Lib.hid (And.intro hr hbw)
            have HF := Lib.hid (show (fitW.fitX 0 p.consts 100).1 = true by rw [← hf])
            obtain ⟨wo, rfl⟩ : ∃ wo : World, wo = wr := ⟨_, rfl⟩
            clear hr hbw hf hX hK hgk hb2
            --[[s3
            go_wp2_with fail
            go_loopg [38] (p.names.length) (fun gk v38 wr => ∃ j : Nat, v38 = .int .i64 j ∧ j ≤ p.names.length ∧ gk = p.names.length - j ∧ ((p.names.drop j).all (fun s => decide (s.size ≤ 100)) && imgL p == 0) = r ∧ wr = wo)
            case atStart => exact ⟨0, rfl, Nat.zero_le _, rfl, HR2.out.1, rfl⟩
            case round =>
              obtain ⟨j, rfl, hj, hgk, hall, hwr⟩ := hrel
              subst hwr
              by_cases hjn : j < nn
              · obtain ⟨x, hx⟩ := elem_at (l := p.names) (k := j) (by have := HL.out.2.2; omega)
                have hdr : p.names.drop j = x :: p.names.drop (j + 1) := by
                  rw [List.drop_eq_getElem_cons (List.getElem?_eq_some_iff.1 hx).1, (List.getElem?_eq_some_iff.1 hx).2]
                rw [hdr, List.all_cons] at hall
                obtain ⟨g, off, ha, hel⟩ := HE.out.2
                obtain ⟨hFg, hg, hcs⟩ := hel j x hx
                have ha := ha.resolve_right (fun e => by rw [e] at hx; simp at hx)
                subst ha
                have m0 := hcs 0 _ rfl
                rw [show off + (j * sz ByteArray + 0) = off + j from by simp [Cells.sz]] at m0
                rw [← HR2.out.2.cell (p := ⟨g, _, none⟩) hg] at m0
                have hgl : g < wr.heap.size := by have := HR2.out.2.size; omega
                have hjn' : (j : Int) < nn := by omega
                cases hz : decide (x.size ≤ 100) with
                | false =>
                  have h5 : (100 : Int) < x.size := by have := of_decide_eq_false hz; omega
                  rw [hz] at hall
                  simp only [Bool.false_and] at hall
                  subst hall
                  clear hgk hdr hx hcs hel hz
                  go_wp2_with fail
                  go_ret
                  exact ⟨rfl, HR2.out.2⟩
                | true =>
                  have h5 : ¬ (100 : Int) < x.size := by have := of_decide_eq_true hz; omega
                  rw [hz] at hall
                  simp only [Bool.true_and] at hall
                  have HX := Lib.hid (And.intro hall hgk)
                  clear hall hgk hdr hx hcs hel hz
                  go_wp2_with fail
                  go_roundg (p.names.length - (j + 1))
                  case measure => have := HX.out.2; have := HL.out.2.2; omega
                  case rel => exact ⟨j + 1, by simp, by have := HL.out.2.2; omega, rfl, HX.out.1, rfl⟩
              · obtain rfl : j = nn := by have := HL.out.2.2; omega
                rw [List.drop_eq_nil_of_le (by have := HL.out.2.2; omega), List.all_nil, Bool.true_and] at hall
                have HA := Lib.hid hall
                have RC := Lib.hid (rimg_any _ wr ⟨ca, cn, cc, ka, i, kc, na, j, nc, pl⟩ p (HI.out.1.keep (S := fun _ => False) (Keeps.of_below HR2.out.2) (fun _ _ f => f)) _ (fits_wf HF.out HI.out.2) rfl)
                clear hgk hall
                go_wp2_with fail
                refine RC.out.mono ?_
                rintro e w5 ⟨rfl, hB5⟩
                have H5 := Lib.hid hB5
                clear hB5 RC
                generalize imgL p = ig at *
                go_wp2_with fail
                go_ret
                exact ⟨by rw [← HA.out]; rfl, HR2.out.2.trans (H5.out.mono HR2.out.2.size)⟩
            --]]s3
        --]]s1
--]]good
end Go.Proofs.YtielnengimninaaGreatDoor
