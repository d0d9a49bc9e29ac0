/- foliotlaw13.fits, small, walked. -/
import Derived.Test.YtielnengimninaaGreatDoorV15
import Derived.Test.YtielnengimninaaGreatDoorV6
namespace Go.Va
open Go.Own Go.RowKit
/-- is a value of a size with which this is tried? what is left then -/
def fitV (d : Int) : Val → Int → Bool × Int
  | .mk _ _ s l, left => bif decide (left - 1 < 0) || (decide (12 < d) || decide (1100 < s.size)) then (false, left - 1) else fitL (d + 1) l (left - 1)
where fitL (d : Int) : List Val → Int → Bool × Int
  | [], left => (true, left)
  | x :: r, left => bif (fitV d x left).1 then fitL d r (fitV d x left).2 else (false, (fitV d x left).2)
theorem fitV_eq (d : Int) (x : Val) (left : Int) : fitV d x left = bif decide (left - 1 < 0) || (decide (12 < d) || decide (1100 < x.txt.size)) then (false, left - 1) else fitV.fitL (d + 1) x.list (left - 1) := by
  cases x
  rw [fitV]
  rfl
theorem fitL_cons (d : Int) (x : Val) (r : List Val) (left : Int) : fitV.fitL d (x :: r) left = bif (fitV d x left).1 then fitV.fitL d r (fitV d x left).2 else (false, (fitV d x left).2) := by rw [fitV.fitL]
theorem fitL_nil (d : Int) (left : Int) : fitV.fitL d [] left = (true, left) := by rw [fitV.fitL]
mutual
theorem fitV_bd : ∀ (x : Val) (d left : Int), left ≤ 400 → (fitV d x left).2 ≤ 400 ∧ ((fitV d x left).1 = true → 0 ≤ (fitV d x left).2)
  | .mk k n s l, d, left, h => by
    rw [fitV]
    by_cases h1 : left - 1 < 0
    · rw [decide_eq_true h1]
      simp
      omega
    · rw [decide_eq_false h1]
      cases (decide (12 < d) || decide (1100 < s.size))
      · simp only [Bool.false_or, cond_false]
        exact fitL_bd l (d + 1) (left - 1) (by omega) (by omega)
      · simp
        omega
theorem fitL_bd : ∀ (l : List Val) (d left : Int), left ≤ 400 → 0 ≤ left → (fitV.fitL d l left).2 ≤ 400 ∧ ((fitV.fitL d l left).1 = true → 0 ≤ (fitV.fitL d l left).2)
  | [], d, left, h, h0 => by rw [fitL_nil]; exact ⟨h, fun _ => h0⟩
  | x :: r, d, left, h, h0 => by
    rw [fitL_cons]
    have h1 := fitV_bd x d left h
    cases hf : (fitV d x left).1 with
    | false => exact ⟨h1.1, fun e => by cases e⟩
    | true => exact fitL_bd r d _ h1.1 (h1.2 hf)
end
/-- of all its values -/
def Val.all (P : Int → Int → ByteArray → Prop) : Val → Prop
  | .mk k n s l => P k n s ∧ allL l
where allL : List Val → Prop
  | [] => True
  | x :: r => x.all P ∧ allL r
theorem Val.all_eq (P : Int → Int → ByteArray → Prop) (x : Val) : x.all P ↔ P x.kind x.num x.txt ∧ Val.all.allL P x.list := by
  cases x
  rw [Val.all]
  rfl
theorem Val.allL_iff {P : Int → Int → ByteArray → Prop} : ∀ {l : List Val}, Val.all.allL P l ↔ ∀ x ∈ l, x.all P
  | [] => by rw [Val.all.allL]; simp
  | y :: r => by rw [Val.all.allL, Val.allL_iff]; simp
mutual
theorem fitV_txt : ∀ (x : Val) (d left : Int), (fitV d x left).1 = true → x.all (fun _ _ s => s.size ≤ 1100)
  | .mk k n s l, d, left, h => by
    rw [fitV] at h
    rw [Val.all]
    cases hc : (decide (left - 1 < 0) || (decide (12 < d) || decide (1100 < s.size))) with
    | true => rw [hc] at h; cases h
    | false =>
      rw [hc] at h
      simp only [cond_false] at h
      simp only [Bool.or_eq_false_iff, decide_eq_false_iff_not] at hc
      exact ⟨by omega, fitL_txt l (d + 1) _ h⟩
theorem fitL_txt : ∀ (l : List Val) (d left : Int), (fitV.fitL d l left).1 = true → Val.all.allL (fun _ _ s => s.size ≤ 1100) l
  | [], _, _, _ => by rw [Val.all.allL]; trivial
  | x :: r, d, left, h => by
    rw [fitL_cons] at h
    rw [Val.all.allL]
    cases hf : (fitV d x left).1 with
    | false => rw [hf] at h; cases h
    | true =>
      rw [hf] at h
      exact ⟨fitV_txt x d left hf, fitL_txt r d _ h⟩
end
/-- is an image of a size with which this is tried? -/
def smallL (codes : Nat) (consts : List Val) (names : List ByteArray) : Bool :=
  bif decide (50 < codes) || (decide (70 < consts.length) || decide (40 < names.length)) then false else (fitV.fitL 0 consts 300).1 && names.all (fun s => decide (s.size ≤ 200))
end Go.Va
namespace Go.Proofs.YtielnengimninaaGreatDoor
open Go.RowKit Go.Own Go.Own.MapTy Go.Va Go.Sort
open Go.Own.Cells (sz enc)
def LX (w : World) (b : Nat) (n : Int) : Prop := w.heap[b]? = some (.cells #[.int .i64 n] 3 (0, 0))
theorem LX.c {w : World} {b : Nat} {n : Int} (h : LX w b n) : w.cell? ⟨b, 0, none⟩ = some (.int .i64 n) := by rw [cell_of_heap h]; rfl
theorem LX.keep {w w' : World} {b : Nat} {n : Int} {S : Nat → Prop} (h : LX w b n) (K : Keeps S w w') (hs : ¬ S b) : LX w' b n := (K.block b (lt_of_heap h) hs).trans h
theorem LX.set {w : World} {b : Nat} {n : Int} (h : LX w b n) (m : Int) : LX (w.setCell ⟨b, 0, none⟩ (.int .i64 m)) b m := by
  unfold LX at h ⊢
  simp [World.setCell, Array.getElem?_modify, h]
def FPost (w : World) (b : Nat) (r : Bool × Int) (e : Ending) (w' : World) : Prop := e = .returned (.bool r.1) ∧ Hid (LX w' b r.2 ∧ Keeps (fun j => j = b) w w')
def FRel (w : World) (b : Nat) (d : Int) (l : List Val) (r : Bool × Int) (gk : Nat) (v31 : Value) (wr : World) : Prop :=
  ∃ (i : Nat) (cur : Int), v31 = .int .i64 i ∧ i ≤ l.length ∧ gk = l.length - i ∧ LX wr b cur ∧ Keeps (fun j => j = b) w wr ∧ fitV.fitL d (l.drop i) cur = r ∧ 0 ≤ cur ∧ cur ≤ 400
--[[fits
set_option maxRecDepth 100000 in
set_option maxHeartbeats 8000000 in
theorem fits_step (n : Nat) (IH : ∀ (x : Val), x.parts ≤ n → ∀ (b : Nat) (d left : Int) (c : VC) (F : Nat → Prop) (w : World), LX w b left → CF F w c x → ¬ F b → 0 ≤ left → left ≤ 400 → 0 ≤ d → d ≤ 100 →
      Calls Tryz.prog 35 #[.agg #[.int .i64 c.kind, .int .i64 c.n, .string c.s, .slice c.la c.ln c.lc], .int .i64 d, .pointer (some ⟨b, 0, none⟩)] w (FPost w b (fitV d x left)))
    (x : Val) (hx : x.parts ≤ n + 1) (b : Nat) (d left : Int) (ck cn : Int) (cs : ByteArray) (la : Option Addr) (ln lc : Nat) (F : Nat → Prop) (w : World) (H : LX w b left) (C : CF F w ⟨ck, cn, cs, la, ln, lc⟩ x) (hF : ¬ F b) (h0 : 0 ≤ left) (h4 : left ≤ 400) (hd0 : 0 ≤ d) (hd : d ≤ 100) (r : Bool × Int) (hr : fitV d x left = r) :
    Calls Tryz.prog 35 #[.agg #[.int .i64 ck, .int .i64 cn, .string cs, .slice la ln lc], .int .i64 d, .pointer (some ⟨b, 0, none⟩)] w (FPost w b r) := by
  rw [fitV_eq] at hr
  have HI := Lib.hid IH
  have hcs : cs = x.txt := C.s
  rw [← hcs] at hr
  have b0 := lt_of_heap H
  have c0 := H.c
  have f0 : ∀ o, w.frozen? ⟨b, o, none⟩ = false := fun o => frozen_of_heap H o
  obtain ⟨hln, hlm, hel⟩ := C.l.elems
  dsimp only at hln hlm hel
  have hw1 : IntKind.i64.wrap (left - 1) = left - 1 := IntWalk.i64_in _ (by omega)
  have hwd : IntKind.i64.wrap (d + 1) = d + 1 := IntWalk.i64_in _ (by omega)
  have HL := Lib.hid hln
  have hlm' : ln ≤ 9223372036854775807 := by unfold maxLen at hlm; omega
  have HE := Lib.hid hel
  have bne : ¬ w.heap.size = b := by omega
  have bne2 : ¬ b = w.heap.size := by omega
  have HS := Lib.hid (And.intro (H.set (left - 1)) (Keeps.setCell (S := fun j => j = b) (p := ⟨b, 0, none⟩) (Keeps.refl _ w) (.inl rfl) (.int .i64 (left - 1))))
  clear IH C hcs H hln hlm hel
  go_enter Tryz.func35, Tryz.ntmps35
  have key : (decide (left - 1 < 0) || (decide (12 < d) || decide (1100 < cs.size))) = true ∨ (decide (left - 1 < 0) = false ∧ decide (12 < d) = false ∧ decide (1100 < cs.size) = false) := by
    cases decide (left - 1 < 0) <;> cases decide (12 < d) <;> cases decide (1100 < cs.size) <;> simp
  rcases key with hc | ⟨h1, h2, h3⟩
  · rw [hc] at hr
    simp only [cond_true] at hr
    subst hr
    have KA : ∀ (X : World) (o : Obj), Keeps (fun j => j = b) X (X.alloc o) := fun X o => (Keeps.refl _ _).alloc _
    cases h1 : decide (left - 1 < 0) with
    | true =>
      --[[f1
      clear hc
      go_wp2_with fail
      go_ret
      exact ⟨rfl, Lib.hid ⟨HS.out.1.keep (S := fun _ => False) ((Keeps.refl _ _).alloc _) (fun f => f), HS.out.2.alloc _⟩⟩
      --]]f1
    | false =>
      cases h2 : decide (12 < d) with
      | true =>
        --[[f2
        clear hc
        go_wp2_with fail
        go_ret
        exact ⟨rfl, Lib.hid ⟨HS.out.1.keep (S := fun _ => False) ((Keeps.refl _ _).alloc _) (fun f => f), HS.out.2.alloc _⟩⟩
        --]]f2
      | false =>
        --[[f3
        have h3 : decide (1100 < cs.size) = true := by rw [h1, h2] at hc; simpa using hc
        have h4 : (1100 : Int) < cs.size := by have := of_decide_eq_true h3; omega
        clear hc h3
        go_wp2_with fail
        go_ret
        exact ⟨rfl, Lib.hid ⟨HS.out.1.keep (S := fun _ => False) ((Keeps.refl _ _).alloc _) (fun f => f), HS.out.2.alloc _⟩⟩
        --]]f3
  · rw [h1, h2, h3] at hr
    simp only [Bool.or_self, cond_false] at hr
    have h5 : ¬ (1100 : Int) < cs.size := by have := of_decide_eq_false h3; omega
    have h6 : 0 ≤ left - 1 := by have := of_decide_eq_false h1; omega
    have hl := Lib.hid hr
    clear hr h3
    --[[f4
    go_wp2_with fail
    obtain ⟨w1, hw1'⟩ : ∃ w1, w1 = (w.setCell ⟨b, 0, none⟩ (.int .i64 (left - 1))).alloc (.cells #[.int .i64 ck, .int .i64 cn, .string cs, .slice la ln lc] 63) := ⟨_, rfl⟩
    have X1 : LX w1 b (left - 1) := by rw [hw1']; exact HS.out.1.keep (S := fun _ => False) ((Keeps.refl _ _).alloc _) (fun f => f)
    have K1 : Keeps (fun j => j = b) w w1 := by rw [hw1']; exact HS.out.2.alloc _
    rw [← hw1']
    have H1 := Lib.hid (And.intro X1 K1)
    clear hw1' X1 K1 c0 f0 bne bne2
    go_loopg [31] (x.list.length) (fun gk v31 wr => FRel w b (d + 1) x.list r gk v31 wr)
    case atStart => exact ⟨0, _, rfl, Nat.zero_le _, rfl, H1.out.1, H1.out.2, hl.out, h6, by omega⟩
    case round =>
      obtain ⟨i, cur, rfl, hi, hgk, hX, hK, hf, hc0, hc4⟩ := hrel
      by_cases hin : i < ln
      · obtain ⟨y, hy⟩ := elem_at (l := x.list) (k := i) (by have := HL.out; omega)
        obtain ⟨g, off, rfl, hFg, hg, hel⟩ := HE.out.resolve_left (fun e => by rw [e] at hy; simp at hy)
        obtain ⟨c', hC, q0, q1, q2, q3⟩ := hel i y hy
        have hgb : ¬ g = b := fun e => hF (e ▸ hFg)
        have hgl : g < wr.heap.size := by have := hK.size; omega
        rw [← hK.cell (p := ⟨g, _, none⟩) hg hgb] at q0 q1 q2 q3
        have hdr : x.list.drop i = y :: x.list.drop (i + 1) := by
          rw [List.drop_eq_getElem_cons (List.getElem?_eq_some_iff.1 hy).1, (List.getElem?_eq_some_iff.1 hy).2]
        rw [hdr, fitL_cons] at hf
        have hyp : y.parts ≤ n := by
          have := Val.parts_lt (v := x) (List.mem_of_getElem? hy)
          omega
        have hin' : (i : Int) < ln := by omega
        have hwi : IntKind.i64.wrap ((i : Int) + 1) = (i : Int) + 1 := IntWalk.i64_in _ (by omega)
        have CA := Lib.hid (HI.out y hyp b (d + 1) cur c' F _ (hX.keep (S := fun _ => False) ((Keeps.refl _ _).alloc (.cells #[.int .i64 c'.kind, .int .i64 c'.n, .string c'.s, .slice c'.la c'.ln c'.lc] 63)) (fun f => f)) ((hC.keep hK (fun g h e => hF (e ▸ h))).keep (S := fun _ => False) ((Keeps.refl _ _).alloc _) (fun _ _ f => f)) hF hc0 hc4 (by omega) (by have := of_decide_eq_false h2; omega))
        have hbd := fitV_bd y (d + 1) cur hc4
        generalize fitV (d + 1) y cur = fv at *
        have HX := Lib.hid (And.intro hf (And.intro hgk (And.intro hK hbd)))
        clear hf hgk hK hbd hC hX hdr hy hel
        go_wp2_with fail
        refine CA.out.mono ?_
        rintro e w5 ⟨rfl, H5⟩
        have K5 : Keeps (fun j => j = b) w w5 := (HX.out.2.2.1.alloc _).trans H5.out.2 (fun _ _ e => e)
        have HK5 := Lib.hid K5
        clear K5 CA
        cases hfv : fv.1 with
        | false =>
          have hr := HX.out.1
          rw [hfv] at hr
          simp only [cond_false] at hr
          subst hr
          go_wp2_with fail
          go_ret
          exact ⟨rfl, Lib.hid ⟨H5.out.1, HK5.out⟩⟩
        | true =>
          have hr := HX.out.1
          rw [hfv] at hr
          simp only [cond_true] at hr
          have HR := Lib.hid hr
          clear hr
          go_wp2_with fail
          go_roundg (x.list.length - (i + 1))
          case measure => have := HX.out.2.1; have := HL.out; omega
          case rel => exact ⟨i + 1, fv.2, by simp, by have := HL.out; omega, rfl, H5.out.1, HK5.out, HR.out, HX.out.2.2.2.2 hfv, HX.out.2.2.2.1⟩
      · obtain rfl : i = ln := by have := HL.out; omega
        rw [List.drop_eq_nil_of_le (by have := HL.out; omega), fitL_nil] at hf
        have HX := Lib.hid (And.intro hX hK)
        subst hf
        clear hX hK hgk
        go_wp2_with fail
        go_ret
        exact ⟨rfl, Lib.hid ⟨HX.out.1, HX.out.2⟩⟩
    --]]f4
--]]fits
theorem fits_any : ∀ (n : Nat) (x : Val), x.parts ≤ n → ∀ (b : Nat) (d left : Int) (c : VC) (F : Nat → Prop) (w : World), LX w b left → CF F w c x → ¬ F b → 0 ≤ left → left ≤ 400 → 0 ≤ d → d ≤ 100 →
      Calls Tryz.prog 35 #[.agg #[.int .i64 c.kind, .int .i64 c.n, .string c.s, .slice c.la c.ln c.lc], .int .i64 d, .pointer (some ⟨b, 0, none⟩)] w (FPost w b (fitV d x left))
  | 0, x, hx, _, _, _, _, _, _, _, _, _, _, _, _, _ => by have := x.parts_pos; omega
  | n + 1, x, hx, b, d, left, ⟨ck, cn, cs, la, ln, lc⟩, F, w, H, C, hF, h0, h4, hd0, hd => fits_step n (fun y hy => fits_any n y hy) x hx b d left ck cn cs la ln lc F w H C hF h0 h4 hd0 hd _ rfl
--[[small
set_option maxRecDepth 100000 in
set_option maxHeartbeats 8000000 in
theorem small_any (F : Nat → Prop) (w : World) (i : IC) (p : Img) (H : IAt F w i p) (r : Bool) (hr : smallL p.code.length p.consts p.names = r) :
    Calls Tryz.prog 14 #[.agg #[.slice i.ca i.cn i.cc, .slice i.ka i.kn i.kc, .slice i.na i.nn i.nc, .int .i64 i.pl]] w fun e w' => e = .returned (.bool r) ∧ Below w.heap.size w w' := by
  obtain ⟨h1, h2, h3⟩ := H.lens
  have HI := Lib.hid H
  have hk := H.consts.elems.2.2
  have hn := H.names.elems.2.2
  obtain ⟨ca, cn, cc, ka, kn, kc, na, nn, nc, pl⟩ := i
  dsimp only at h1 h2 h3 hk hn
  have HE := Lib.hid (And.intro hk hn)
  have HL := Lib.hid (And.intro h1 (And.intro h2 h3))
  unfold smallL at hr
  rw [← h1, ← h2, ← h3] at hr
  clear H h1 h2 h3 hk hn
  dsimp only
  go_enter Tryz.func14, Tryz.ntmps14
  cases g1 : decide (50 < cn) with
  | true =>
    have e1 : (50 : Int) < cn := by have := of_decide_eq_true g1; omega
    rw [g1] at hr
    subst hr
    clear g1
    go_wp2_with fail
    go_ret
    exact ⟨rfl, (Below.refl _ _).alloc (Nat.le_refl _) _⟩
  | false =>
    have e1 : ¬ (50 : Int) < cn := by have := of_decide_eq_false g1; omega
    cases g2 : decide (70 < kn) with
    | true =>
      have e2 : (70 : Int) < kn := by have := of_decide_eq_true g2; omega
      rw [g1, g2] at hr
      subst hr
      clear g1 g2
      go_wp2_with fail
      go_ret
      exact ⟨rfl, (Below.refl _ _).alloc (Nat.le_refl _) _⟩
    | false =>
      have e2 : ¬ (70 : Int) < kn := by have := of_decide_eq_false g2; omega
      cases g3 : decide (40 < nn) with
      | true =>
        have e3 : (40 : Int) < nn := by have := of_decide_eq_true g3; omega
        rw [g1, g2, g3] at hr
        subst hr
        clear g1 g2 g3
        go_wp2_with fail
        go_ret
        exact ⟨rfl, (Below.refl _ _).alloc (Nat.le_refl _) _⟩
      | false =>
        have e3 : ¬ (40 : Int) < nn := by have := of_decide_eq_false g3; omega
        rw [g1, g2, g3] at hr
        simp only [Bool.or_self, cond_false] at hr
        have hkn : kn ≤ 70 := by have := of_decide_eq_false g2; omega
        have hnn : nn ≤ 40 := by have := of_decide_eq_false g3; omega
        have HR := Lib.hid hr
        clear hr g1 g2 g3
        --[[s1
        go_wp2_with fail
        obtain ⟨w1, hw1⟩ : ∃ w1, w1 = (w.alloc (.cells #[.slice ca cn cc, .slice ka kn kc, .slice na nn nc, .int .i64 pl] 26)).alloc (.cells #[.int .i64 300] 3) := ⟨_, rfl⟩
        have B1 : Below w.heap.size w w1 := by rw [hw1]; exact ((Below.refl _ _).alloc (Nat.le_refl _) _).alloc (by simp) _
        have X1 : LX w1 (w.heap.size + 1) 300 := by rw [hw1]; exact heap_new2
        have hb1 : w1.heap[w.heap.size]? = some (.cells #[.slice ca cn cc, .slice ka kn kc, .slice na nn nc, .int .i64 pl] 26 (0, 0)) := by rw [hw1]; exact heap_lt2
        rw [← hw1]
        have H1 := Lib.hid (And.intro B1 (And.intro X1 hb1))
        clear hw1 B1 X1 hb1
        go_loopg [27] (p.consts.length) (fun gk v27 wr => FRel w1 (w.heap.size + 1) 0 p.consts (fitV.fitL 0 p.consts 300) gk v27 wr)
        case atStart => exact ⟨0, 300, rfl, Nat.zero_le _, rfl, H1.out.2.1, Keeps.refl _ _, rfl, by decide, by decide⟩
        case round =>
          obtain ⟨i, cur, rfl, hi, hgk, hX, hK, hf, hc0, hc4⟩ := hrel
          have hbw : Below w.heap.size w wr := H1.out.1.trans (hK.below (by have := lt_of_heap H1.out.2.2; omega) (fun j hj e => by omega))
          by_cases hin : i < kn
          · obtain ⟨y, hy⟩ := elem_at (l := p.consts) (k := i) (by have := HL.out.2.1; omega)
            obtain ⟨g, off, rfl, hFg, hg, hel⟩ := HE.out.1.resolve_left (fun e => by rw [e] at hy; simp at hy)
            obtain ⟨c', hC, q0, q1, q2, q3⟩ := hel i y hy
            have hgl : g < wr.heap.size := by have := hbw.size; omega
            rw [← hbw.cell (p := ⟨g, _, none⟩) hg] at q0 q1 q2 q3
            have hdr : p.consts.drop i = y :: p.consts.drop (i + 1) := by
              rw [List.drop_eq_getElem_cons (List.getElem?_eq_some_iff.1 hy).1, (List.getElem?_eq_some_iff.1 hy).2]
            rw [hdr, fitL_cons] at hf
            have hin' : (i : Int) < kn := by omega
            have hwi : IntKind.i64.wrap ((i : Int) + 1) = (i : Int) + 1 := IntWalk.i64_in _ (by omega)
            have CA := Lib.hid (fits_any _ y (Nat.le_refl _) (w.heap.size + 1) 0 cur c' (fun j => j < w.heap.size) _ (hX.keep (S := fun _ => False) ((Keeps.refl _ _).alloc (.cells #[.int .i64 c'.kind, .int .i64 c'.n, .string c'.s, .slice c'.la c'.ln c'.lc] 63)) (fun f => f)) (((hC.mono (G := fun j => j < w.heap.size) (fun _ _ h => h)).keep (S := fun _ => False) (Keeps.of_below hbw) (fun _ _ f => f)).keep (S := fun _ => False) ((Keeps.refl _ _).alloc _) (fun _ _ f => f)) (by omega) hc0 hc4 (Int.le_refl 0) (by decide))
            have hbd := fitV_bd y 0 cur hc4
            generalize fitV 0 y cur = fv at *
            have HX := Lib.hid (And.intro hf (And.intro hgk (And.intro hK (And.intro hbd hbw))))
            clear hf hgk hK hbd hC hX hdr hy hel hbw
            --[[s2
            go_wp2_with fail
            refine CA.out.mono ?_
            rintro e w5 ⟨rfl, H5⟩
            have K5 := (HX.out.2.2.1.alloc (.cells #[.int .i64 c'.kind, .int .i64 c'.n, .string c'.s, .slice c'.la c'.ln c'.lc] 63)).trans H5.out.2 (fun _ _ e => e)
            have HK5 := Lib.hid K5
            clear K5 CA
            cases hfv : fv.1 with
            | false =>
              have hr := HX.out.1
              rw [hfv] at hr
              simp only [cond_false] at hr
              have hr2 := HR.out
              rw [← hr] at hr2
              simp only [Bool.false_and] at hr2
              subst hr2
              clear hr
              go_wp2_with fail
              go_ret
              exact ⟨rfl, H1.out.1.trans (HK5.out.below (by have := lt_of_heap H1.out.2.2; omega) (fun j hj e => by omega))⟩
            | true =>
              have hr := HX.out.1
              rw [hfv] at hr
              simp only [cond_true] at hr
              have HR2 := Lib.hid hr
              clear hr
              go_wp2_with fail
              go_roundg (p.consts.length - (i + 1))
              case measure => have := HX.out.2.1; have := HL.out.2.1; omega
              case rel => exact ⟨i + 1, fv.2, by simp, by have := HL.out.2.1; omega, rfl, H5.out.1, HK5.out, HR2.out, HX.out.2.2.2.1.2 hfv, HX.out.2.2.2.1.1⟩
            --]]s2
          · obtain rfl : i = kn := by have := HL.out.2.1; omega
            rw [List.drop_eq_nil_of_le (by have := HL.out.2.1; omega), fitL_nil] at hf
            have hr := HR.out
            rw [← hf] at hr
            simp only [Bool.true_and] at hr
            have lt1 : w.heap.size < wr.heap.size := by have := hbw.size; have := lt_of_heap hX; omega
            have hb2 := (hK.block w.heap.size (lt_of_heap H1.out.2.2) (by omega)).trans H1.out.2.2
            have q2 : wr.cell? ⟨w.heap.size, 2, none⟩ = some (.slice na nn nc) := by rw [cell_of_heap hb2]; rfl
            have HR2 := Lib.hid (And.intro hr hbw)
            obtain ⟨wo, rfl⟩ : ∃ wo : World, wo = wr := ⟨_, rfl⟩
            clear hr hbw hf hX hK hgk hb2
            --[[s3
            go_wp2_with fail
            go_loopg [38] (p.names.length) (fun gk v38 wr => ∃ j : Nat, v38 = .int .i64 j ∧ j ≤ p.names.length ∧ gk = p.names.length - j ∧ (p.names.drop j).all (fun s => decide (s.size ≤ 200)) = r ∧ wr = wo)
            case atStart => exact ⟨0, rfl, Nat.zero_le _, rfl, HR2.out.1, rfl⟩
            case round =>
              obtain ⟨j, rfl, hj, hgk, hall, hwr⟩ := hrel
              subst hwr
              by_cases hjn : j < nn
              · obtain ⟨x, hx⟩ := elem_at (l := p.names) (k := j) (by have := HL.out.2.2; omega)
                have hdr : p.names.drop j = x :: p.names.drop (j + 1) := by
                  rw [List.drop_eq_getElem_cons (List.getElem?_eq_some_iff.1 hx).1, (List.getElem?_eq_some_iff.1 hx).2]
                rw [hdr, List.all_cons] at hall
                obtain ⟨g, off, ha, hel⟩ := HE.out.2
                obtain ⟨hFg, hg, hcs⟩ := hel j x hx
                have ha := ha.resolve_right (fun e => by rw [e] at hx; simp at hx)
                subst ha
                have m0 := hcs 0 _ rfl
                rw [show off + (j * sz ByteArray + 0) = off + j from by simp [Cells.sz]] at m0
                rw [← HR2.out.2.cell (p := ⟨g, _, none⟩) hg] at m0
                have hgl : g < wr.heap.size := by have := HR2.out.2.size; omega
                have hjn' : (j : Int) < nn := by omega
                cases hz : decide (x.size ≤ 200) with
                | false =>
                  have h5 : (200 : Int) < x.size := by have := of_decide_eq_false hz; omega
                  rw [hz] at hall
                  simp only [Bool.false_and] at hall
                  subst hall
                  clear hgk hdr hx hcs hel hz
                  go_wp2_with fail
                  go_ret
                  exact ⟨rfl, HR2.out.2⟩
                | true =>
                  have h5 : ¬ (200 : Int) < x.size := by have := of_decide_eq_true hz; omega
                  rw [hz] at hall
                  simp only [Bool.true_and] at hall
                  have HX := Lib.hid (And.intro hall hgk)
                  clear hall hgk hdr hx hcs hel hz
                  go_wp2_with fail
                  go_roundg (p.names.length - (j + 1))
                  case measure => have := HX.out.2; have := HL.out.2.2; omega
                  case rel => exact ⟨j + 1, by simp, by have := HL.out.2.2; omega, rfl, HX.out.1, rfl⟩
              · obtain rfl : j = nn := by have := HL.out.2.2; omega
                rw [List.drop_eq_nil_of_le (by have := HL.out.2.2; omega), List.all_nil] at hall
                subst hall
                clear hgk
                go_wp2_with fail
                go_ret
                exact ⟨rfl, HR2.out.2⟩
            --]]s3
        --]]s1
--]]small
end Go.Proofs.YtielnengimninaaGreatDoor
