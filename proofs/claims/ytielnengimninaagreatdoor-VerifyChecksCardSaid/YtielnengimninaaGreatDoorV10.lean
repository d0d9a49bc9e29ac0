/- value.Compare, value.Same, walked. -/
import Derived.Test.YtielnengimninaaGreatDoorV8
namespace Go.Va
open Go.Own Go.RowKit
/-- below 0, 0 or above 0 -/
def cmpV : Val → Val → Int
  | .mk k n s l, y =>
    bif k != y.kind then (bif decide (k < y.kind) then -1 else 1) else
    bif k == 1 then (bif n != y.num then (bif decide (n < y.num) then -1 else 1) else 0) else
    bif k == 2 then Lib.compareBytes s.data.toList y.txt.data.toList else
    bif k == 3 then cmpLs l y.list else 0
where cmpLs : List Val → List Val → Int
  | [], ys => bif decide (0 < ys.length) then -1 else 0
  | _ :: _, [] => 1
  | x :: r, y :: s => bif cmpV x y != 0 then cmpV x y else cmpLs r s
theorem cmpV_eq (x y : Val) : cmpV x y =
    bif x.kind != y.kind then (bif decide (x.kind < y.kind) then -1 else 1) else
    bif x.kind == 1 then (bif x.num != y.num then (bif decide (x.num < y.num) then -1 else 1) else 0) else
    bif x.kind == 2 then Lib.compareBytes x.txt.data.toList y.txt.data.toList else
    bif x.kind == 3 then cmpV.cmpLs x.list y.list else 0 := by
  cases x
  rw [cmpV]
  rfl
theorem cmpL_nil (ys : List Val) : cmpV.cmpLs [] ys = bif decide (0 < ys.length) then -1 else 0 := by rw [cmpV.cmpLs]
theorem cmpL_one (x : Val) (r : List Val) : cmpV.cmpLs (x :: r) [] = 1 := by rw [cmpV.cmpLs]
theorem cmpL_cons (x y : Val) (r s : List Val) : cmpV.cmpLs (x :: r) (y :: s) = bif cmpV x y != 0 then cmpV x y else cmpV.cmpLs r s := by rw [cmpV.cmpLs]
end Go.Va
namespace Go.Proofs.YtielnengimninaaGreatDoor
open Go.RowKit Go.Own Go.Own.MapTy Go.Va Go.Sort
open Go.Own.Cells (sz enc)
--[[c1
set_option maxRecDepth 100000 in
set_option maxHeartbeats 8000000 in
theorem cmp_kind (x y : Val)
    (ck cn : Int) (cs : ByteArray) (la : Option Addr) (ln lc : Nat) (dk dn : Int) (ds : ByteArray) (ma : Option Addr) (mn mc : Nat) (F F' : Nat → Prop) (w : World) (C : CF F w ⟨ck, cn, cs, la, ln, lc⟩ x) (D : CF F' w ⟨dk, dn, ds, ma, mn, mc⟩ y) (r : Int) (hr : cmpV x y = r)
    (hk : (ck != dk) = true) :
    Calls Tryz.prog 75 #[.agg #[.int .i64 ck, .int .i64 cn, .string cs, .slice la ln lc], .agg #[.int .i64 dk, .int .i64 dn, .string ds, .slice ma mn mc]] w fun e w' => e = .returned (.int .i64 r) ∧ Below w.heap.size w w'
    := by
  rw [cmpV_eq] at hr
  have h1 : ck = x.kind := C.kind
  have h2 : cn = x.num := C.n
  have h3 : cs = x.txt := C.s
  have g1 : dk = y.kind := D.kind
  have g2 : dn = y.num := D.n
  have g3 : ds = y.txt := D.s
  rw [← h1, ← h2, ← h3, ← g1, ← g2, ← g3] at hr
  clear h1 h2 h3 g1 g2 g3
  have HC := Lib.hid (And.intro C D)
  clear C D
  rw [hk] at hr
  simp only [cond_true] at hr
  have hk2 : (ck == dk) = false := by simpa using hk
  have HR := Lib.hid hr
  clear hr
  have CS := Lib.hid (fun W => sign_any (decide (ck < dk)) W)
  have HB := Lib.hid ((((Below.refl w.heap.size w).alloc (Nat.le_refl _) (.cells #[.int .i64 ck, .int .i64 cn, .string cs, .slice la ln lc] 63)).alloc (by simp) (.cells #[.int .i64 dk, .int .i64 dn, .string ds, .slice ma mn mc] 63)))
  generalize hd : decide (ck < dk) = b at *
  go_enter Tryz.func75, Tryz.ntmps75
  go_wp2_with fail
  refine (CS.out _).mono ?_
  rintro e w1 ⟨rfl, rfl⟩
  go_wp2_with fail
  go_ret
  exact ⟨by rw [← HR.out]; rfl, HB.out⟩
--]]c1
--[[c2
set_option maxRecDepth 100000 in
set_option maxHeartbeats 8000000 in
theorem cmp_int (x y : Val)
    (ck cn : Int) (cs : ByteArray) (la : Option Addr) (ln lc : Nat) (dk dn : Int) (ds : ByteArray) (ma : Option Addr) (mn mc : Nat) (F F' : Nat → Prop) (w : World) (C : CF F w ⟨ck, cn, cs, la, ln, lc⟩ x) (D : CF F' w ⟨dk, dn, ds, ma, mn, mc⟩ y) (r : Int) (hr : cmpV x y = r)
    (hk : ck = dk) (h1 : ck = 1) :
    Calls Tryz.prog 75 #[.agg #[.int .i64 ck, .int .i64 cn, .string cs, .slice la ln lc], .agg #[.int .i64 dk, .int .i64 dn, .string ds, .slice ma mn mc]] w fun e w' => e = .returned (.int .i64 r) ∧ Below w.heap.size w w'
    := by
  rw [cmpV_eq] at hr
  have h1 : ck = x.kind := C.kind
  have h2 : cn = x.num := C.n
  have h3 : cs = x.txt := C.s
  have g1 : dk = y.kind := D.kind
  have g2 : dn = y.num := D.n
  have g3 : ds = y.txt := D.s
  rw [← h1, ← h2, ← h3, ← g1, ← g2, ← g3] at hr
  clear h1 h2 h3 g1 g2 g3
  have HC := Lib.hid (And.intro C D)
  clear C D
  have hk1 : (ck != dk) = false := by rw [hk]; simp
  rw [hk1] at hr
  simp only [cond_false] at hr
  subst hk
  have HB := Lib.hid ((((Below.refl w.heap.size w).alloc (Nat.le_refl _) (.cells #[.int .i64 ck, .int .i64 cn, .string cs, .slice la ln lc] 63)).alloc (by simp) (.cells #[.int .i64 ck, .int .i64 dn, .string ds, .slice ma mn mc] 63)))
  clear hk1
  subst h1
  simp only [beq_self_eq_true, cond_true] at hr
  cases hn : (cn != dn) with
  | true =>
    rw [hn] at hr
    simp only [cond_true] at hr
    have hn2 : (cn == dn) = false := by simpa using hn
    have HR := Lib.hid hr
    clear hr
    have CS := Lib.hid (fun W => sign_any (decide (cn < dn)) W)
    generalize hd : decide (cn < dn) = b at *
    go_enter Tryz.func75, Tryz.ntmps75
    go_wp2_with fail
    refine (CS.out _).mono ?_
    rintro e w1 ⟨rfl, rfl⟩
    go_wp2_with fail
    go_ret
    exact ⟨by rw [← HR.out]; rfl, HB.out⟩
  | false =>
    rw [hn] at hr
    simp only [cond_false] at hr
    obtain rfl : cn = dn := by simpa using hn
    have HR := Lib.hid hr
    clear hr hn
    go_enter Tryz.func75, Tryz.ntmps75
    go_wp2_with fail
    go_ret
    exact ⟨by rw [← HR.out]; rfl, HB.out⟩
--]]c2
--[[c3
set_option maxRecDepth 100000 in
set_option maxHeartbeats 8000000 in
theorem cmp_text (x y : Val)
    (ck cn : Int) (cs : ByteArray) (la : Option Addr) (ln lc : Nat) (dk dn : Int) (ds : ByteArray) (ma : Option Addr) (mn mc : Nat) (F F' : Nat → Prop) (w : World) (C : CF F w ⟨ck, cn, cs, la, ln, lc⟩ x) (D : CF F' w ⟨dk, dn, ds, ma, mn, mc⟩ y) (r : Int) (hr : cmpV x y = r)
    (hk : ck = dk) (h1 : ck = 2) :
    Calls Tryz.prog 75 #[.agg #[.int .i64 ck, .int .i64 cn, .string cs, .slice la ln lc], .agg #[.int .i64 dk, .int .i64 dn, .string ds, .slice ma mn mc]] w fun e w' => e = .returned (.int .i64 r) ∧ Below w.heap.size w w'
    := by
  rw [cmpV_eq] at hr
  have h1 : ck = x.kind := C.kind
  have h2 : cn = x.num := C.n
  have h3 : cs = x.txt := C.s
  have g1 : dk = y.kind := D.kind
  have g2 : dn = y.num := D.n
  have g3 : ds = y.txt := D.s
  rw [← h1, ← h2, ← h3, ← g1, ← g2, ← g3] at hr
  clear h1 h2 h3 g1 g2 g3
  have HC := Lib.hid (And.intro C D)
  clear C D
  have hk1 : (ck != dk) = false := by rw [hk]; simp
  rw [hk1] at hr
  simp only [cond_false] at hr
  subst hk
  have HB := Lib.hid ((((Below.refl w.heap.size w).alloc (Nat.le_refl _) (.cells #[.int .i64 ck, .int .i64 cn, .string cs, .slice la ln lc] 63)).alloc (by simp) (.cells #[.int .i64 ck, .int .i64 dn, .string ds, .slice ma mn mc] 63)))
  clear hk1
  subst h1
  have e1 : ((2 : Int) == 1) = false := rfl
  rw [e1] at hr
  simp only [beq_self_eq_true, cond_true, cond_false] at hr
  have CS := Lib.hid (fun W => Any.strings_Compare Tryz.lays106 cs ds W)
  have HR := Lib.hid hr
  clear hr e1
  go_enter Tryz.func75, Tryz.ntmps75
  go_wp2_with fail
  refine (CS.out _).mono ?_
  rintro e w1 ⟨rfl, rfl⟩
  go_wp2_with fail
  go_ret
  exact ⟨by rw [← HR.out]; rfl, HB.out⟩
--]]c3
--[[c4
set_option maxRecDepth 100000 in
set_option maxHeartbeats 8000000 in
theorem cmp_other (x y : Val)
    (ck cn : Int) (cs : ByteArray) (la : Option Addr) (ln lc : Nat) (dk dn : Int) (ds : ByteArray) (ma : Option Addr) (mn mc : Nat) (F F' : Nat → Prop) (w : World) (C : CF F w ⟨ck, cn, cs, la, ln, lc⟩ x) (D : CF F' w ⟨dk, dn, ds, ma, mn, mc⟩ y) (r : Int) (hr : cmpV x y = r)
    (hk : ck = dk) (h1 : (ck == 1) = false) (h2 : (ck == 2) = false) (h3 : (ck == 3) = false) :
    Calls Tryz.prog 75 #[.agg #[.int .i64 ck, .int .i64 cn, .string cs, .slice la ln lc], .agg #[.int .i64 dk, .int .i64 dn, .string ds, .slice ma mn mc]] w fun e w' => e = .returned (.int .i64 r) ∧ Below w.heap.size w w'
    := by
  rw [cmpV_eq] at hr
  have h1 : ck = x.kind := C.kind
  have h2 : cn = x.num := C.n
  have h3 : cs = x.txt := C.s
  have g1 : dk = y.kind := D.kind
  have g2 : dn = y.num := D.n
  have g3 : ds = y.txt := D.s
  rw [← h1, ← h2, ← h3, ← g1, ← g2, ← g3] at hr
  clear h1 h2 h3 g1 g2 g3
  have HC := Lib.hid (And.intro C D)
  clear C D
  have hk1 : (ck != dk) = false := by rw [hk]; simp
  rw [hk1] at hr
  simp only [cond_false] at hr
  subst hk
  have HB := Lib.hid ((((Below.refl w.heap.size w).alloc (Nat.le_refl _) (.cells #[.int .i64 ck, .int .i64 cn, .string cs, .slice la ln lc] 63)).alloc (by simp) (.cells #[.int .i64 ck, .int .i64 dn, .string ds, .slice ma mn mc] 63)))
  clear hk1
  rw [h1, h2, h3] at hr
  simp only [cond_false] at hr
  have HR := Lib.hid hr
  clear hr
  go_enter Tryz.func75, Tryz.ntmps75
  go_wp2_with fail
  go_ret
  exact ⟨by rw [← HR.out]; rfl, HB.out⟩
--]]c4
--[[c5
def CRel (w2 : World) (x y : Val) (r : Int) (gk : Nat) (v46 : Value) (wr : World) : Prop :=
  ∃ i : Nat, v46 = .int .i64 i ∧ i ≤ x.list.length ∧ i ≤ y.list.length ∧ gk = x.list.length - i ∧ cmpV.cmpLs (x.list.drop i) (y.list.drop i) = r ∧ Below w2.heap.size w2 wr
set_option maxRecDepth 100000 in
set_option maxHeartbeats 8000000 in
theorem cmp_list (n : Nat) (IH : ∀ (x : Val), x.parts ≤ n → ∀ (y : Val) (c d : VC) (F F' : Nat → Prop) (w : World), CF F w c x → CF F' w d y →
      Calls Tryz.prog 75 #[.agg #[.int .i64 c.kind, .int .i64 c.n, .string c.s, .slice c.la c.ln c.lc], .agg #[.int .i64 d.kind, .int .i64 d.n, .string d.s, .slice d.la d.ln d.lc]] w fun e w' => e = .returned (.int .i64 (cmpV x y)) ∧ Below w.heap.size w w')
    (x y : Val)
    (ck cn : Int) (cs : ByteArray) (la : Option Addr) (ln lc : Nat) (dk dn : Int) (ds : ByteArray) (ma : Option Addr) (mn mc : Nat) (F F' : Nat → Prop) (w : World) (C : CF F w ⟨ck, cn, cs, la, ln, lc⟩ x) (D : CF F' w ⟨dk, dn, ds, ma, mn, mc⟩ y) (r : Int) (hr : cmpV x y = r)
    (hk : ck = dk) (h1 : ck = 3) (hx : x.parts ≤ n + 1) (g off g' off' : Nat)
    (hel : ln = x.list.length ∧ ln ≤ maxLen ∧ (∀ (i : Nat) (z : Val), x.list[i]? = some z → F g ∧ g < w.heap.size ∧ ∃ c, CF F w c z ∧
      w.cell? ⟨g, off + i * 4, none⟩ = some (.int .i64 c.kind) ∧ w.cell? ⟨g, off + i * 4 + 1, none⟩ = some (.int .i64 c.n) ∧ w.cell? ⟨g, off + i * 4 + 2, none⟩ = some (.string c.s) ∧ w.cell? ⟨g, off + i * 4 + 3, none⟩ = some (.slice c.la c.ln c.lc))) (hla : la = some ⟨g, off, none⟩ ∨ x.list = [])
    (hem : mn = y.list.length ∧ mn ≤ maxLen ∧ (∀ (i : Nat) (z : Val), y.list[i]? = some z → F' g' ∧ g' < w.heap.size ∧ ∃ c, CF F' w c z ∧
      w.cell? ⟨g', off' + i * 4, none⟩ = some (.int .i64 c.kind) ∧ w.cell? ⟨g', off' + i * 4 + 1, none⟩ = some (.int .i64 c.n) ∧ w.cell? ⟨g', off' + i * 4 + 2, none⟩ = some (.string c.s) ∧ w.cell? ⟨g', off' + i * 4 + 3, none⟩ = some (.slice c.la c.ln c.lc))) (hma : ma = some ⟨g', off', none⟩ ∨ y.list = []) :
    Calls Tryz.prog 75 #[.agg #[.int .i64 ck, .int .i64 cn, .string cs, .slice la ln lc], .agg #[.int .i64 dk, .int .i64 dn, .string ds, .slice ma mn mc]] w fun e w' => e = .returned (.int .i64 r) ∧ Below w.heap.size w w'
    := by
  rw [cmpV_eq] at hr
  have h1 : ck = x.kind := C.kind
  have h2 : cn = x.num := C.n
  have h3 : cs = x.txt := C.s
  have g1 : dk = y.kind := D.kind
  have g2 : dn = y.num := D.n
  have g3 : ds = y.txt := D.s
  rw [← h1, ← h2, ← h3, ← g1, ← g2, ← g3] at hr
  clear h1 h2 h3 g1 g2 g3
  have HC := Lib.hid (And.intro C D)
  clear C D
  have hk1 : (ck != dk) = false := by rw [hk]; simp
  rw [hk1] at hr
  simp only [cond_false] at hr
  subst hk
  have HB := Lib.hid ((((Below.refl w.heap.size w).alloc (Nat.le_refl _) (.cells #[.int .i64 ck, .int .i64 cn, .string cs, .slice la ln lc] 63)).alloc (by simp) (.cells #[.int .i64 ck, .int .i64 dn, .string ds, .slice ma mn mc] 63)))
  clear hk1
  subst h1
  have e1 : ((3 : Int) == 1) = false := rfl
  have e2 : ((3 : Int) == 2) = false := rfl
  rw [e1, e2] at hr
  simp only [beq_self_eq_true, cond_true, cond_false] at hr
  obtain ⟨hln, hlm, hel⟩ := hel
  obtain ⟨hmn, hmm, hem⟩ := hem
  have HR := Lib.hid hr
  have HE := Lib.hid (And.intro hel hem)
  have HL := Lib.hid (And.intro hln hmn)
  have HLA := Lib.hid (And.intro hla hma)
  have HI := Lib.hid IH
  unfold maxLen at hlm hmm
  clear hr e1 e2 hel hem hln hmn hla hma IH
  go_enter Tryz.func75, Tryz.ntmps75
  go_wp2_with fail
  obtain ⟨w2, hw2⟩ : ∃ w2, w2 = (w.alloc (.cells #[.int .i64 3, .int .i64 cn, .string cs, .slice la ln lc] 63)).alloc (.cells #[.int .i64 3, .int .i64 dn, .string ds, .slice ma mn mc] 63) := ⟨_, rfl⟩
  have p3 : w2.cell? ⟨w.heap.size, 3, none⟩ = some (.slice la ln lc) := by rw [hw2, cell_of_heap heap_lt2]; rfl
  have p7 : w2.cell? ⟨w.heap.size + 1, 3, none⟩ = some (.slice ma mn mc) := by rw [hw2, cell_of_heap heap_new2]; rfl
  have sz2 : w2.heap.size = w.heap.size + 2 := by rw [hw2]; simp
  rw [← hw2] at HB ⊢
  have HP := Lib.hid (And.intro p3 (And.intro p7 sz2))
  clear hw2 p3 p7 sz2
  go_loopg [46] (x.list.length) (fun gk v46 wr => CRel w2 x y r gk v46 wr)
  case atStart => exact ⟨0, rfl, Nat.zero_le _, Nat.zero_le _, rfl, HR.out, Below.refl _ _⟩
  case round =>
    obtain ⟨i, rfl, hi, hj, hgk, hcm, hB⟩ := hrel
    have b1 := hB.size
    have s1 : w.heap.size + 1 < wr.heap.size := by have := HP.out.2.2; omega
    have s0 : w.heap.size < wr.heap.size := by omega
    have p3 : wr.cell? ⟨w.heap.size, 3, none⟩ = some (.slice la ln lc) := by rw [hB.cell (p := ⟨w.heap.size, 3, none⟩) (show w.heap.size < w2.heap.size by have := HP.out.2.2; omega)]; exact HP.out.1
    have p7 : wr.cell? ⟨w.heap.size + 1, 3, none⟩ = some (.slice ma mn mc) := by rw [hB.cell (p := ⟨w.heap.size + 1, 3, none⟩) (show w.heap.size + 1 < w2.heap.size by have := HP.out.2.2; omega)]; exact HP.out.2.1
    have BW := HB.out.trans (hB.mono (show w.heap.size ≤ w2.heap.size by have := HP.out.2.2; omega))
    by_cases hin : i < ln
    · obtain ⟨z, hz⟩ := elem_at (l := x.list) (k := i) (by have := HL.out.1; omega)
      obtain ⟨hFg, hg, c', hC, q0, q1, q2, q3⟩ := HE.out.1 i z hz
      have hin' : (i : Int) < ln := by omega
      have hla : la = some ⟨g, off, none⟩ := HLA.out.1.resolve_right (fun e => by rw [e] at hz; simp at hz)
      rw [← BW.cell (p := ⟨g, _, none⟩) hg] at q0 q1 q2 q3
      have hdr : x.list.drop i = z :: x.list.drop (i + 1) := by
        rw [List.drop_eq_getElem_cons (List.getElem?_eq_some_iff.1 hz).1, (List.getElem?_eq_some_iff.1 hz).2]
      have hgl : g < wr.heap.size := by omega
      subst hla
      by_cases hjn : i < mn
      · obtain ⟨u, hu⟩ := elem_at (l := y.list) (k := i) (by have := HL.out.2; omega)
        obtain ⟨hFm, hm, d', hD, m0, m1, m2, m3⟩ := HE.out.2 i u hu
        have hjn' : ((i : Int) == mn) = false := by rw [beq_eq_false_iff_ne]; omega
        have hjn2 : (i : Int) < mn := by omega
        have hma : ma = some ⟨g', off', none⟩ := HLA.out.2.resolve_right (fun e => by rw [e] at hu; simp at hu)
        rw [← BW.cell (p := ⟨g', _, none⟩) hm] at m0 m1 m2 m3
        have hds : y.list.drop i = u :: y.list.drop (i + 1) := by
          rw [List.drop_eq_getElem_cons (List.getElem?_eq_some_iff.1 hu).1, (List.getElem?_eq_some_iff.1 hu).2]
        have hml : g' < wr.heap.size := by omega
        rw [hdr, hds, cmpL_cons] at hcm
        have CW := Lib.hid (fun W (hW : Below wr.heap.size wr W) => HI.out z (by have := Val.parts_lt (v := x) (List.mem_of_getElem? hz); omega) u c' d' _ _ W (hC.keep (S := fun _ => False) (Keeps.of_below (BW.trans (hW.mono BW.size))) (fun _ _ f => f)) (hD.keep (S := fun _ => False) (Keeps.of_below (BW.trans (hW.mono BW.size))) (fun _ _ f => f)))
        generalize cmpV z u = cv at *
        have HX := Lib.hid (And.intro hcm (And.intro hB (And.intro hgk (And.intro BW (And.intro hj (And.intro hi (And.intro (List.getElem?_eq_some_iff.1 hz).1 (List.getElem?_eq_some_iff.1 hu).1)))))))
        subst hma
        clear hcm hB hgk BW hz hu hC hD hdr hds
        --[[c51
        go_wp2_with fail
        obtain ⟨w6, hw6⟩ : ∃ w6, w6 = wr.alloc (.cells #[.int .i64 c'.kind, .int .i64 c'.n, .string c'.s, .slice c'.la c'.ln c'.lc] 63) := ⟨_, rfl⟩
        have K6 : Below wr.heap.size wr w6 := by rw [hw6]; exact (Below.refl _ _).alloc (Nat.le_refl _) _
        have sz6 : w6.heap.size = wr.heap.size + 1 := by rw [hw6]; simp
        have z0 : w6.cell? ⟨wr.heap.size, 0, none⟩ = some (.int .i64 c'.kind) := by rw [hw6, cell_of_heap (heap_alloc_new _ _)]; rfl
        have z1 : w6.cell? ⟨wr.heap.size, 1, none⟩ = some (.int .i64 c'.n) := by rw [hw6, cell_of_heap (heap_alloc_new _ _)]; rfl
        have z2 : w6.cell? ⟨wr.heap.size, 2, none⟩ = some (.string c'.s) := by rw [hw6, cell_of_heap (heap_alloc_new _ _)]; rfl
        have z3 : w6.cell? ⟨wr.heap.size, 3, none⟩ = some (.slice c'.la c'.ln c'.lc) := by rw [hw6, cell_of_heap (heap_alloc_new _ _)]; rfl
        rw [← hw6]
        have H6 := Lib.hid (And.intro K6 sz6)
        have l6 : wr.heap.size < w6.heap.size := by omega
        rw [← K6.cell (p := ⟨g', _, none⟩) hml] at m0 m1 m2 m3
        rw [← K6.cell (p := ⟨w.heap.size + 1, 3, none⟩) s1] at p7
        have hml6 : g' < w6.heap.size := by omega
        have s16 : w.heap.size + 1 < w6.heap.size := by omega
        clear hw6 K6 sz6
        refine wp_region_ext (by kernel_rfl) (by kernel_rfl) ?_
        repeat (go_big_quiet_step ((go_at_call 75; exact ext_call (CW.out _ ((H6.out.1.trans ((Subtype.property _ : Below w6.heap.size w6 _).mono (by have := H6.out.2; omega))))))))
        refine wpQuiet_nil ?_
        intro w7 hB7
        have HB7 := Lib.hid (H6.out.1.trans (hB7.mono (by have := H6.out.2; omega)))
        clear hB7 CW
        cases hz : (cv != 0) with
        | true =>
          have hcm := HX.out.1
          rw [hz] at hcm
          simp only [cond_true] at hcm
          have HM := Lib.hid hcm
          clear hcm
          go_wp2_with fail
          go_ret
          exact ⟨by rw [← HM.out]; rfl, HX.out.2.2.2.1.trans (HB7.out.mono HX.out.2.2.2.1.size)⟩
        | false =>
          have hcm := HX.out.1
          rw [hz] at hcm
          simp only [cond_false] at hcm
          have HM := Lib.hid hcm
          clear hcm
          go_wp2_with fail
          go_roundg (x.list.length - (i + 1))
          case measure => have := HX.out.2.2.1; have := HX.out.2.2.2.2.2.2.1; omega
          case rel => exact ⟨i + 1, by simp, HX.out.2.2.2.2.2.2.1, HX.out.2.2.2.2.2.2.2, rfl, HM.out, HX.out.2.1.trans (HB7.out.mono HX.out.2.1.size)⟩
        --]]c51
      · obtain rfl : i = mn := by have := HL.out.2; omega
        have hyn : y.list.drop i = [] := List.drop_eq_nil_of_le (by have := HL.out.2; omega)
        rw [hdr, hyn, cmpL_one] at hcm
        have HX := Lib.hid (And.intro hcm BW)
        clear hcm hB hgk BW hz hC hdr
        --[[c52
        go_wp2_with fail
        go_ret
        exact ⟨by rw [← HX.out.1]; rfl, HX.out.2.alloc (by have := HX.out.2.size; omega) _⟩
        --]]c52
    · obtain rfl : i = ln := by have := HL.out.1; omega
      have hxn : x.list.drop i = [] := List.drop_eq_nil_of_le (by have := HL.out.1; omega)
      rw [hxn, cmpL_nil] at hcm
      have hdl : (y.list.drop i).length = mn - i := by rw [List.length_drop, ← HL.out.2]
      rw [hdl] at hcm
      clear hdl
      by_cases hlt : i < mn
      · have e3 : (i : Int) < mn := by omega
        have e4 : decide (i < mn) = true := by rw [decide_eq_true_eq]; exact hlt
        rw [show decide (0 < mn - i) = true from by rw [decide_eq_true_eq]; omega] at hcm
        have HX := Lib.hid (And.intro hcm BW)
        clear hcm hB hgk BW
        --[[c53
        go_wp2_with fail
        go_ret
        exact ⟨by rw [← HX.out.1]; rfl, HX.out.2⟩
        --]]c53
      · have e3 : ¬ (i : Int) < mn := by omega
        have e4 : decide (i < mn) = false := by rw [decide_eq_false_iff_not]; exact hlt
        rw [show decide (0 < mn - i) = false from by rw [decide_eq_false_iff_not]; omega] at hcm
        have HX := Lib.hid (And.intro hcm BW)
        clear hcm hB hgk BW
        --[[c54
        go_wp2_with fail
        go_ret
        exact ⟨by rw [← HX.out.1]; rfl, HX.out.2⟩
        --]]c54
--]]c5
theorem compare_any : ∀ (n : Nat) (x : Val), x.parts ≤ n → ∀ (y : Val) (c d : VC) (F F' : Nat → Prop) (w : World), CF F w c x → CF F' w d y →
      Calls Tryz.prog 75 #[.agg #[.int .i64 c.kind, .int .i64 c.n, .string c.s, .slice c.la c.ln c.lc], .agg #[.int .i64 d.kind, .int .i64 d.n, .string d.s, .slice d.la d.ln d.lc]] w fun e w' => e = .returned (.int .i64 (cmpV x y)) ∧ Below w.heap.size w w'
  | 0, x, hx, _, _, _, _, _, _, _, _ => by have := x.parts_pos; omega
  | n + 1, x, hx, y, ⟨ck, cn, cs, la, ln, lc⟩, ⟨dk, dn, ds, ma, mn, mc⟩, F, F', w, C, D => by
    by_cases hk : ck = dk
    · by_cases k1 : ck = 1
      · exact cmp_int x y ck cn cs la ln lc dk dn ds ma mn mc F F' w C D _ rfl hk k1
      · by_cases k2 : ck = 2
        · exact cmp_text x y ck cn cs la ln lc dk dn ds ma mn mc F F' w C D _ rfl hk k2
        · by_cases k3 : ck = 3
          · obtain ⟨h4, h5, h6⟩ := C.l.elems
            obtain ⟨g4, g5, g6⟩ := D.l.elems
            have hA : ∃ g off, (la = some ⟨g, off, none⟩ ∨ x.list = []) ∧ (∀ (i : Nat) (z : Val), x.list[i]? = some z → F g ∧ g < w.heap.size ∧ ∃ c, CF F w c z ∧
                w.cell? ⟨g, off + i * 4, none⟩ = some (.int .i64 c.kind) ∧ w.cell? ⟨g, off + i * 4 + 1, none⟩ = some (.int .i64 c.n) ∧ w.cell? ⟨g, off + i * 4 + 2, none⟩ = some (.string c.s) ∧ w.cell? ⟨g, off + i * 4 + 3, none⟩ = some (.slice c.la c.ln c.lc)) := by
              rcases h6 with h6 | ⟨g, off, hla, hFg, hg, h6⟩
              · exact ⟨0, 0, .inr h6, fun i y hy => by rw [h6] at hy; simp at hy⟩
              · exact ⟨g, off, .inl hla, fun i y hy => ⟨hFg, hg, h6 i y hy⟩⟩
            have hB : ∃ g off, (ma = some ⟨g, off, none⟩ ∨ y.list = []) ∧ (∀ (i : Nat) (z : Val), y.list[i]? = some z → F' g ∧ g < w.heap.size ∧ ∃ c, CF F' w c z ∧
                w.cell? ⟨g, off + i * 4, none⟩ = some (.int .i64 c.kind) ∧ w.cell? ⟨g, off + i * 4 + 1, none⟩ = some (.int .i64 c.n) ∧ w.cell? ⟨g, off + i * 4 + 2, none⟩ = some (.string c.s) ∧ w.cell? ⟨g, off + i * 4 + 3, none⟩ = some (.slice c.la c.ln c.lc)) := by
              rcases g6 with h6 | ⟨g, off, hla, hFg, hg, h6⟩
              · exact ⟨0, 0, .inr h6, fun i y hy => by rw [h6] at hy; simp at hy⟩
              · exact ⟨g, off, .inl hla, fun i y hy => ⟨hFg, hg, h6 i y hy⟩⟩
            obtain ⟨g, off, a1, a2⟩ := hA
            obtain ⟨g', off', b1, b2⟩ := hB
            exact cmp_list n (fun y hy => compare_any n y hy) x y ck cn cs la ln lc dk dn ds ma mn mc F F' w C D _ rfl hk k3 hx g off g' off' ⟨h4, h5, a2⟩ a1 ⟨g4, g5, b2⟩ b1
          · exact cmp_other x y ck cn cs la ln lc dk dn ds ma mn mc F F' w C D _ rfl hk (beq_eq_false_iff_ne.2 k1) (beq_eq_false_iff_ne.2 k2) (beq_eq_false_iff_ne.2 k3)
    · exact cmp_kind x y ck cn cs la ln lc dk dn ds ma mn mc F F' w C D _ rfl (by simpa using hk)
--[[same
set_option maxRecDepth 100000 in
set_option maxHeartbeats 8000000 in
theorem same_any (x y : Val) (c d : VC) (F F' : Nat → Prop) (w : World) (C : CF F w c x) (D : CF F' w d y) (b : Bool) (hb : (cmpV x y == 0) = b) :
    Calls Tryz.prog 34 #[.agg #[.int .i64 c.kind, .int .i64 c.n, .string c.s, .slice c.la c.ln c.lc], .agg #[.int .i64 d.kind, .int .i64 d.n, .string d.s, .slice d.la d.ln d.lc]] w fun e w' => e = .returned (.bool b) ∧ Below w.heap.size w w' := by
  have K0 : Keeps (fun _ => False) w ((w.alloc (.cells #[.int .i64 c.kind, .int .i64 c.n, .string c.s, .slice c.la c.ln c.lc] 63)).alloc (.cells #[.int .i64 d.kind, .int .i64 d.n, .string d.s, .slice d.la d.ln d.lc] 63)) := ((Keeps.refl _ _).alloc _).alloc _
  have CC := Lib.hid (compare_any x.parts x (Nat.le_refl _) y c d F F' _ (C.keep K0 (fun _ _ f => f)) (D.keep K0 (fun _ _ f => f)))
  have HB := Lib.hid (K0.below (B := w.heap.size) (Nat.le_refl _) (fun _ _ f => f))
  clear C D K0
  generalize cmpV x y = v at *
  go_enter Tryz.func34, Tryz.ntmps34
  go_wp2_with fail
  refine CC.out.mono ?_
  rintro e w1 ⟨rfl, hB⟩
  have H1 := Lib.hid (HB.out.trans (hB.mono (by simp; omega)))
  clear hB
  go_wp2_with fail
  go_ret
  exact ⟨rfl, H1.out⟩
--]]same
end Go.Proofs.YtielnengimninaaGreatDoor
