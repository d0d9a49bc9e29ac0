/- foliotref03.Compare, walked. -/
import Derived.Test.YtielnengimninaaGreatDoorV52
namespace Go.Va
open Go.Own Go.RowKit
/-- the document's comparison -/
def cmpR : Val → Val → Int
  | .mk k n s l, y =>
    bif k != y.kind then wrap64 (k - y.kind) else
    bif k == 1 then (bif decide (n < y.num) then -1 else bif decide (y.num < n) then 1 else 0) else
    bif k == 2 then (bif Op.bytesLess s.toList y.txt.toList then -1 else bif !(Op.bytesLess s.toList y.txt.toList || s.toList == y.txt.toList) then 1 else 0) else
    bif k != 3 then 0 else cmpRs l y.list ((l.length : Int) - y.list.length)
where cmpRs : List Val → List Val → Int → Int
  | [], _, d => d
  | _ :: _, [], d => d
  | x :: r, y :: s, d => bif cmpR x y != 0 then cmpR x y else cmpRs r s d
theorem cmpR_eq (x y : Val) : cmpR x y =
    bif x.kind != y.kind then wrap64 (x.kind - y.kind) else
    bif x.kind == 1 then (bif decide (x.num < y.num) then -1 else bif decide (y.num < x.num) then 1 else 0) else
    bif x.kind == 2 then (bif Op.bytesLess x.txt.toList y.txt.toList then -1 else bif !(Op.bytesLess x.txt.toList y.txt.toList || x.txt.toList == y.txt.toList) then 1 else 0) else
    bif x.kind != 3 then 0 else cmpR.cmpRs x.list y.list ((x.list.length : Int) - y.list.length) := by
  cases x
  rw [cmpR]
  rfl
theorem cmpRs_nil (ys : List Val) (d : Int) : cmpR.cmpRs [] ys d = d := by cases ys <;> rw [cmpR.cmpRs]
theorem cmpRs_one (xs : List Val) (d : Int) : cmpR.cmpRs xs [] d = d := by cases xs <;> rw [cmpR.cmpRs]
theorem cmpRs_cons (x y : Val) (r s : List Val) (d : Int) : cmpR.cmpRs (x :: r) (y :: s) d = bif cmpR x y != 0 then cmpR x y else cmpR.cmpRs r s d := by rw [cmpR.cmpRs]
--[[zero
theorem bytesLess_irr : ∀ l : List UInt8, Op.bytesLess l l = false
  | [] => rfl
  | a :: r => by
    rw [Op.bytesLess, bytesLess_irr r]
    simp
mutual
/-- the document's comparison says that two are the same just where the program's does -/
theorem cmpR_zero : ∀ x y : Val, x.wf → y.wf → (cmpR x y = 0 ↔ cloneV x = cloneV y)
  | .mk k n s l, y, hx, hy => by
    have hx2 := (Val.wf_eq _).1 hx
    have hy2 := (Val.wf_eq _).1 hy
    have kx : -9223372036854775808 ≤ k ∧ k ≤ 9223372036854775807 := hx2.1
    have ky := hy2.1
    rw [cmpR_eq, Val.ext4, clone_kind, clone_kind, clone_num, clone_num, clone_txt, clone_txt, clone_list, clone_list]
    show (bif k != y.kind then wrap64 (k - y.kind) else bif k == 1 then (bif decide (n < y.num) then -1 else bif decide (y.num < n) then 1 else 0) else bif k == 2 then (bif Op.bytesLess s.toList y.txt.toList then -1 else bif !(Op.bytesLess s.toList y.txt.toList || s.toList == y.txt.toList) then 1 else 0) else bif k != 3 then 0 else cmpR.cmpRs l y.list ((l.length : Int) - y.list.length)) = 0 ↔ k = y.kind ∧ (bif k == 1 then n else 0) = _ ∧ (bif k == 2 then s else _) = _ ∧ (bif k == 3 then l.map cloneV else _) = _
    by_cases hk : k = y.kind
    · rw [← hk]
      have e0 : (k != k) = false := by simp
      rw [e0]
      by_cases h1 : k = 1
      · subst h1
        simp only [beq_self_eq_true, cond_true, cond_false, true_and, show ((1 : Int) == 2) = false from rfl, show ((1 : Int) == 3) = false from rfl, and_true]
        by_cases n1 : n < y.num
        · rw [decide_eq_true n1]; simp; omega
        · rw [decide_eq_false n1]
          by_cases n2 : y.num < n
          · rw [decide_eq_true n2]; simp; omega
          · rw [decide_eq_false n2]; simp; omega
      · have e1 : (k == 1) = false := by simpa using h1
        by_cases h2 : k = 2
        · subst h2
          simp only [beq_self_eq_true, cond_true, cond_false, true_and, show ((2 : Int) == 1) = false from rfl, show ((2 : Int) == 3) = false from rfl, and_true]
          by_cases hs : s = y.txt
          · rw [hs, bytesLess_irr]; simp
          · have hs2 : (s.toList == y.txt.toList) = false := by
              rw [beq_eq_false_iff_ne]
              intro e
              rw [ByteArray.toList_eq, ByteArray.toList_eq] at e
              exact hs (bytes_inj.1 e)
            rw [hs2]
            cases Op.bytesLess s.toList y.txt.toList <;> simp [hs]
        · have e2 : (k == 2) = false := by simpa using h2
          by_cases h3 : k = 3
          · subst h3
            simp only [beq_self_eq_true, cond_true, cond_false, true_and, show ((3 : Int) == 1) = false from rfl, show ((3 : Int) == 2) = false from rfl, show ((3 : Int) != 3) = false from rfl]
            exact cmpRs_zero l y.list (Val.wfL_iff.1 hx2.2.2.2) (Val.wfL_iff.1 hy2.2.2.2)
          · have e3 : (k == 3) = false := by simpa using h3
            have e4 : (k != 3) = true := by simpa using h3
            simp [e1, e2, e3, e4]
    · have e0 : (k != y.kind) = true := by simpa using hk
      rw [e0]
      simp only [cond_true, hk, false_and, iff_false]
      intro h
      unfold wrap64 at h
      omega
theorem cmpRs_zero : ∀ xs ys : List Val, (∀ x ∈ xs, x.wf) → (∀ y ∈ ys, y.wf) → (cmpR.cmpRs xs ys ((xs.length : Int) - ys.length) = 0 ↔ xs.map cloneV = ys.map cloneV)
  | [], [], _, _ => by rw [cmpRs_nil]; simp
  | [], y :: s, _, _ => by rw [cmpRs_nil]; simp; omega
  | x :: r, [], _, _ => by rw [cmpRs_one]; simp; omega
  | x :: r, y :: s, hx, hy => by
    have h1 := cmpR_zero x y (hx x List.mem_cons_self) (hy y List.mem_cons_self)
    have h2 := cmpRs_zero r s (fun z hz => hx z (List.mem_cons_of_mem _ hz)) (fun z hz => hy z (List.mem_cons_of_mem _ hz))
    rw [cmpRs_cons, List.map_cons, List.map_cons]
    have hl : (((x :: r).length : Nat) : Int) - ((y :: s).length : Nat) = (r.length : Int) - s.length := by simp only [List.length_cons]; omega
    rw [hl]
    by_cases h : cmpR x y = 0
    · have e : (cmpR x y != 0) = false := by simpa using h
      rw [e, cond_false, h2, h1.1 h]
      simp
    · have e : (cmpR x y != 0) = true := by simpa using h
      rw [e, cond_true]
      refine ⟨fun hh => absurd hh h, fun hh => absurd (h1.2 ?_) h⟩
      exact (List.cons.inj hh).1
end
--]]zero
end Go.Va

namespace Go.Proofs.YtielnengimninaaGreatDoor
open Go.RowKit Go.Own Go.Own.MapTy Go.Va Go.Sort
open Go.Own.Cells (sz enc)
--[[c1
set_option maxRecDepth 100000 in
set_option maxHeartbeats 8000000 in
theorem rcmp_kind (x y : Val)
    (ck cn : Int) (cs : ByteArray) (la : Option Addr) (ln lc : Nat) (dk dn : Int) (ds : ByteArray) (ma : Option Addr) (mn mc : Nat) (F F' : Nat → Prop) (w : World) (C : CF F w ⟨ck, cn, cs, la, ln, lc⟩ x) (D : CF F' w ⟨dk, dn, ds, ma, mn, mc⟩ y) (r : Int) (hr : cmpR x y = r)
    (hk : (ck != dk) = true) :
    Calls Tryz.prog 63 #[.agg #[.int .i64 ck, .int .i64 cn, .string cs, .slice la ln lc], .agg #[.int .i64 dk, .int .i64 dn, .string ds, .slice ma mn mc]] w fun e w' => e = .returned (.int .i64 r) ∧ Below w.heap.size w w'
    := by
  rw [cmpR_eq] at hr
  have h1 : ck = x.kind := C.kind
  have h2 : cn = x.num := C.n
  have h3 : cs = x.txt := C.s
  have g1 : dk = y.kind := D.kind
  have g2 : dn = y.num := D.n
  have g3 : ds = y.txt := D.s
  rw [← h1, ← h2, ← h3, ← g1, ← g2, ← g3] at hr
  clear h1 h2 h3 g1 g2 g3
  have HC := Lib.hid (And.intro C D)
  clear C D
  rw [hk] at hr
  simp only [cond_true] at hr
  have hk2 : (ck == dk) = false := by simpa using hk
  have HR := Lib.hid hr
  clear hr
  have HB := Lib.hid ((((Below.refl w.heap.size w).alloc (Nat.le_refl _) (.cells #[.int .i64 ck, .int .i64 cn, .string cs, .slice la ln lc] 63)).alloc (by simp) (.cells #[.int .i64 dk, .int .i64 dn, .string ds, .slice ma mn mc] 63)))
  go_enter Tryz.func63, Tryz.ntmps63
  go_wp2_with fail
  go_ret
  exact ⟨by rw [← HR.out]; rfl, HB.out⟩
--]]c1
--[[c2
set_option maxRecDepth 100000 in
set_option maxHeartbeats 8000000 in
theorem rcmp_int (x y : Val)
    (ck cn : Int) (cs : ByteArray) (la : Option Addr) (ln lc : Nat) (dk dn : Int) (ds : ByteArray) (ma : Option Addr) (mn mc : Nat) (F F' : Nat → Prop) (w : World) (C : CF F w ⟨ck, cn, cs, la, ln, lc⟩ x) (D : CF F' w ⟨dk, dn, ds, ma, mn, mc⟩ y) (r : Int) (hr : cmpR x y = r)
    (hk : ck = dk) (h1 : ck = 1) :
    Calls Tryz.prog 63 #[.agg #[.int .i64 ck, .int .i64 cn, .string cs, .slice la ln lc], .agg #[.int .i64 dk, .int .i64 dn, .string ds, .slice ma mn mc]] w fun e w' => e = .returned (.int .i64 r) ∧ Below w.heap.size w w'
    := by
  rw [cmpR_eq] at hr
  have h1 : ck = x.kind := C.kind
  have h2 : cn = x.num := C.n
  have h3 : cs = x.txt := C.s
  have g1 : dk = y.kind := D.kind
  have g2 : dn = y.num := D.n
  have g3 : ds = y.txt := D.s
  rw [← h1, ← h2, ← h3, ← g1, ← g2, ← g3] at hr
  clear h1 h2 h3 g1 g2 g3
  have HC := Lib.hid (And.intro C D)
  clear C D
  have hk1 : (ck != dk) = false := by rw [hk]; simp
  rw [hk1] at hr
  simp only [cond_false] at hr
  subst hk
  have HB := Lib.hid ((((Below.refl w.heap.size w).alloc (Nat.le_refl _) (.cells #[.int .i64 ck, .int .i64 cn, .string cs, .slice la ln lc] 63)).alloc (by simp) (.cells #[.int .i64 ck, .int .i64 dn, .string ds, .slice ma mn mc] 63)))
  clear hk1
  subst h1
  simp only [beq_self_eq_true, cond_true] at hr
  cases n1 : decide (cn < dn) with
  | true =>
    rw [n1] at hr
    simp only [cond_true] at hr
    have n1' := of_decide_eq_true n1
    have HR := Lib.hid hr
    clear hr
    go_enter Tryz.func63, Tryz.ntmps63
    go_wp2_with fail
    go_ret
    exact ⟨by rw [← HR.out]; rfl, HB.out⟩
  | false =>
    rw [n1] at hr
    simp only [cond_false] at hr
    have n1' := of_decide_eq_false n1
    cases n2 : decide (dn < cn) with
    | true =>
      rw [n2] at hr
      simp only [cond_true] at hr
      have n2' := of_decide_eq_true n2
      have HR := Lib.hid hr
      clear hr
      go_enter Tryz.func63, Tryz.ntmps63
      go_wp2_with fail
      go_ret
      exact ⟨by rw [← HR.out]; rfl, HB.out⟩
    | false =>
      rw [n2] at hr
      simp only [cond_false] at hr
      have n2' := of_decide_eq_false n2
      have HR := Lib.hid hr
      clear hr
      go_enter Tryz.func63, Tryz.ntmps63
      go_wp2_with fail
      go_ret
      exact ⟨by rw [← HR.out]; rfl, HB.out⟩
--]]c2
--[[c3
set_option maxRecDepth 100000 in
set_option maxHeartbeats 8000000 in
theorem rcmp_text (x y : Val)
    (ck cn : Int) (cs : ByteArray) (la : Option Addr) (ln lc : Nat) (dk dn : Int) (ds : ByteArray) (ma : Option Addr) (mn mc : Nat) (F F' : Nat → Prop) (w : World) (C : CF F w ⟨ck, cn, cs, la, ln, lc⟩ x) (D : CF F' w ⟨dk, dn, ds, ma, mn, mc⟩ y) (r : Int) (hr : cmpR x y = r)
    (hk : ck = dk) (h1 : ck = 2) :
    Calls Tryz.prog 63 #[.agg #[.int .i64 ck, .int .i64 cn, .string cs, .slice la ln lc], .agg #[.int .i64 dk, .int .i64 dn, .string ds, .slice ma mn mc]] w fun e w' => e = .returned (.int .i64 r) ∧ Below w.heap.size w w'
    := by
  rw [cmpR_eq] at hr
  have h1 : ck = x.kind := C.kind
  have h2 : cn = x.num := C.n
  have h3 : cs = x.txt := C.s
  have g1 : dk = y.kind := D.kind
  have g2 : dn = y.num := D.n
  have g3 : ds = y.txt := D.s
  rw [← h1, ← h2, ← h3, ← g1, ← g2, ← g3] at hr
  clear h1 h2 h3 g1 g2 g3
  have HC := Lib.hid (And.intro C D)
  clear C D
  have hk1 : (ck != dk) = false := by rw [hk]; simp
  rw [hk1] at hr
  simp only [cond_false] at hr
  subst hk
  have HB := Lib.hid ((((Below.refl w.heap.size w).alloc (Nat.le_refl _) (.cells #[.int .i64 ck, .int .i64 cn, .string cs, .slice la ln lc] 63)).alloc (by simp) (.cells #[.int .i64 ck, .int .i64 dn, .string ds, .slice ma mn mc] 63)))
  clear hk1
  subst h1
  have e1 : ((2 : Int) == 1) = false := rfl
  rw [e1] at hr
  simp only [beq_self_eq_true, cond_true, cond_false] at hr
  clear e1
  cases n1 : Op.bytesLess cs.toList ds.toList with
  | true =>
    rw [n1] at hr
    simp only [cond_true] at hr
    have HR := Lib.hid hr
    clear hr
    go_enter Tryz.func63, Tryz.ntmps63
    go_wp2_with fail
    go_ret
    exact ⟨by rw [← HR.out]; rfl, HB.out⟩
  | false =>
    rw [n1] at hr
    simp only [cond_false, Bool.false_or] at hr
    cases n2 : (cs.toList == ds.toList) with
    | true =>
      rw [n2] at hr
      have HR := Lib.hid hr
      clear hr
      go_enter Tryz.func63, Tryz.ntmps63
      go_wp2_with fail
      go_ret
      exact ⟨by rw [← HR.out]; rfl, HB.out⟩
    | false =>
      rw [n2] at hr
      have HR := Lib.hid hr
      clear hr
      go_enter Tryz.func63, Tryz.ntmps63
      go_wp2_with fail
      go_ret
      exact ⟨by rw [← HR.out]; rfl, HB.out⟩
--]]c3
--[[c4
set_option maxRecDepth 100000 in
set_option maxHeartbeats 8000000 in
theorem rcmp_other (x y : Val)
    (ck cn : Int) (cs : ByteArray) (la : Option Addr) (ln lc : Nat) (dk dn : Int) (ds : ByteArray) (ma : Option Addr) (mn mc : Nat) (F F' : Nat → Prop) (w : World) (C : CF F w ⟨ck, cn, cs, la, ln, lc⟩ x) (D : CF F' w ⟨dk, dn, ds, ma, mn, mc⟩ y) (r : Int) (hr : cmpR x y = r)
    (hk : ck = dk) (h1 : (ck == 1) = false) (h2 : (ck == 2) = false) (h3 : (ck == 3) = false) :
    Calls Tryz.prog 63 #[.agg #[.int .i64 ck, .int .i64 cn, .string cs, .slice la ln lc], .agg #[.int .i64 dk, .int .i64 dn, .string ds, .slice ma mn mc]] w fun e w' => e = .returned (.int .i64 r) ∧ Below w.heap.size w w'
    := by
  rw [cmpR_eq] at hr
  have h1 : ck = x.kind := C.kind
  have h2 : cn = x.num := C.n
  have h3 : cs = x.txt := C.s
  have g1 : dk = y.kind := D.kind
  have g2 : dn = y.num := D.n
  have g3 : ds = y.txt := D.s
  rw [← h1, ← h2, ← h3, ← g1, ← g2, ← g3] at hr
  clear h1 h2 h3 g1 g2 g3
  have HC := Lib.hid (And.intro C D)
  clear C D
  have hk1 : (ck != dk) = false := by rw [hk]; simp
  rw [hk1] at hr
  simp only [cond_false] at hr
  subst hk
  have HB := Lib.hid ((((Below.refl w.heap.size w).alloc (Nat.le_refl _) (.cells #[.int .i64 ck, .int .i64 cn, .string cs, .slice la ln lc] 63)).alloc (by simp) (.cells #[.int .i64 ck, .int .i64 dn, .string ds, .slice ma mn mc] 63)))
  clear hk1
  have h4 : (ck != 3) = true := by simpa using h3
  rw [h1, h2, h4] at hr
  simp only [cond_false, cond_true] at hr
  have HR := Lib.hid hr
  clear hr
  go_enter Tryz.func63, Tryz.ntmps63
  go_wp2_with fail
  go_ret
  exact ⟨by rw [← HR.out]; rfl, HB.out⟩
--]]c4
--[[c5
def RCRel (w2 : World) (x y : Val) (r : Int) (gk : Nat) (v46 : Value) (wr : World) : Prop :=
  ∃ i : Nat, v46 = .int .i64 i ∧ i ≤ x.list.length ∧ i ≤ y.list.length ∧ gk = x.list.length - i ∧ cmpR.cmpRs (x.list.drop i) (y.list.drop i) ((x.list.length : Int) - y.list.length) = r ∧ Below w2.heap.size w2 wr
set_option maxRecDepth 100000 in
set_option maxHeartbeats 8000000 in
theorem rcmp_list (n : Nat) (IH : ∀ (x : Val), x.parts ≤ n → ∀ (y : Val) (c d : VC) (F F' : Nat → Prop) (w : World), CF F w c x → CF F' w d y →
      Calls Tryz.prog 63 #[.agg #[.int .i64 c.kind, .int .i64 c.n, .string c.s, .slice c.la c.ln c.lc], .agg #[.int .i64 d.kind, .int .i64 d.n, .string d.s, .slice d.la d.ln d.lc]] w fun e w' => e = .returned (.int .i64 (cmpR x y)) ∧ Below w.heap.size w w')
    (x y : Val)
    (ck cn : Int) (cs : ByteArray) (la : Option Addr) (ln lc : Nat) (dk dn : Int) (ds : ByteArray) (ma : Option Addr) (mn mc : Nat) (F F' : Nat → Prop) (w : World) (C : CF F w ⟨ck, cn, cs, la, ln, lc⟩ x) (D : CF F' w ⟨dk, dn, ds, ma, mn, mc⟩ y) (r : Int) (hr : cmpR x y = r)
    (hk : ck = dk) (h1 : ck = 3) (hx : x.parts ≤ n + 1) (g off g' off' : Nat)
    (hel : ln = x.list.length ∧ ln ≤ maxLen ∧ (∀ (i : Nat) (z : Val), x.list[i]? = some z → F g ∧ g < w.heap.size ∧ ∃ c, CF F w c z ∧
      w.cell? ⟨g, off + i * 4, none⟩ = some (.int .i64 c.kind) ∧ w.cell? ⟨g, off + i * 4 + 1, none⟩ = some (.int .i64 c.n) ∧ w.cell? ⟨g, off + i * 4 + 2, none⟩ = some (.string c.s) ∧ w.cell? ⟨g, off + i * 4 + 3, none⟩ = some (.slice c.la c.ln c.lc))) (hla : la = some ⟨g, off, none⟩ ∨ x.list = [])
    (hem : mn = y.list.length ∧ mn ≤ maxLen ∧ (∀ (i : Nat) (z : Val), y.list[i]? = some z → F' g' ∧ g' < w.heap.size ∧ ∃ c, CF F' w c z ∧
      w.cell? ⟨g', off' + i * 4, none⟩ = some (.int .i64 c.kind) ∧ w.cell? ⟨g', off' + i * 4 + 1, none⟩ = some (.int .i64 c.n) ∧ w.cell? ⟨g', off' + i * 4 + 2, none⟩ = some (.string c.s) ∧ w.cell? ⟨g', off' + i * 4 + 3, none⟩ = some (.slice c.la c.ln c.lc))) (hma : ma = some ⟨g', off', none⟩ ∨ y.list = []) :
    Calls Tryz.prog 63 #[.agg #[.int .i64 ck, .int .i64 cn, .string cs, .slice la ln lc], .agg #[.int .i64 dk, .int .i64 dn, .string ds, .slice ma mn mc]] w fun e w' => e = .returned (.int .i64 r) ∧ Below w.heap.size w w'
    := by
  rw [cmpR_eq] at hr
  have h1 : ck = x.kind := C.kind
  have h2 : cn = x.num := C.n
  have h3 : cs = x.txt := C.s
  have g1 : dk = y.kind := D.kind
  have g2 : dn = y.num := D.n
  have g3 : ds = y.txt := D.s
  rw [← h1, ← h2, ← h3, ← g1, ← g2, ← g3] at hr
  clear h1 h2 h3 g1 g2 g3
  have HC := Lib.hid (And.intro C D)
  clear C D
  have hk1 : (ck != dk) = false := by rw [hk]; simp
  rw [hk1] at hr
  simp only [cond_false] at hr
  subst hk
  have HB := Lib.hid ((((Below.refl w.heap.size w).alloc (Nat.le_refl _) (.cells #[.int .i64 ck, .int .i64 cn, .string cs, .slice la ln lc] 63)).alloc (by simp) (.cells #[.int .i64 ck, .int .i64 dn, .string ds, .slice ma mn mc] 63)))
  clear hk1
  subst h1
  have e1 : ((3 : Int) == 1) = false := rfl
  have e2 : ((3 : Int) == 2) = false := rfl
  have e3 : ((3 : Int) != 3) = false := rfl
  rw [e1, e2, e3] at hr
  simp only [cond_false] at hr
  obtain ⟨hln, hlm, hel⟩ := hel
  obtain ⟨hmn, hmm, hem⟩ := hem
  have HR := Lib.hid hr
  have HE := Lib.hid (And.intro hel hem)
  have HL := Lib.hid (And.intro hln hmn)
  have HLA := Lib.hid (And.intro hla hma)
  have HI := Lib.hid IH
  unfold maxLen at hlm hmm
  clear hr e1 e2 e3 hel hem hln hmn hla hma IH
  go_enter Tryz.func63, Tryz.ntmps63
  go_wp2_with fail
  obtain ⟨w2, hw2⟩ : ∃ w2, w2 = (w.alloc (.cells #[.int .i64 3, .int .i64 cn, .string cs, .slice la ln lc] 63)).alloc (.cells #[.int .i64 3, .int .i64 dn, .string ds, .slice ma mn mc] 63) := ⟨_, rfl⟩
  have p3 : w2.cell? ⟨w.heap.size, 3, none⟩ = some (.slice la ln lc) := by rw [hw2, cell_of_heap heap_lt2]; rfl
  have p7 : w2.cell? ⟨w.heap.size + 1, 3, none⟩ = some (.slice ma mn mc) := by rw [hw2, cell_of_heap heap_new2]; rfl
  have sz2 : w2.heap.size = w.heap.size + 2 := by rw [hw2]; simp
  rw [← hw2] at HB ⊢
  have HP := Lib.hid (And.intro p3 (And.intro p7 sz2))
  clear hw2 p3 p7 sz2
  go_loopg [5] (x.list.length) (fun gk v5 wr => RCRel w2 x y r gk v5 wr)
  case atStart => exact ⟨0, rfl, Nat.zero_le _, Nat.zero_le _, rfl, HR.out, Below.refl _ _⟩
  case round =>
    obtain ⟨i, rfl, hi, hj, hgk, hcm, hB⟩ := hrel
    have b1 := hB.size
    have s1 : w.heap.size + 1 < wr.heap.size := by have := HP.out.2.2; omega
    have s0 : w.heap.size < wr.heap.size := by omega
    have p3 : wr.cell? ⟨w.heap.size, 3, none⟩ = some (.slice la ln lc) := by rw [hB.cell (p := ⟨w.heap.size, 3, none⟩) (show w.heap.size < w2.heap.size by have := HP.out.2.2; omega)]; exact HP.out.1
    have p7 : wr.cell? ⟨w.heap.size + 1, 3, none⟩ = some (.slice ma mn mc) := by rw [hB.cell (p := ⟨w.heap.size + 1, 3, none⟩) (show w.heap.size + 1 < w2.heap.size by have := HP.out.2.2; omega)]; exact HP.out.2.1
    have BW := HB.out.trans (hB.mono (show w.heap.size ≤ w2.heap.size by have := HP.out.2.2; omega))
    by_cases hin : i < ln
    · obtain ⟨z, hz⟩ := elem_at (l := x.list) (k := i) (by have := HL.out.1; omega)
      obtain ⟨hFg, hg, c', hC, q0, q1, q2, q3⟩ := HE.out.1 i z hz
      have hin' : (i : Int) < ln := by omega
      have hla : la = some ⟨g, off, none⟩ := HLA.out.1.resolve_right (fun e => by rw [e] at hz; simp at hz)
      rw [← BW.cell (p := ⟨g, _, none⟩) hg] at q0 q1 q2 q3
      have hdr : x.list.drop i = z :: x.list.drop (i + 1) := by
        rw [List.drop_eq_getElem_cons (List.getElem?_eq_some_iff.1 hz).1, (List.getElem?_eq_some_iff.1 hz).2]
      have hgl : g < wr.heap.size := by omega
      subst hla
      by_cases hjn : i < mn
      · obtain ⟨u, hu⟩ := elem_at (l := y.list) (k := i) (by have := HL.out.2; omega)
        obtain ⟨hFm, hm, d', hD, m0, m1, m2, m3⟩ := HE.out.2 i u hu
        have hjn' : ((i : Int) == mn) = false := by rw [beq_eq_false_iff_ne]; omega
        have hjn2 : (i : Int) < mn := by omega
        have hma : ma = some ⟨g', off', none⟩ := HLA.out.2.resolve_right (fun e => by rw [e] at hu; simp at hu)
        rw [← BW.cell (p := ⟨g', _, none⟩) hm] at m0 m1 m2 m3
        have hds : y.list.drop i = u :: y.list.drop (i + 1) := by
          rw [List.drop_eq_getElem_cons (List.getElem?_eq_some_iff.1 hu).1, (List.getElem?_eq_some_iff.1 hu).2]
        have hml : g' < wr.heap.size := by omega
        rw [hdr, hds, cmpRs_cons] at hcm
        have CW := Lib.hid (fun W (hW : Below wr.heap.size wr W) => HI.out z (by have := Val.parts_lt (v := x) (List.mem_of_getElem? hz); omega) u c' d' _ _ W (hC.keep (S := fun _ => False) (Keeps.of_below (BW.trans (hW.mono BW.size))) (fun _ _ f => f)) (hD.keep (S := fun _ => False) (Keeps.of_below (BW.trans (hW.mono BW.size))) (fun _ _ f => f)))
        generalize cmpR z u = cv at *
        have HX := Lib.hid (And.intro hcm (And.intro hB (And.intro hgk (And.intro BW (And.intro hj (And.intro hi (And.intro (List.getElem?_eq_some_iff.1 hz).1 (List.getElem?_eq_some_iff.1 hu).1)))))))
        subst hma
        clear hcm hB hgk BW hz hu hC hD hdr hds
        --[[c51
        go_wp2_with fail
        refine wp_region_ext (by kernel_rfl) (by kernel_rfl) ?_
        repeat (go_big_quiet_step ((go_at_call 63; exact ext_call (CW.out _ (Subtype.property _)))))
        refine wpQuiet_nil ?_
        intro w7 hB7
        have HB7 := Lib.hid hB7
        clear hB7 CW
        cases hz : (cv != 0) with
        | true =>
          have hcm := HX.out.1
          rw [hz] at hcm
          simp only [cond_true] at hcm
          have HM := Lib.hid hcm
          clear hcm
          go_wp2_with fail
          go_ret
          exact ⟨by rw [← HM.out]; rfl, HX.out.2.2.2.1.trans (HB7.out.mono HX.out.2.2.2.1.size)⟩
        | false =>
          have hcm := HX.out.1
          rw [hz] at hcm
          simp only [cond_false] at hcm
          have HM := Lib.hid hcm
          clear hcm
          go_wp2_with fail
          go_roundg (x.list.length - (i + 1))
          case measure => have := HX.out.2.2.1; have := HX.out.2.2.2.2.2.2.1; omega
          case rel => exact ⟨i + 1, by simp, HX.out.2.2.2.2.2.2.1, HX.out.2.2.2.2.2.2.2, rfl, HM.out, HX.out.2.1.trans (HB7.out.mono HX.out.2.1.size)⟩
        --]]c51
      · obtain rfl : i = mn := by have := HL.out.2; omega
        have hyn : y.list.drop i = [] := List.drop_eq_nil_of_le (by have := HL.out.2; omega)
        rw [hyn, cmpRs_one] at hcm
        have hjn2 : ¬ (i : Int) < i := by omega
        have hwl : wrap64 ((ln : Int) - i) = (ln : Int) - i := by unfold wrap64; omega
        have HX := Lib.hid (And.intro hcm BW)
        clear hcm hB hgk BW hz hC hdr
        --[[c52
        go_wp2_with fail
        go_ret
        exact ⟨by rw [← HX.out.1, ← HL.out.1, ← HL.out.2]; rfl, HX.out.2⟩
        --]]c52
    · obtain rfl : i = ln := by have := HL.out.1; omega
      have hxn : x.list.drop i = [] := List.drop_eq_nil_of_le (by have := HL.out.1; omega)
      rw [hxn, cmpRs_nil] at hcm
      have e3 : ¬ (i : Int) < i := by omega
      have hwl : wrap64 ((i : Int) - mn) = (i : Int) - mn := by unfold wrap64; omega
      have HX := Lib.hid (And.intro hcm BW)
      clear hcm hB hgk BW
      --[[c53
      go_wp2_with fail
      go_ret
      exact ⟨by rw [← HX.out.1, ← HL.out.1, ← HL.out.2]; rfl, HX.out.2⟩
      --]]c53
--]]c5
theorem rcompare_any : ∀ (n : Nat) (x : Val), x.parts ≤ n → ∀ (y : Val) (c d : VC) (F F' : Nat → Prop) (w : World), CF F w c x → CF F' w d y →
      Calls Tryz.prog 63 #[.agg #[.int .i64 c.kind, .int .i64 c.n, .string c.s, .slice c.la c.ln c.lc], .agg #[.int .i64 d.kind, .int .i64 d.n, .string d.s, .slice d.la d.ln d.lc]] w fun e w' => e = .returned (.int .i64 (cmpR x y)) ∧ Below w.heap.size w w'
  | 0, x, hx, _, _, _, _, _, _, _, _ => by have := x.parts_pos; omega
  | n + 1, x, hx, y, ⟨ck, cn, cs, la, ln, lc⟩, ⟨dk, dn, ds, ma, mn, mc⟩, F, F', w, C, D => by
    by_cases hk : ck = dk
    · by_cases k1 : ck = 1
      · exact rcmp_int x y ck cn cs la ln lc dk dn ds ma mn mc F F' w C D _ rfl hk k1
      · by_cases k2 : ck = 2
        · exact rcmp_text x y ck cn cs la ln lc dk dn ds ma mn mc F F' w C D _ rfl hk k2
        · by_cases k3 : ck = 3
          · obtain ⟨h4, h5, h6⟩ := C.l.elems
            obtain ⟨g4, g5, g6⟩ := D.l.elems
            have hA : ∃ g off, (la = some ⟨g, off, none⟩ ∨ x.list = []) ∧ (∀ (i : Nat) (z : Val), x.list[i]? = some z → F g ∧ g < w.heap.size ∧ ∃ c, CF F w c z ∧
                w.cell? ⟨g, off + i * 4, none⟩ = some (.int .i64 c.kind) ∧ w.cell? ⟨g, off + i * 4 + 1, none⟩ = some (.int .i64 c.n) ∧ w.cell? ⟨g, off + i * 4 + 2, none⟩ = some (.string c.s) ∧ w.cell? ⟨g, off + i * 4 + 3, none⟩ = some (.slice c.la c.ln c.lc)) := by
              rcases h6 with h6 | ⟨g, off, hla, hFg, hg, h6⟩
              · exact ⟨0, 0, .inr h6, fun i y hy => by rw [h6] at hy; simp at hy⟩
              · exact ⟨g, off, .inl hla, fun i y hy => ⟨hFg, hg, h6 i y hy⟩⟩
            have hB : ∃ g off, (ma = some ⟨g, off, none⟩ ∨ y.list = []) ∧ (∀ (i : Nat) (z : Val), y.list[i]? = some z → F' g ∧ g < w.heap.size ∧ ∃ c, CF F' w c z ∧
                w.cell? ⟨g, off + i * 4, none⟩ = some (.int .i64 c.kind) ∧ w.cell? ⟨g, off + i * 4 + 1, none⟩ = some (.int .i64 c.n) ∧ w.cell? ⟨g, off + i * 4 + 2, none⟩ = some (.string c.s) ∧ w.cell? ⟨g, off + i * 4 + 3, none⟩ = some (.slice c.la c.ln c.lc)) := by
              rcases g6 with h6 | ⟨g, off, hla, hFg, hg, h6⟩
              · exact ⟨0, 0, .inr h6, fun i y hy => by rw [h6] at hy; simp at hy⟩
              · exact ⟨g, off, .inl hla, fun i y hy => ⟨hFg, hg, h6 i y hy⟩⟩
            obtain ⟨g, off, a1, a2⟩ := hA
            obtain ⟨g', off', b1, b2⟩ := hB
            exact rcmp_list n (fun y hy => rcompare_any n y hy) x y ck cn cs la ln lc dk dn ds ma mn mc F F' w C D _ rfl hk k3 hx g off g' off' ⟨h4, h5, a2⟩ a1 ⟨g4, g5, b2⟩ b1
          · exact rcmp_other x y ck cn cs la ln lc dk dn ds ma mn mc F F' w C D _ rfl hk (beq_eq_false_iff_ne.2 k1) (beq_eq_false_iff_ne.2 k2) (beq_eq_false_iff_ne.2 k3)
    · exact rcmp_kind x y ck cn cs la ln lc dk dn ds ma mn mc F F' w C D _ rfl (by simpa using hk)
end Go.Proofs.YtielnengimninaaGreatDoor
