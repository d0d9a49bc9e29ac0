/- value.Write, value.Check, walked. -/
import Derived.Test.YtielnengimninaaGreatDoorV7
namespace Go.Va
open Go.Own Go.RowKit
/-- a value's bytes -/
def bytesV : Val → List UInt8
  | .mk k n s l => UInt8.ofNat (k % 256).toNat :: (bif k == 1 then numB (zigL n) else bif k == 2 then textB s.data.toList else bif k == 3 then numB l.length ++ bytesL l else [])
where bytesL : List Val → List UInt8
  | [] => []
  | x :: r => bytesV x ++ bytesL r
theorem bytesV_eq (x : Val) : bytesV x = UInt8.ofNat (x.kind % 256).toNat :: (bif x.kind == 1 then numB (zigL x.num) else bif x.kind == 2 then textB x.txt.data.toList else bif x.kind == 3 then numB x.list.length ++ bytesV.bytesL x.list else []) := by
  cases x
  rw [bytesV]
  rfl
theorem bytesL_cons (x : Val) (r : List Val) : bytesV.bytesL (x :: r) = bytesV x ++ bytesV.bytesL r := by rw [bytesV.bytesL]
theorem bytesL_nil : bytesV.bytesL [] = [] := by rw [bytesV.bytesL]
theorem bytesL_mem {x : Val} : ∀ {l : List Val}, x ∈ l → (bytesV x).length ≤ (bytesV.bytesL l).length
  | [], h => by cases h
  | y :: r, h => by
    rw [bytesL_cons, List.length_append]
    rcases List.mem_cons.1 h with rfl | h
    · omega
    · have := bytesL_mem h; omega
/-- may stand in memory -/
def Val.wf : Val → Prop
  | .mk k n s l => (-9223372036854775808 ≤ k ∧ k ≤ 9223372036854775807) ∧ (-9223372036854775808 ≤ n ∧ n ≤ 9223372036854775807) ∧ s.size ≤ 140737488355328 ∧ wfL l
where wfL : List Val → Prop
  | [] => True
  | x :: r => x.wf ∧ wfL r
theorem Val.wf_eq (x : Val) : x.wf ↔ (-9223372036854775808 ≤ x.kind ∧ x.kind ≤ 9223372036854775807) ∧ (-9223372036854775808 ≤ x.num ∧ x.num ≤ 9223372036854775807) ∧ x.txt.size ≤ 140737488355328 ∧ Val.wf.wfL x.list := by
  cases x
  rw [Val.wf]
  rfl
theorem Val.wfL_mem {x : Val} : ∀ {l : List Val}, Val.wf.wfL l → x ∈ l → x.wf
  | [], _, h => by cases h
  | y :: r, hw, h => by
    rw [Val.wf.wfL] at hw
    rcases List.mem_cons.1 h with rfl | h
    · exact hw.1
    · exact Val.wfL_mem hw.2 h
theorem Val.wfL_iff : ∀ {l : List Val}, Val.wf.wfL l ↔ ∀ x ∈ l, x.wf
  | [] => by rw [Val.wf.wfL]; simp
  | y :: r => by rw [Val.wf.wfL, Val.wfL_iff]; simp
end Go.Va
namespace Go.Proofs.YtielnengimninaaGreatDoor
open Go.RowKit Go.Own Go.Own.MapTy Go.Va Go.Sort
open Go.Own.Cells (sz enc)
theorem rowOf_alloc {W : World} {b j : Nat} (hb : b < W.heap.size) (o : Obj) : rowOf (W.alloc o) b j ↔ rowOf W b j := by
  unfold rowOf
  rw [Below.heap_alloc _ _ _ hb]
--[[wo
set_option maxRecDepth 100000 in
set_option maxHeartbeats 8000000 in
theorem write_other (x : Val)
    (b : Nat) (l : List UInt8) (ck cn : Int) (cs : ByteArray) (la : Option Addr) (ln lc : Nat) (F : Nat → Prop) (w : World) (H : WB w b l) (C : CF F w ⟨ck, cn, cs, la, ln, lc⟩ x) (hF : ∀ j, F j → j ≠ b ∧ ¬ rowOf w b j) (hw : x.wf) (hl : l.length + (bytesV x).length + 12 ≤ 1099511627776) (r : List UInt8) (hr : bytesV x = r)
    (k1 : (ck == 1) = false) (k2 : (ck == 2) = false) (k3 : (ck == 3) = false) :
    Calls Tryz.prog 103 #[.pointer (some ⟨b, 0, none⟩), .agg #[.int .i64 ck, .int .i64 cn, .string cs, .slice la ln lc]] w (WPB w b (l ++ r))
    := by
  have b0 := H.lt
  have hck : ck = x.kind := C.kind
  have hcn : cn = x.num := C.n
  have hcs : cs = x.txt := C.s
  have hwf := (Val.wf_eq x).1 hw
  have hbl := hr
  rw [bytesV_eq] at hr
  rw [hbl] at hl
  have HC := Lib.hid (And.intro C (And.intro hwf (And.intro hbl hF)))
  clear C hwf hbl hw hF
  obtain ⟨y, hy⟩ : ∃ y, y = UInt8.ofNat (x.kind % 256).toNat := ⟨_, rfl⟩
  rw [← hy] at hr
  have hyv : ((ck % 256) : Int) = (y.toNat : Int) := by
    have h : (x.kind % 256).toNat < 256 := by omega
    rw [hy, UInt8.toNat_ofNat_of_lt' (by exact h)]
    omega
  have HY := Lib.hid hyv
  clear hy hyv
  rw [← hck, k1, k2, k3] at hr
  simp only [cond_false] at hr
  have HR := Lib.hid hr
  clear hr hck hcn hcs
  have H1 := H.alloc (.cells #[.int .i64 ck, .int .i64 cn, .string cs, .slice la ln lc] 63)
  have H2 := H1.1.alloc (.cells #[.int .u8 (ck % 256)] 5)
  have hr0 : ∀ j, rowOf ((w.alloc (.cells #[.int .i64 ck, .int .i64 cn, .string cs, .slice la ln lc] 63)).alloc (.cells #[.int .u8 (ck % 256)] 5)) b j → j < w.heap.size := fun j hj => (H.row ((rowOf_alloc b0 _).1 ((rowOf_alloc (by simp; omega) _).1 hj))).2
  have CB := Lib.hid (show Calls Tryz.prog 124 #[.pointer (some ⟨b, 0, none⟩), .slice (some ⟨w.heap.size + 1, 0, none⟩) 1 1] _ (WPB _ b (l ++ [y])) from byte_any b l [y] (w.heap.size + 1) 1 _ H2.1 (fun j u hu => by
    rw [cell_of_heap heap_new2]
    cases j with
    | zero => rw [HY.out]; simpa [byteV] using hu
    | succ j => simp at hu) (by simp; omega))
  have HK := Lib.hid (And.intro H1.2 (And.intro H2.2 hr0))
  clear H1 H2 hr0
  have HH := Lib.hid H
  clear H
  go_enter Tryz.func103, Tryz.ntmps103
  go_wp2_with fail
  refine CB.out.mono ?_
  rintro e w2 ⟨rfl, HW2⟩
  have q : ∀ o, w2.cell? ⟨w.heap.size, o, none⟩ = (#[.int .i64 ck, .int .i64 cn, .string cs, .slice la ln lc] : Array Value)[o]? := fun o => by
    rw [HW2.out.2.cell (by simp; omega) (by omega) (fun h => by have := HK.out.2.2 _ h; omega), cell_of_heap heap_lt2]
  have q0 := q 0
  have q1 := q 1
  have q2 := q 2
  have q3 := q 3
  simp only [List.getElem?_toArray, List.getElem?_cons_zero, List.getElem?_cons_succ] at q0 q1 q2 q3
  have K2 := Lib.hid ((HK.out.1.trans HK.out.2.1).trans HW2.out.2)
  have sz2 : w.heap.size + 1 < w2.heap.size := by have := HW2.out.2.1.size; simp at this; omega
  clear q CB
  go_wp2_with fail
  go_end0
  exact ⟨rfl, Lib.hid ⟨by rw [← HR.out]; exact HW2.out.1, K2.out⟩⟩
--]]wo
--[[wi
set_option maxRecDepth 100000 in
set_option maxHeartbeats 8000000 in
theorem write_int (x : Val)
    (b : Nat) (l : List UInt8) (ck cn : Int) (cs : ByteArray) (la : Option Addr) (ln lc : Nat) (F : Nat → Prop) (w : World) (H : WB w b l) (C : CF F w ⟨ck, cn, cs, la, ln, lc⟩ x) (hF : ∀ j, F j → j ≠ b ∧ ¬ rowOf w b j) (hw : x.wf) (hl : l.length + (bytesV x).length + 12 ≤ 1099511627776) (r : List UInt8) (hr : bytesV x = r)
    (k1 : ck = 1) :
    Calls Tryz.prog 103 #[.pointer (some ⟨b, 0, none⟩), .agg #[.int .i64 ck, .int .i64 cn, .string cs, .slice la ln lc]] w (WPB w b (l ++ r))
    := by
  subst k1
  have b0 := H.lt
  have hck : 1 = x.kind := C.kind
  have hcn : cn = x.num := C.n
  have hcs : cs = x.txt := C.s
  have hwf := (Val.wf_eq x).1 hw
  have hbl := hr
  rw [bytesV_eq] at hr
  rw [hbl] at hl
  have HC := Lib.hid (And.intro C (And.intro hwf (And.intro hbl hF)))
  clear C hwf hbl hw hF
  obtain ⟨y, hy⟩ : ∃ y, y = UInt8.ofNat (x.kind % 256).toNat := ⟨_, rfl⟩
  rw [← hy] at hr
  have hyv : (1 : Int) = (y.toNat : Int) := by
    have h : (x.kind % 256).toNat < 256 := by omega
    rw [hy, UInt8.toNat_ofNat_of_lt' (by exact h)]
    omega
  have HY := Lib.hid hyv
  clear hy hyv
  rw [← hck] at hr
  simp only [beq_self_eq_true, cond_true] at hr
  have HR := Lib.hid hr
  have hn := HC.out.2.1.2.1
  rw [← hcn] at hn hr
  have HR := Lib.hid hr
  clear hr hck hcn hcs
  have H1 := H.alloc (.cells #[.int .i64 1, .int .i64 cn, .string cs, .slice la ln lc] 63)
  have H2 := H1.1.alloc (.cells #[.int .u8 1] 5)
  have hr0 : ∀ j, rowOf ((w.alloc (.cells #[.int .i64 1, .int .i64 cn, .string cs, .slice la ln lc] 63)).alloc (.cells #[.int .u8 1] 5)) b j → j < w.heap.size := fun j hj => (H.row ((rowOf_alloc b0 _).1 ((rowOf_alloc (by simp; omega) _).1 hj))).2
  have CB := Lib.hid (show Calls Tryz.prog 124 #[.pointer (some ⟨b, 0, none⟩), .slice (some ⟨w.heap.size + 1, 0, none⟩) 1 1] _ (WPB _ b (l ++ [y])) from byte_any b l [y] (w.heap.size + 1) 1 _ H2.1 (fun j u hu => by
    rw [cell_of_heap heap_new2]
    cases j with
    | zero => rw [HY.out]; simpa [byteV] using hu
    | succ j => simp at hu) (by simp; omega))
  have HK := Lib.hid (And.intro H1.2 (And.intro H2.2 hr0))
  clear H1 H2 hr0
  have HH := Lib.hid H
  clear H
  go_enter Tryz.func103, Tryz.ntmps103
  go_wp2_with fail
  refine CB.out.mono ?_
  rintro e w2 ⟨rfl, HW2⟩
  have q : ∀ o, w2.cell? ⟨w.heap.size, o, none⟩ = (#[.int .i64 1, .int .i64 cn, .string cs, .slice la ln lc] : Array Value)[o]? := fun o => by
    rw [HW2.out.2.cell (by simp; omega) (by omega) (fun h => by have := HK.out.2.2 _ h; omega), cell_of_heap heap_lt2]
  have q0 := q 0
  have q1 := q 1
  have q2 := q 2
  have q3 := q 3
  simp only [List.getElem?_toArray, List.getElem?_cons_zero, List.getElem?_cons_succ] at q0 q1 q2 q3
  have K2 := Lib.hid ((HK.out.1.trans HK.out.2.1).trans HW2.out.2)
  have sz2 : w.heap.size + 1 < w2.heap.size := by have := HW2.out.2.1.size; simp at this; omega
  clear q CB
  have b2 := HW2.out.1.lt
  have HA := HW2.out.1.alloc (.cells #[.int .i64 cn] 2)
  have CI := Lib.hid (int_any b (l ++ [y]) cn w2.heap.size 1 _ HA.1 (by rw [cell_of_heap (heap_alloc_new _ _)]; rfl) hn.1 hn.2 (by have h := congrArg List.length HR.out; simp at h ⊢; omega))
  clear hn
  go_wp2_with fail
  refine CI.out.mono ?_
  rintro e w3 ⟨rfl, H3⟩
  go_wp2_with fail
  go_end0
  refine ⟨rfl, Lib.hid ⟨?_, (K2.out.trans HA.2).trans H3.out.2⟩⟩
  rw [← HR.out]
  have := H3.out.1
  rw [List.append_assoc] at this
  exact this
--]]wi
--[[wt
set_option maxRecDepth 100000 in
set_option maxHeartbeats 8000000 in
theorem write_text (x : Val)
    (b : Nat) (l : List UInt8) (ck cn : Int) (cs : ByteArray) (la : Option Addr) (ln lc : Nat) (F : Nat → Prop) (w : World) (H : WB w b l) (C : CF F w ⟨ck, cn, cs, la, ln, lc⟩ x) (hF : ∀ j, F j → j ≠ b ∧ ¬ rowOf w b j) (hw : x.wf) (hl : l.length + (bytesV x).length + 12 ≤ 1099511627776) (r : List UInt8) (hr : bytesV x = r)
    (k1 : ck = 2) :
    Calls Tryz.prog 103 #[.pointer (some ⟨b, 0, none⟩), .agg #[.int .i64 ck, .int .i64 cn, .string cs, .slice la ln lc]] w (WPB w b (l ++ r))
    := by
  subst k1
  have b0 := H.lt
  have hck : 2 = x.kind := C.kind
  have hcn : cn = x.num := C.n
  have hcs : cs = x.txt := C.s
  have hwf := (Val.wf_eq x).1 hw
  have hbl := hr
  rw [bytesV_eq] at hr
  rw [hbl] at hl
  have HC := Lib.hid (And.intro C (And.intro hwf (And.intro hbl hF)))
  clear C hwf hbl hw hF
  obtain ⟨y, hy⟩ : ∃ y, y = UInt8.ofNat (x.kind % 256).toNat := ⟨_, rfl⟩
  rw [← hy] at hr
  have hyv : (2 : Int) = (y.toNat : Int) := by
    have h : (x.kind % 256).toNat < 256 := by omega
    rw [hy, UInt8.toNat_ofNat_of_lt' (by exact h)]
    omega
  have HY := Lib.hid hyv
  clear hy hyv
  rw [← hck, ← hcs] at hr
  have e1 : ((2 : Int) == 1) = false := rfl
  rw [e1] at hr
  simp only [beq_self_eq_true, cond_true, cond_false] at hr
  have HR := Lib.hid hr
  have hsz : l.length + 1 + cs.size + 12 ≤ 1099511627776 := by
    have h := congrArg List.length hr
    simp [textB] at h
    omega
  clear hr hck hcn hcs e1
  have H1 := H.alloc (.cells #[.int .i64 2, .int .i64 cn, .string cs, .slice la ln lc] 63)
  have H2 := H1.1.alloc (.cells #[.int .u8 2] 5)
  have hr0 : ∀ j, rowOf ((w.alloc (.cells #[.int .i64 2, .int .i64 cn, .string cs, .slice la ln lc] 63)).alloc (.cells #[.int .u8 2] 5)) b j → j < w.heap.size := fun j hj => (H.row ((rowOf_alloc b0 _).1 ((rowOf_alloc (by simp; omega) _).1 hj))).2
  have CB := Lib.hid (show Calls Tryz.prog 124 #[.pointer (some ⟨b, 0, none⟩), .slice (some ⟨w.heap.size + 1, 0, none⟩) 1 1] _ (WPB _ b (l ++ [y])) from byte_any b l [y] (w.heap.size + 1) 1 _ H2.1 (fun j u hu => by
    rw [cell_of_heap heap_new2]
    cases j with
    | zero => rw [HY.out]; simpa [byteV] using hu
    | succ j => simp at hu) (by simp; omega))
  have HK := Lib.hid (And.intro H1.2 (And.intro H2.2 hr0))
  clear H1 H2 hr0
  have HH := Lib.hid H
  clear H
  go_enter Tryz.func103, Tryz.ntmps103
  go_wp2_with fail
  refine CB.out.mono ?_
  rintro e w2 ⟨rfl, HW2⟩
  have q : ∀ o, w2.cell? ⟨w.heap.size, o, none⟩ = (#[.int .i64 2, .int .i64 cn, .string cs, .slice la ln lc] : Array Value)[o]? := fun o => by
    rw [HW2.out.2.cell (by simp; omega) (by omega) (fun h => by have := HK.out.2.2 _ h; omega), cell_of_heap heap_lt2]
  have q0 := q 0
  have q1 := q 1
  have q2 := q 2
  have q3 := q 3
  simp only [List.getElem?_toArray, List.getElem?_cons_zero, List.getElem?_cons_succ] at q0 q1 q2 q3
  have K2 := Lib.hid ((HK.out.1.trans HK.out.2.1).trans HW2.out.2)
  have sz2 : w.heap.size + 1 < w2.heap.size := by have := HW2.out.2.1.size; simp at this; omega
  clear q CB
  have CT := Lib.hid (wtext_any b (l ++ [y]) cs _ HW2.out.1 (by simp; omega))
  go_wp2_with fail
  refine CT.out.mono ?_
  rintro e w3 ⟨rfl, H3⟩
  go_wp2_with fail
  go_end0
  refine ⟨rfl, Lib.hid ⟨?_, K2.out.trans H3.out.2⟩⟩
  rw [← HR.out]
  have := H3.out.1
  rw [List.append_assoc] at this
  exact this
--]]wt
--[[wl
def YRel (w : World) (b : Nat) (x : Val) (L : List UInt8) (gk : Nat) (v39 : Value) (wr : World) : Prop :=
  ∃ (i : Nat) (l1 : List UInt8), v39 = .int .i64 i ∧ i ≤ x.list.length ∧ gk = x.list.length - i ∧ WB wr b l1 ∧ l1 ++ bytesV.bytesL (x.list.drop i) = L ∧ WK b w wr
set_option maxRecDepth 100000 in
set_option maxHeartbeats 8000000 in
theorem write_list (n : Nat) (IH : ∀ (x : Val), x.parts ≤ n → ∀ (b : Nat) (l : List UInt8) (c : VC) (F : Nat → Prop) (w : World), WB w b l → CF F w c x → (∀ j, F j → j ≠ b ∧ ¬ rowOf w b j) → x.wf → l.length + (bytesV x).length + 12 ≤ 1099511627776 →
      Calls Tryz.prog 103 #[.pointer (some ⟨b, 0, none⟩), .agg #[.int .i64 c.kind, .int .i64 c.n, .string c.s, .slice c.la c.ln c.lc]] w (WPB w b (l ++ bytesV x)))
    (x : Val)
    (b : Nat) (l : List UInt8) (ck cn : Int) (cs : ByteArray) (la : Option Addr) (ln lc : Nat) (F : Nat → Prop) (w : World) (H : WB w b l) (C : CF F w ⟨ck, cn, cs, la, ln, lc⟩ x) (hF : ∀ j, F j → j ≠ b ∧ ¬ rowOf w b j) (hw : x.wf) (hl : l.length + (bytesV x).length + 12 ≤ 1099511627776) (r : List UInt8) (hr : bytesV x = r)
    (k1 : ck = 3) (hx : x.parts ≤ n + 1) (g off : Nat)
    (hel : ln = x.list.length ∧ ln ≤ maxLen ∧ (∀ (i : Nat) (y : Val), x.list[i]? = some y → F g ∧ g < w.heap.size ∧ ∃ c, CF F w c y ∧
      w.cell? ⟨g, off + i * 4, none⟩ = some (.int .i64 c.kind) ∧ w.cell? ⟨g, off + i * 4 + 1, none⟩ = some (.int .i64 c.n) ∧ w.cell? ⟨g, off + i * 4 + 2, none⟩ = some (.string c.s) ∧ w.cell? ⟨g, off + i * 4 + 3, none⟩ = some (.slice c.la c.ln c.lc))) (hla : la = some ⟨g, off, none⟩ ∨ x.list = []) :
    Calls Tryz.prog 103 #[.pointer (some ⟨b, 0, none⟩), .agg #[.int .i64 ck, .int .i64 cn, .string cs, .slice la ln lc]] w (WPB w b (l ++ r))
    := by
  subst k1
  have b0 := H.lt
  have hck : 3 = x.kind := C.kind
  have hcn : cn = x.num := C.n
  have hcs : cs = x.txt := C.s
  have hwf := (Val.wf_eq x).1 hw
  have hbl := hr
  rw [bytesV_eq] at hr
  rw [hbl] at hl
  have HC := Lib.hid (And.intro C (And.intro hwf (And.intro hbl hF)))
  clear C hwf hbl hw hF
  obtain ⟨y, hy⟩ : ∃ y, y = UInt8.ofNat (x.kind % 256).toNat := ⟨_, rfl⟩
  rw [← hy] at hr
  have hyv : (3 : Int) = (y.toNat : Int) := by
    have h : (x.kind % 256).toNat < 256 := by omega
    rw [hy, UInt8.toNat_ofNat_of_lt' (by exact h)]
    omega
  have HY := Lib.hid hyv
  clear hy hyv
  rw [← hck] at hr
  have e1 : ((3 : Int) == 1) = false := rfl
  have e2 : ((3 : Int) == 2) = false := rfl
  rw [e1, e2] at hr
  simp only [beq_self_eq_true, cond_true, cond_false] at hr
  obtain ⟨hln, hlm, hel⟩ := hel
  rw [← hln] at hr
  have HR := Lib.hid hr
  have HE := Lib.hid hel
  have HL := Lib.hid hln
  have HLA := Lib.hid hla
  unfold maxLen at hlm
  have HII := Lib.hid IH
  clear hr hck hcn hcs e1 e2 hel hln IH hla
  have H1 := H.alloc (.cells #[.int .i64 3, .int .i64 cn, .string cs, .slice la ln lc] 63)
  have H2 := H1.1.alloc (.cells #[.int .u8 3] 5)
  have hr0 : ∀ j, rowOf ((w.alloc (.cells #[.int .i64 3, .int .i64 cn, .string cs, .slice la ln lc] 63)).alloc (.cells #[.int .u8 3] 5)) b j → j < w.heap.size := fun j hj => (H.row ((rowOf_alloc b0 _).1 ((rowOf_alloc (by simp; omega) _).1 hj))).2
  have CB := Lib.hid (show Calls Tryz.prog 124 #[.pointer (some ⟨b, 0, none⟩), .slice (some ⟨w.heap.size + 1, 0, none⟩) 1 1] _ (WPB _ b (l ++ [y])) from byte_any b l [y] (w.heap.size + 1) 1 _ H2.1 (fun j u hu => by
    rw [cell_of_heap heap_new2]
    cases j with
    | zero => rw [HY.out]; simpa [byteV] using hu
    | succ j => simp at hu) (by simp; omega))
  have HK := Lib.hid (And.intro H1.2 (And.intro H2.2 hr0))
  clear H1 H2 hr0
  have HH := Lib.hid H
  clear H
  go_enter Tryz.func103, Tryz.ntmps103
  go_wp2_with fail
  refine CB.out.mono ?_
  rintro e w2 ⟨rfl, HW2⟩
  have q : ∀ o, w2.cell? ⟨w.heap.size, o, none⟩ = (#[.int .i64 3, .int .i64 cn, .string cs, .slice la ln lc] : Array Value)[o]? := fun o => by
    rw [HW2.out.2.cell (by simp; omega) (by omega) (fun h => by have := HK.out.2.2 _ h; omega), cell_of_heap heap_lt2]
  have q0 := q 0
  have q1 := q 1
  have q2 := q 2
  have q3 := q 3
  simp only [List.getElem?_toArray, List.getElem?_cons_zero, List.getElem?_cons_succ] at q0 q1 q2 q3
  have K2 := Lib.hid ((HK.out.1.trans HK.out.2.1).trans HW2.out.2)
  have sz2 : w.heap.size + 1 < w2.heap.size := by have := HW2.out.2.1.size; simp at this; omega
  clear q CB
  have b2 := HW2.out.1.lt
  have HA := HW2.out.1.alloc (.cells #[.int .u64 ln] 123)
  have CN := Lib.hid (num_any b (l ++ [y]) ln w2.heap.size 1 _ HA.1 (by rw [cell_of_heap (heap_alloc_new _ _)]; rfl) (by omega) (by have h := congrArg List.length HR.out; simp at h ⊢; omega))
  go_wp2_with fail
  refine CN.out.mono ?_
  rintro e w3 ⟨rfl, H3⟩
  have hr2 : ∀ j, rowOf (w2.alloc (.cells #[.int .u64 ln] 123)) b j → j < w.heap.size ∨ w.heap.size + 2 ≤ j := fun j hj => by
    rcases HW2.out.2.2 j ((rowOf_alloc b2 _).1 hj) with h | h
    · exact .inl (HK.out.2.2 j h)
    · simp at h; exact .inr h
  have q : ∀ o, w3.cell? ⟨w.heap.size, o, none⟩ = w2.cell? ⟨w.heap.size, o, none⟩ := fun o => by
    rw [H3.out.2.cell (by simp; omega) (by omega) (fun h => by have := hr2 _ h; omega)]
    exact World.cell?_of_block (w := w2) (Below.heap_alloc _ _ _ (show w.heap.size < w2.heap.size by omega))
  rw [← q 0] at q0
  rw [← q 1] at q1
  rw [← q 2] at q2
  rw [← q 3] at q3
  have K3 := Lib.hid ((K2.out.trans HA.2).trans H3.out.2)
  have hW3 := H3.out.1
  clear q CN hr2 H3 HA HK K2
  go_wp2_with fail
  go_loopg [39] (x.list.length) (fun gk v39 wr => YRel w b x (l ++ r) gk v39 wr)
  case atStart => exact ⟨0, _, rfl, Nat.zero_le _, rfl, hW3, (by rw [← HR.out]; simp), K3.out⟩
  case round =>
    clear q0 q1 q2 q3 hW3 K3
    obtain ⟨i, l1, rfl, hi, hgk, hW, he, hK⟩ := hrel
    by_cases hin : i < ln
    · obtain ⟨z, hz⟩ := elem_at (l := x.list) (k := i) (by have := HL.out; omega)
      obtain ⟨hFg, hg, c', hC, q0, q1, q2, q3⟩ := HE.out i z hz
      have hgF := HC.out.2.2.2 g hFg
      have hin' : (i : Int) < ln := by omega
      have hla : la = some ⟨g, off, none⟩ := HLA.out.resolve_right (fun e => by rw [e] at hz; simp at hz)
      have szr := hK.1.size
      have b1 := hW.lt
      rw [← hK.cell hg hgF.1 hgF.2] at q0 q1 q2 q3
      have hdr : x.list.drop i = z :: x.list.drop (i + 1) := by
        rw [List.drop_eq_getElem_cons (List.getElem?_eq_some_iff.1 hz).1, (List.getElem?_eq_some_iff.1 hz).2]
      rw [hdr, bytesL_cons] at he
      have hzm := List.mem_of_getElem? hz
      have hC' := (hC.mono (G := fun j => F j ∧ j < w.heap.size) (fun j h l => ⟨h, l⟩)).keep hK.1 (fun j h e => e.elim (HC.out.2.2.2 j h.1).1 (HC.out.2.2.2 j h.1).2)
      have hHA := hW.alloc (.cells #[.int .i64 c'.kind, .int .i64 c'.n, .string c'.s, .slice c'.la c'.ln c'.lc] 63)
      have hCA := hC'.keep (S := fun _ => False) ((Keeps.refl _ _).alloc (.cells #[.int .i64 c'.kind, .int .i64 c'.n, .string c'.s, .slice c'.la c'.ln c'.lc] 63)) (fun _ _ f => f)
      have CA := Lib.hid (HII.out z (by have := Val.parts_lt (v := x) hzm; omega) b l1 c' _ _ hHA.1 hCA (fun j h => ⟨(HC.out.2.2.2 j h.1).1, fun hj => by
        rcases hK.2 j ((rowOf_alloc b1 _).1 hj) with h1 | h1
        · exact (HC.out.2.2.2 j h.1).2 h1
        · have := h.2; omega⟩) (Val.wfL_mem HC.out.2.1.2.2.2 hzm) (by have h := congrArg List.length he; simp at h; omega))
      have HX := Lib.hid (And.intro he (And.intro (hK.trans hHA.2) hgk))
      subst hla
      clear hW he hK hgk hC hC' hHA hCA hdr hz hzm
      --[[wl1
      go_wp2_with fail
      refine CA.out.mono ?_
      rintro e w5 ⟨rfl, H5⟩
      go_wp2_with fail
      go_roundg (x.list.length - (i + 1))
      case measure => have := HX.out.2.2; have := HL.out; omega
      case rel => exact ⟨i + 1, _, by simp, (by have := HL.out; omega), rfl, H5.out.1, (by rw [List.append_assoc]; exact HX.out.1), HX.out.2.1.trans H5.out.2⟩
      --]]wl1
    · obtain rfl : i = ln := by have := HL.out; omega
      rw [List.drop_eq_nil_of_le (by have := HL.out; omega), bytesL_nil, List.append_nil] at he
      have HX := Lib.hid (And.intro he (And.intro hW hK))
      clear hW he hK hgk
      --[[wl2
      go_wp2_with fail
      go_end0
      exact ⟨rfl, Lib.hid ⟨by rw [← HX.out.1]; exact HX.out.2.1, HX.out.2.2⟩⟩
      --]]wl2
--]]wl
--[[write
theorem write_any : ∀ (n : Nat) (x : Val), x.parts ≤ n → ∀ (b : Nat) (l : List UInt8) (c : VC) (F : Nat → Prop) (w : World), WB w b l → CF F w c x → (∀ j, F j → j ≠ b ∧ ¬ rowOf w b j) → x.wf → l.length + (bytesV x).length + 12 ≤ 1099511627776 →
      Calls Tryz.prog 103 #[.pointer (some ⟨b, 0, none⟩), .agg #[.int .i64 c.kind, .int .i64 c.n, .string c.s, .slice c.la c.ln c.lc]] w (WPB w b (l ++ bytesV x))
  | 0, x, hx, _, _, _, _, _, _, _, _, _, _ => by have := x.parts_pos; omega
  | n + 1, x, hx, b, l, ⟨ck, cn, cs, la, ln, lc⟩, F, w, H, C, hF, hw, hl => by
    by_cases k1 : ck = 1
    · exact write_int x b l ck cn cs la ln lc F w H C hF hw hl _ rfl k1
    · by_cases k2 : ck = 2
      · exact write_text x b l ck cn cs la ln lc F w H C hF hw hl _ rfl k2
      · by_cases k3 : ck = 3
        · obtain ⟨h4, h5, h6⟩ := C.l.elems
          rcases h6 with h6 | ⟨g, off, hla, hFg, hg, h6⟩
          · exact write_list n (fun y hy => write_any n y hy) x b l ck cn cs la ln lc F w H C hF hw hl _ rfl k3 hx 0 0 ⟨h4, h5, fun i y hy => by rw [h6] at hy; simp at hy⟩ (.inr h6)
          · exact write_list n (fun y hy => write_any n y hy) x b l ck cn cs la ln lc F w H C hF hw hl _ rfl k3 hx g off ⟨h4, h5, fun i y hy => ⟨hFg, hg, h6 i y hy⟩⟩ (.inl hla)
        · exact write_other x b l ck cn cs la ln lc F w H C hF hw hl _ rfl (beq_eq_false_iff_ne.2 k1) (beq_eq_false_iff_ne.2 k2) (beq_eq_false_iff_ne.2 k3)
--]]write
end Go.Proofs.YtielnengimninaaGreatDoor
