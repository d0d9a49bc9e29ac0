/- value.Print, walked. -/
import Derived.Test.YtielnengimninaaGreatDoorV40
namespace Go.Va
open Go.Own Go.RowKit Go.Own.MapTy
def quoteB (s : ByteArray) : ByteArray := ⟨(quoteL s.data.toList).toArray⟩
def joinB (l : List ByteArray) : ByteArray := ⟨(Lib.join (l.map (·.data.toList)) (⟨#[32]⟩ : ByteArray).data.toList).toArray⟩
/-- a value as it is printed -/
def printV : Val → ByteArray
  | .mk k n s l => bif k == 1 then itoaB n else bif k == 2 then quoteB s else bif k == 3 then (⟨#[91]⟩ ++ joinB (printsL l)) ++ ⟨#[93]⟩ else ⟨#[110, 105, 108]⟩
where printsL : List Val → List ByteArray
  | [] => []
  | x :: r => printV x :: printsL r
theorem printV_eq (x : Val) : printV x = bif x.kind == 1 then itoaB x.num else bif x.kind == 2 then quoteB x.txt else bif x.kind == 3 then (⟨#[91]⟩ ++ joinB (printV.printsL x.list)) ++ ⟨#[93]⟩ else ⟨#[110, 105, 108]⟩ := by
  cases x
  rw [printV]
  rfl
theorem printsL_map (l : List Val) : printV.printsL l = l.map printV := by
  induction l with
  | nil => rw [printV.printsL]; rfl
  | cons x r ih => rw [printV.printsL, ih]; rfl
/-- no less than the signs of a value's print -/
def szV : Val → Nat
  | .mk k _ s l => bif k == 2 then 4 * s.size + 30 else bif k == 3 then szL l + 30 else 30
where szL : List Val → Nat
  | [] => 0
  | x :: r => 1 + szV x + szL r
theorem szV_eq (x : Val) : szV x = bif x.kind == 2 then 4 * x.txt.size + 30 else bif x.kind == 3 then szV.szL x.list + 30 else 30 := by
  cases x
  rw [szV]
  rfl
theorem szL_mem {x : Val} : ∀ {l : List Val}, x ∈ l → szV x ≤ szV.szL l
  | [], h => by cases h
  | y :: r, h => by
    rw [szV.szL]
    rcases List.mem_cons.1 h with rfl | h
    · omega
    · have := szL_mem h; omega
theorem szL_len (l : List Val) : l.length ≤ szV.szL l := by
  induction l with
  | nil => simp
  | cons x r ih => rw [szV.szL]; simp; omega
theorem quoteB_size (s : ByteArray) : (quoteB s).size ≤ 4 * s.size + 2 := by
  show (quoteL s.data.toList).toArray.size ≤ _
  have := esc_all s.data.toList
  simp [quoteL] at this ⊢
  omega
theorem join_len (l : List (List UInt8)) : (Lib.join l [32]).length ≤ (l.map (fun x => x.length + 1)).sum := by
  unfold Lib.join
  induction l with
  | nil => simp [List.intercalate]
  | cons x r ih =>
    cases r with
    | nil => simp [List.intercalate]
    | cons y r => 
      rw [show List.intercalate [32] (x :: y :: r) = x ++ ([32] ++ List.intercalate [32] (y :: r)) from by simp [List.intercalate, List.intersperse]]
      simp at ih ⊢
      omega
theorem itoaB_wf {n : Int} (h : -9223372036854775808 ≤ n ∧ n ≤ 9223372036854775807) : (itoaB n).size ≤ 21 := itoaB_size h.1 h.2
theorem wfL_mem {x : Val} : ∀ {l : List Val}, Val.wf.wfL l → x ∈ l → x.wf
  | [], _, h => by cases h
  | y :: r, hw, h => by
    rw [Val.wf.wfL] at hw
    rcases List.mem_cons.1 h with rfl | h
    · exact hw.1
    · exact wfL_mem hw.2 h
mutual
theorem printV_size : ∀ x : Val, x.wf → (printV x).size ≤ szV x
  | .mk k n s l, hw => by
    rw [printV, szV]
    rw [Val.wf] at hw
    cases h1 : (k == 1) with
    | true =>
      have := itoaB_wf hw.2.1
      have hk : k = 1 := by simpa using h1
      subst hk
      simp
      omega
    | false =>
      cases h2 : (k == 2) with
      | true => have := quoteB_size s; simp; omega
      | false =>
        cases h3 : (k == 3) with
        | true =>
          have h := printsL_size l hw.2.2.2
          have hj : (joinB (printV.printsL l)).size ≤ ((printV.printsL l).map (fun x => x.size + 1)).sum := by
            show (Lib.join _ _).toArray.size ≤ _
            have := join_len ((printV.printsL l).map (·.data.toList))
            simp [Function.comp_def] at this ⊢
            exact this
          simp only [cond_false, cond_true, ByteArray.size_append]
          have a1 : (⟨#[91]⟩ : ByteArray).size = 1 := rfl
          have a2 : (⟨#[93]⟩ : ByteArray).size = 1 := rfl
          omega
        | false => simp only [cond_false]; show 3 ≤ 30; omega
theorem printsL_size : ∀ l : List Val, Val.wf.wfL l → ((printV.printsL l).map (fun x => x.size + 1)).sum ≤ szV.szL l
  | [], _ => by rw [printV.printsL, szV.szL]; simp
  | x :: r, hw => by
    rw [Val.wf.wfL] at hw
    rw [printV.printsL, szV.szL]
    have h1 := printV_size x hw.1
    have h2 := printsL_size r hw.2
    simp
    omega
end
theorem joinB_size (l : List Val) (hw : Val.wf.wfL l) : (joinB (printV.printsL l)).size ≤ szV.szL l := by
  have h := printsL_size l hw
  have hj : (joinB (printV.printsL l)).size ≤ ((printV.printsL l).map (fun x => x.size + 1)).sum := by
    show (Lib.join _ _).toArray.size ≤ _
    have := join_len ((printV.printsL l).map (·.data.toList))
    simp [Function.comp_def] at this ⊢
    exact this
  omega
end Go.Va
namespace Go.Proofs.YtielnengimninaaGreatDoor
open Go.RowKit Go.Own Go.Own.MapTy Go.Va Go.Sort
open Go.Own.Cells (sz enc)
theorem extraJ : Builder.Extra Tryz.prog Tryz.lays156_ren := ⟨⟨by kernel_rfl, by kernel_rfl⟩, Tryz.underlying5, Tryz.isAgg5, Tryz.sizeOf5, Tryz.zeroValue5, by kernel_rfl, by kernel_rfl, by kernel_rfl, by decide⟩
--[[join
theorem join_any {v : Value} {l : List ByteArray} (w : World) (h : RowAt w 9 v l) (hn : l.length ≤ 4294967296) (hl : (joinB l).size ≤ 140737488355328) :
    Calls Tryz.prog 95 #[v, .string ⟨#[32]⟩] w fun e w' => e = .returned (.string (joinB l)) ∧ Below w.heap.size w w' := by
  have hl' : (Lib.join (l.map (·.data.toList)) (⟨#[32]⟩ : ByteArray).data.toList).length ≤ 140737488355328 := by
    have : (joinB l).size = (Lib.join (l.map (·.data.toList)) (⟨#[32]⟩ : ByteArray).data.toList).toArray.size := rfl
    simpa [this] using hl
  rcases h with ⟨rfl, rfl⟩ | ⟨g, off, cap, cur, rfl, hh, hlc, hm, hs', hc⟩
  · refine (Any.strings_Join_none Tryz.lays156 extraJ none 0 ⟨#[32]⟩ w).mono ?_
    rintro e w' ⟨rfl, rfl⟩
    exact ⟨rfl, Below.refl _ _⟩
  · refine (Any.strings_Join Tryz.lays156 extraJ g off cap l ⟨#[32]⟩ w (fun j x hx => ?_) (lt_of_heap hh) (by omega) hlc hl').mono ?_
    · have := (RowAt.cell (α := ByteArray) (w := w) (e := 9) (g := g) (off := off) (n := l.length) (cap := cap) (.inr ⟨g, off, cap, cur, rfl, hh, hlc, hm, hs', hc⟩) hx (j := 0) (by decide))
      simpa [Cells.sz, Cells.enc] using this
    · rintro e w' ⟨rfl, hB⟩
      exact ⟨rfl, hB⟩
--]]join
def VPPost (w : World) (x : Val) (e : Ending) (w' : World) : Prop := e = .returned (.string (printV x)) ∧ Below w.heap.size w w'
--[[one
set_option maxRecDepth 100000 in
set_option maxHeartbeats 8000000 in
theorem print_one {N : Nat} (x : Val)
    (ck cn : Int) (cs : ByteArray) (la : Option Addr) (ln lc : Nat) (F : Nat → Prop) (w : World) (C : CF F w ⟨ck, cn, cs, la, ln, lc⟩ x) (G : Gl Tryz.prog N w) (hw : x.wf) (hz : szV x ≤ 1073741824)
    (h3 : (x.kind == 3) = false) :
    Calls Tryz.prog 52 #[.agg #[.int .i64 ck, .int .i64 cn, .string cs, .slice la ln lc]] w (VPPost w x)
    := by
  have hck : ck = x.kind := C.kind
  have hcn : cn = x.num := C.n
  have hcs : cs = x.txt := C.s
  rw [szV_eq, ← hck, ← hcs] at hz
  have hp := printV_eq x
  rw [← hck, ← hcn, ← hcs] at hp
  rw [← hck] at h3
  have hwn := ((Val.wf_eq x).1 hw).2.1
  rw [← hcn] at hwn
  have HH := Lib.hid (And.intro G (And.intro hwn hcs))
  clear G hw C hcs hcn hck hwn
  cases h1 : (ck == 1) with
  | true =>
    obtain rfl : ck = 1 := by simpa using h1
    have HP := Lib.hid hp
    have FI := Lib.hid (fun W (K : Below w.heap.size w W) => formatInt_any cn HH.out.2.1.1 HH.out.2.1.2 W (HH.out.1.below K))
    have KA := Lib.hid (show Below w.heap.size w (w.alloc (.cells #[.int .i64 1, .int .i64 cn, .string cs, .slice la ln lc] 63)) from (Below.refl _ _).alloc (Nat.le_refl _) _)
    clear hp hz h1 h3
    go_enter Tryz.func52, Tryz.ntmps52
    go_wp2_with fail
    refine (FI.out _ KA.out).mono ?_
    rintro e w5 ⟨rfl, hB5⟩
    go_wp2_with fail
    exact bodyPost_ret (v := .string (itoaB cn)) (by simp only [results, Tryz.results52, itoaB]; go_simp) rfl ⟨by rw [HP.out]; rfl, KA.out.trans (hB5.mono (by simp))⟩
  | false =>
    cases h2 : (ck == 2) with
    | true =>
      obtain rfl : ck = 2 := by simpa using h2
      have HP := Lib.hid hp
      have hz' : 4 * cs.size + 30 ≤ 1073741824 := hz
      have QU := Lib.hid (fun W => quote_any cs W (by omega))
      have KA := Lib.hid (show Below w.heap.size w (w.alloc (.cells #[.int .i64 2, .int .i64 cn, .string cs, .slice la ln lc] 63)) from (Below.refl _ _).alloc (Nat.le_refl _) _)
      clear hp hz h1 h2 h3 hz'
      go_enter Tryz.func52, Tryz.ntmps52
      go_wp2_with fail
      refine (QU.out _).mono ?_
      rintro e w5 ⟨rfl, hB5⟩
      go_wp2_with fail
      exact bodyPost_ret (v := .string (quoteB cs)) (by simp only [results, Tryz.results52, quoteB]; go_simp) rfl ⟨by rw [HP.out]; rfl, KA.out.trans (hB5.mono (by simp))⟩
    | false =>
      rw [h1, h2, h3] at hp
      have HP := Lib.hid hp
      clear hp hz
      go_enter Tryz.func52, Tryz.ntmps52
      go_wp2_with fail
      go_ret
      exact ⟨by rw [HP.out]; rfl, (Below.refl _ _).alloc (Nat.le_refl _) _⟩
--]]one
def PIH (N n : Nat) : Prop := ∀ (x : Val), x.parts ≤ n → ∀ (ck cn : Int) (cs : ByteArray) (la : Option Addr) (ln lc : Nat) (F : Nat → Prop) (w : World), CF F w ⟨ck, cn, cs, la, ln, lc⟩ x → Gl Tryz.prog N w → x.wf → szV x ≤ 1073741824 →
    Calls Tryz.prog 52 #[.agg #[.int .i64 ck, .int .i64 cn, .string cs, .slice la ln lc]] w (VPPost w x)
theorem prints_at {l : List Val} {k : Nat} {y : Val} (h : l[k]? = some y) : printV.printsL (l.take (k + 1)) = printV.printsL (l.take k) ++ [printV y] := by
  rw [printsL_map, printsL_map, List.take_add_one, h]
  simp
--[[list
set_option maxRecDepth 100000 in
set_option maxHeartbeats 8000000 in
theorem print_list {N n : Nat} (IH : PIH N n) (x : Val) (hx : x.parts ≤ n + 1)
    (ck cn : Int) (cs : ByteArray) (la : Option Addr) (ln lc : Nat) (F : Nat → Prop) (w : World) (C : CF F w ⟨ck, cn, cs, la, ln, lc⟩ x) (G : Gl Tryz.prog N w) (hw : x.wf) (hz : szV x ≤ 1073741824)
    (h3 : (x.kind == 3) = true) :
    Calls Tryz.prog 52 #[.agg #[.int .i64 ck, .int .i64 cn, .string cs, .slice la ln lc]] w (VPPost w x)
    := by
  have hck : ck = x.kind := C.kind
  obtain rfl : ck = 3 := by rw [hck]; simpa using h3
  have hk : x.kind = 3 := hck.symm
  rw [szV_eq, hk] at hz
  have hp := printV_eq x
  rw [hk] at hp
  have hwl := ((Val.wf_eq x).1 hw).2.2.2
  have hz' : szV.szL x.list + 30 ≤ 1073741824 := hz
  have hll := szL_len x.list
  obtain ⟨hln, hlm, hE⟩ := C.l.elems
  have hln' : ln = x.list.length := hln
  have hlb : ln ≤ 1073741824 := by omega
  clear hln'
  have JS := joinB_size x.list hwl
  have HE := Lib.hid (And.intro hE (And.intro hln (And.intro IH (And.intro G (And.intro hwl (And.intro hz' (And.intro hx (And.intro JS hp))))))))
  clear hE hln IH G hwl hz' hz hll hp hck hk hw C JS h3 hx hlm
  have KA := Lib.hid (show Below w.heap.size w (w.alloc (.cells #[.int .i64 3, .int .i64 cn, .string cs, .slice la ln lc] 63)) from (Below.refl _ _).alloc (Nat.le_refl _) _)
  go_enter Tryz.func52, Tryz.ntmps52
  go_wp2_with fail
  go_loopg [3, 23] (ln) (fun gk v3 v23 wr => ∃ i : Nat, v23 = .int .i64 i ∧ i ≤ ln ∧ gk = ln - i ∧ Hid (RowAt wr 9 v3 (printV.printsL (x.list.take i)) ∧ Below w.heap.size w wr ∧ ∀ g, v3.ownBlock = some g → w.heap.size ≤ g))
  case atStart => exact ⟨0, rfl, Nat.zero_le _, rfl, Lib.hid ⟨.inl ⟨rfl, by rw [List.take_zero, printV.printsL]⟩, KA.out, fun g hg => by cases hg⟩⟩
  case round =>
    obtain ⟨i, rfl, hi, hgk, HR⟩ := hrel
    obtain ⟨a3, c3, rfl⟩ := HR.out.1.slice
    have hpl : (printV.printsL (x.list.take i)).length = i := by rw [printsL_map]; have := HE.out.2.1; simp; omega
    rw [hpl] at HR ⊢
    have HG := Lib.hid (And.intro hgk hpl)
    have szr := HR.out.2.1.size
    clear hgk hpl
    by_cases hin : i < ln
    · obtain ⟨y, hy⟩ := elem_at (l := x.list) (k := i) (by have := HE.out.2.1; omega)
      obtain ⟨g, off, ha, hFg, hg, hel⟩ := HE.out.1.resolve_left (fun e => by rw [e] at hy; simp at hy)
      obtain ⟨c', hC, q0, q1, q2, q3⟩ := hel i y hy
      subst ha
      have hgl : g < wr.heap.size := by omega
      rw [← HR.out.2.1.cell (p := ⟨g, _, none⟩) hg] at q0 q1 q2 q3
      have hC' : CF F wr c' y := hC.keep (S := fun _ => False) (Keeps.of_below HR.out.2.1) (fun _ _ f => f)
      have hin' : (i : Int) < ln := by omega
      have hyp : y.parts ≤ n := by
        have := Val.parts_lt (v := x) (List.mem_of_getElem? hy)
        have := HE.out.2.2.2.2.2.2.1
        omega
      have hmem := List.mem_of_getElem? hy
      have wi : wrap64 ((i : Int) + 1) = (i : Int) + 1 := by unfold wrap64; omega
      have PV := Lib.hid (HE.out.2.2.1 y hyp c'.kind c'.n c'.s c'.la c'.ln c'.lc F (wr.alloc (.cells #[.int .i64 c'.kind, .int .i64 c'.n, .string c'.s, .slice c'.la c'.ln c'.lc] 63)) (hC'.keep (S := fun _ => False) ((Keeps.refl _ _).alloc _) (fun _ _ f => f)) (HE.out.2.2.2.1.below (HR.out.2.1.trans ((Below.refl _ _).alloc (by omega) _))) (wfL_mem HE.out.2.2.2.2.1 hmem) (by have := szL_mem hmem; have := HE.out.2.2.2.2.2.1; omega))
      have HY := Lib.hid (prints_at hy)
      clear hel hC hC' hyp hmem hy
      --[[lr
      go_wp2_with fail
      refine PV.out.mono ?_
      rintro e w5 ⟨rfl, hB5⟩
      have B5 : Below wr.heap.size wr w5 := ((Below.refl _ _).alloc (Nat.le_refl _) (.cells #[.int .i64 c'.kind, .int .i64 c'.n, .string c'.s, .slice c'.la c'.ln c'.lc] 63)).trans (hB5.mono (by simp))
      have HB := Lib.hid B5
      clear hB5 B5
      go_wp2_with (at_builtin; go_must (refine wp_appW (α := ByteArray) elemS rfl (.tmp 27) (.tmp 30) rfl ((HR.out.1.below HB.out).alloc _) (printV y) rfl rfl (heap_alloc_new _ _) (by rw [HG.out.2]; omega) (by rw [HG.out.2]; unfold maxLen; omega) ?_); rw [HG.out.2]; intro a1 q1 w1 hr1 hk1 hf1)
      go_roundg (ln - (i + 1))
      case measure => have := HG.out.1; omega
      case rel =>
        have s5 := HB.out.size
        refine ⟨i + 1, by simp, by omega, rfl, Lib.hid ⟨by rw [HY.out]; exact hr1, (HR.out.2.1.trans (HB.out.mono szr)).trans (((Below.refl _ _).alloc (by omega) _).trans (hk1.below (by simp; omega) (fun j hj e => by have := HR.out.2.2 j e; omega))), fun g hg => ?_⟩⟩
        rcases hf1 g hg with e | e
        · exact HR.out.2.2 g e
        · have e' : w5.heap.size + 1 ≤ g := by simpa using e
          omega
      --]]lr
    · obtain rfl : i = ln := by omega
      have ht : x.list.take i = x.list := List.take_of_length_le (by have := HE.out.2.1; omega)
      rw [ht] at HR HG
      have JA := Lib.hid (join_any wr (l := printV.printsL x.list) HR.out.1 (by have := HG.out.2; omega) (by have := HE.out.2.2.2.2.2.2.2.1; have := HE.out.2.2.2.2.2.1; omega))
      have hjs : (joinB (printV.printsL x.list)).size ≤ 1073741824 := by have := HE.out.2.2.2.2.2.2.2.1; have := HE.out.2.2.2.2.2.1; omega
      clear ht
      --[[le
      go_wp2_with fail
      refine JA.out.mono ?_
      rintro e w5 ⟨rfl, hB5⟩
      generalize hj : joinB (printV.printsL x.list) = jb at *
      have HJ := Lib.hid hj
      clear hj
      go_wp2_with fail
      exact bodyPost_ret (v := .string ((⟨#[91]⟩ ++ jb) ++ ⟨#[93]⟩)) (by simp only [results, Tryz.results52]; go_simp) rfl ⟨by rw [HE.out.2.2.2.2.2.2.2.2, ← HJ.out]; rfl, HR.out.2.1.trans (hB5.mono szr)⟩
      --]]le
--]]list
theorem print_all (N : Nat) : ∀ n, PIH N n
  | 0 => fun x h => by have := x.parts_pos; omega
  | n + 1 => fun x h ck cn cs la ln lc F w C G hw hz => by
    cases h3 : (x.kind == 3) with
    | false => exact print_one x ck cn cs la ln lc F w C G hw hz h3
    | true => exact print_list (print_all N n) x h ck cn cs la ln lc F w C G hw hz h3
theorem print_any {N : Nat} (x : Val)
    (ck cn : Int) (cs : ByteArray) (la : Option Addr) (ln lc : Nat) (F : Nat → Prop) (w : World) (C : CF F w ⟨ck, cn, cs, la, ln, lc⟩ x) (G : Gl Tryz.prog N w) (hw : x.wf) (hz : szV x ≤ 1073741824)
    : 
    Calls Tryz.prog 52 #[.agg #[.int .i64 ck, .int .i64 cn, .string cs, .slice la ln lc]] w (VPPost w x)
    := print_all N x.parts x (Nat.le_refl _) ck cn cs la ln lc F w C G hw hz
end Go.Proofs.YtielnengimninaaGreatDoor
