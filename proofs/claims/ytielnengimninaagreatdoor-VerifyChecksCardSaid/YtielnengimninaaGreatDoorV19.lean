/- verify.check: step, walk, walked. -/
import Derived.Test.YtielnengimninaaGreatDoorV18
namespace Go.Va
open Go.Own Go.RowKit
/-- one after the other is come to -/
def comesL (n : Nat) (h : Int) : List Nat → KSt → Int × KSt
  | [], st => (0, st)
  | x :: r, st => bif (comeL n x h st).1 != 0 then comeL n x h st else comesL n h r (comeL n x h st).2
/-- what an instruction does to the stack -/
def stepL (n : Nat) (c : In) (k : Nat) (st : KSt) : Int × KSt :=
  bif decide (st.heights.getD k 0 - takesL c < 0) then (131, st) else
  bif decide (32 < st.heights.getD k 0 - takesL c + (ofL c.op).1.o) then (131, st) else
  comesL n (st.heights.getD k 0 - takesL c + (ofL c.op).1.o) (followN c k) { st with most := max st.most (st.heights.getD k 0 - takesL c + (ofL c.op).1.o) }
theorem comeL_bounds (n k : Nat) (h : Int) (st : KSt) : (comeL n k h st).2.heights.length = st.heights.length ∧ (comeL n k h st).2.todo.length ≤ st.todo.length + 1 := by
  unfold comeL
  cases decide (n ≤ k)
  · cases decide (st.heights.getD k 0 < 0)
    · cases (st.heights.getD k 0 != h) <;> simp
    · simp
  · simp
/-- how many have not been come to -/
def negs : List Int → Nat
  | [] => 0
  | x :: r => (bif decide (x < 0) then 1 else 0) + negs r
theorem negs_set : ∀ (l : List Int) (k : Nat) (x h : Int), l[k]? = some x → x < 0 → 0 ≤ h → negs (l.set k h) + 1 = negs l
  | [], _, _, _, hx, _, _ => by simp at hx
  | y :: r, 0, x, h, hx, h1, h2 => by
    simp at hx
    subst hx
    simp only [List.set_cons_zero, negs, decide_eq_true h1, decide_eq_false (show ¬ h < 0 by omega), cond_true, cond_false]
    omega
  | y :: r, k + 1, x, h, hx, h1, h2 => by
    have := negs_set r k x h (by simpa using hx) h1 h2
    simp only [List.set_cons_succ, negs]
    omega
theorem negs_replicate : ∀ n : Nat, negs (List.replicate n (-1)) = n
  | 0 => rfl
  | n + 1 => by
    rw [List.replicate_succ, negs, negs_replicate n]
    simp
    omega
/-- what holds between two steps -/
structure Inv (n f : Nat) (st : KSt) : Prop where
  len : st.heights.length = n
  all : ∀ x ∈ st.heights, -1 ≤ x ∧ x ≤ 32
  todo : ∀ k ∈ st.todo, ∃ x, st.heights[k]? = some x ∧ 0 ≤ x
  less : negs st.heights + st.todo.length ≤ f
  m0 : 0 ≤ st.most
  m1 : st.most ≤ 32
theorem comeL_inv {n f k : Nat} {h : Int} {st : KSt} (I : Inv n f st) (h0 : 0 ≤ h) (h1 : h ≤ 32) : Inv n f (comeL n k h st).2 := by
  unfold comeL
  by_cases hk : n ≤ k
  · rw [decide_eq_true hk]; exact I
  · rw [decide_eq_false hk]
    simp only [cond_false]
    obtain ⟨x, hx⟩ : ∃ x, st.heights[k]? = some x := ⟨st.heights[k]'(by have := I.len; omega), by simp⟩
    rw [List.getD_eq_getElem?_getD, hx, Option.getD_some]
    by_cases hn : x < 0
    · rw [decide_eq_true hn]
      simp only [cond_true]
      refine ⟨by simpa using I.len, fun y hy => ?_, fun j hj => ?_, ?_, I.m0, I.m1⟩
      · rcases List.mem_or_eq_of_mem_set hy with h | rfl
        · exact I.all y h
        · omega
      · simp only [List.mem_append, List.mem_singleton] at hj
        rcases hj with hj | rfl
        · obtain ⟨y, hy, hy0⟩ := I.todo j hj
          refine ⟨y, ?_, hy0⟩
          rw [List.getElem?_set_ne]
          · exact hy
          · intro e
            subst e
            rw [hx] at hy
            cases hy
            omega
        · exact ⟨h, by rw [List.getElem?_set_self (by have := I.len; omega)], h0⟩
      · have := negs_set st.heights k x h hx hn h0
        have := I.less
        simp only [List.length_append, List.length_singleton]
        omega
    · rw [decide_eq_false hn]
      simp only [cond_false]
      cases (x != h)
      · exact I
      · exact I
theorem comesL_inv {n f : Nat} {h : Int} (h0 : 0 ≤ h) (h1 : h ≤ 32) : ∀ (l : List Nat) {st : KSt}, Inv n f st → Inv n f (comesL n h l st).2
  | [], _, I => I
  | x :: r, st, I => by
    have h2 := comeL_inv (k := x) I h0 h1
    rw [comesL]
    cases ((comeL n x h st).1 != 0)
    · exact comesL_inv h0 h1 r h2
    · exact h2
theorem stepL_inv {n f k : Nat} {c : In} {st : KSt} (I : Inv n f st) (ho : 0 ≤ (ofL c.op).1.o) : Inv n f (stepL n c k st).2 := by
  unfold stepL
  generalize hh : st.heights.getD k 0 - takesL c = d
  by_cases h1 : d < 0
  · rw [decide_eq_true h1]; exact I
  · rw [decide_eq_false h1]
    simp only [cond_false]
    by_cases h2 : 32 < d + (ofL c.op).1.o
    · rw [decide_eq_true h2]; exact I
    · rw [decide_eq_false h2]
      simp only [cond_false]
      exact comesL_inv (by omega) (by omega) _ ⟨I.len, I.all, I.todo, I.less, by have := I.m0; show 0 ≤ max _ _; omega, by have := I.m1; show max _ _ ≤ (32 : Int); omega⟩
/-- from what is to do on -/
def bfsL (code : List In) : Nat → KSt → (Int × Int) × KSt
  | 0, st => ((-1, 0), st)
  | f + 1, st => match st.todo with
    | [] => ((-1, 0), st)
    | k :: r => match code[k]? with
      | none => ((-1, 0), st)
      | some c => bif (stepL code.length c k { st with todo := r }).1 != 0 then (((k : Int), (stepL code.length c k { st with todo := r }).1), (stepL code.length c k { st with todo := r }).2) else bfsL code f (stepL code.length c k { st with todo := r }).2
/-- the stack's heights, from the first instruction on -/
def walkL (code : List In) : (Int × Int) × KSt :=
  let q := comeL code.length 0 0 ⟨List.replicate code.length (-1), [], 0⟩
  bif q.1 != 0 then ((0, q.1), q.2) else bfsL code (code.length + 1) q.2
/-- instructions that may be -/
structure CodeOk (code : List In) : Prop where
  len : code.length ≤ 512
  a0 : ∀ c ∈ code, 0 ≤ c.a
  tk : ∀ c ∈ code, 0 ≤ takesL c ∧ takesL c ≤ 512
  o : ∀ c ∈ code, 0 ≤ (ofL c.op).1.o ∧ (ofL c.op).1.o ≤ 2
theorem cIn (c : In) : (⟨c.op, c.a⟩ : In) = c := rfl
end Go.Va
namespace Go.Proofs.YtielnengimninaaGreatDoor
open Go.RowKit Go.Own Go.Own.MapTy Go.Va Go.Sort
open Go.Own.Cells (sz enc)
/-- a row that lies apart from what a check turns -/
theorem KK.row {α : Type} [Cells α] {b : Nat} {v v' : KV} {W W' : World} {e : TypeId} {x : Value} {l : List α} (K : KK b v W v' W') (h : RowAt W e x l) (hx : ∀ g, x.ownBlock = some g → ¬ KO v b g) : RowAt W' e x l := h.keep K.1 hx
theorem row_nat {w : World} {e : TypeId} {xs : List Nat} {g off n cap : Nat} (h : RowAt w e (.slice (some ⟨g, off, none⟩) n cap) xs) {i : Nat} {x : Nat} (hx : xs[i]? = some x) : w.cell? ⟨g, off + i, none⟩ = some (.int .i64 (x : Int)) := by
  have h0 := h.cell hx (j := 0) (by decide)
  rwa [show off + (i * Cells.sz Nat + 0) = off + i from by simp [Cells.sz]] at h0
/-- 's[k:]' of a slice that reads as a list; it lies where it lay -/
theorem cut_fromO {α : Type} [Cells α] {P : Program} {t e : TypeId} {bytes : Nat} (E : ElemOf α P t e bytes) {w : World} {ad : Option Addr} {n cap : Nat} {xs : List α} (h : RowAt w e (.slice ad n cap) xs) {k : Nat} (hk : k ≤ xs.length) :
    ∃ ad', (∀ W : World, (Instr.slice t (.slice ad n cap) (some (.int .i64 k)) none none).run P W = .ok (.slice ad' (n - k) (cap - k)) W) ∧ RowAt w e (.slice ad' (n - k) (cap - k)) (xs.drop k) ∧ ∀ g, (Value.slice ad' (n - k) (cap - k)).ownBlock = some g → (Value.slice ad n cap).ownBlock = some g := by
  obtain ⟨i, z, hi, h1, h2, h3, h4⟩ := E.hi
  cases ad with
  | none =>
    rcases h with ⟨h, rfl⟩ | ⟨g, off, c, cur, h, _⟩
    · cases h
      simp at hk
      subst hk
      exact ⟨none, fun W => by simp [Instr.slice, run_underlying E.ht, Instr.sliceBounds, Instr.sliceBound, asIntOf, sizeOf, typeInfo, hi, Result.andThen], .inl ⟨rfl, rfl⟩, fun g h => (by cases h)⟩
    · cases h
  | some ad =>
    rcases h with ⟨h, _⟩ | ⟨g, off, c, cur, h, hh, hl⟩
    · cases h
    · cases h
      obtain ⟨off', h5, h6⟩ := run_slice_from E.ht hi h2 (RowAt.slice_mk hh hl) hk
      exact ⟨_, h5, h6, fun g h => h⟩
--[[step
set_option maxRecDepth 100000 in
set_option maxHeartbeats 8000000 in
theorem step_any (b : Nat) (F : Nat → Prop) (hF : ∀ j, F j → j < b) (ca : Option Addr) (n cc : Nat) (code : List In) (v : KV) (st : KSt) (k : Nat) (c : In) (W : World) (R : KX W b (.slice ca n cc) v st) (HC : RdF F W (.slice ca n cc) code) (hc : code[k]? = some c)
    (hn : st.heights.length = n) (ht : st.todo.length ≤ 65530) (hk : k < 65536) (ha : 0 ≤ c.a) (h1 : 0 ≤ takesL c ∧ takesL c ≤ 512) (h2 : 0 ≤ (ofL c.op).1.o ∧ (ofL c.op).1.o ≤ 2) (x : Int) (hx : st.heights[k]? = some x) (hx1 : -1 ≤ x ∧ x ≤ 32) (r : Int × KSt) (hr : stepL n c k st = r) :
    Calls Tryz.prog 79 #[.pointer (some ⟨b, 0, none⟩), .int .i64 k] W (KPost W b (.slice ca n cc) v r) := by
  unfold stepL at hr
  obtain ⟨hnc, hmx, g, off, had, hel⟩ := HC.elems
  obtain ⟨hFg, hg, hcs⟩ := hel k c hc
  have had := had.resolve_right (fun e => by rw [e] at hc; simp at hc)
  subst had
  have m0 := hcs 0 _ rfl
  have m1 := hcs 1 _ rfl
  rw [show off + (k * sz In + 0) = off + k * 2 from rfl] at m0
  rw [show off + (k * sz In + 1) = off + k * 2 + 1 from rfl] at m1
  have hkl := (List.getElem?_eq_some_iff.1 hc).1
  have hkn : (k : Int) < n := by omega
  have FO := Lib.hid (fun W' (K : Keeps (fun j => b ≤ j) W W') => follow_any (HC.keep K (fun g hg => by have := hF g hg; omega)) k c hc ha hk)
  have hfl : (followN c k).length ≤ 2 := by
    unfold followN
    cases (ofL c.op).1.ends
    · cases (c.op == 11)
      · cases (ofL c.op).1.flow <;> simp
      · simp
    · simp
  generalize followN c k = fl at *
  have HW := Lib.hid (And.intro HC hF)
  clear hel hcs hc HC ha
  obtain ⟨vh, vt⟩ := v
  obtain ⟨ta, tc, rfl⟩ : ∃ a cap, vt = .slice a st.todo.length cap := R.todo.slice
  obtain ⟨ha, hc, rfl⟩ : ∃ a cap, vh = .slice a st.heights.length cap := R.heights.slice
  have b0 := lt_of_heap R.h
  have qq : ∀ o, W.cell? ⟨b, o, none⟩ = (#[.slice (some ⟨g, off, none⟩) n cc, .slice ha st.heights.length hc, .slice ta st.todo.length tc, .int .i64 st.most] : Array Value)[o]? := fun o => by rw [cell_of_heap R.h]
  have q0 := qq 0
  have q1 := qq 1
  have q3 := qq 3
  simp only [List.getElem?_toArray, List.getElem?_cons_zero, List.getElem?_cons_succ] at q0 q1 q3
  clear qq
  have f0 : ∀ o, W.frozen? ⟨b, o, none⟩ = false := fun o => frozen_of_heap R.h o
  obtain ⟨hg', hoff, rfl, hgl⟩ := R.heights.addr hx
  have y0 := row_int R.heights hx
  have hkh : (k : Int) < st.heights.length := by omega
  rw [List.getD_eq_getElem?_getD, hx, Option.getD_some] at hr
  obtain ⟨inf, ok, hof⟩ : ∃ inf ok, ofL c.op = (inf, ok) := ⟨_, _, rfl⟩
  have OF := Lib.hid (of_rule c.op inf ok hof)
  have TK := Lib.hid (takes_any c.op c.a)
  rw [cIn] at TK
  rw [hof] at hr h2
  obtain ⟨tk, htk⟩ : ∃ tk, takesL c = tk := ⟨_, rfl⟩
  rw [htk] at hr h1 TK
  dsimp only at hr h2
  have hw1 : IntKind.i64.wrap (x - tk) = x - tk := IntWalk.i64_in _ (by omega)
  have hw2 : IntKind.i64.wrap (x - tk + inf.o) = x - tk + inf.o := IntWalk.i64_in _ (by omega)
  obtain ⟨op, a⟩ := c
  dsimp only at m0 m1 OF TK
  have HR := Lib.hid R
  have HB := Lib.hid (And.intro hn (And.intro ht hnc))
  clear R hn ht hnc hof htk hx
  go_enter Tryz.func79, Tryz.ntmps79
  go_wp2_with fail
  refine (OF.out _).mono ?_
  rintro e w5 ⟨rfl, hB5⟩
  obtain ⟨w6, hw6⟩ : ∃ w6, w6 = w5.alloc (.cells #[.string inf.name, .int .i64 inf.operand, .int .i64 inf.i, .int .i64 inf.o, .bool inf.blocks, .bool inf.ends, .bool inf.flow] 47) := ⟨_, rfl⟩
  have sz5 : W.heap.size + 1 ≤ w5.heap.size := by have := hB5.size; simpa using this
  have B5 : Below W.heap.size W w5 := ((Below.refl _ _).alloc (Nat.le_refl _) (.cells #[.int .i64 op, .int .i64 a] 45)).trans (hB5.mono (by simp))
  have B6 : Below W.heap.size W w6 := by rw [hw6]; exact B5.alloc (by omega) _
  have sz6 : w6.heap.size = w5.heap.size + 1 := by rw [hw6]; simp
  have hb5 : ¬ b = w5.heap.size := by omega
  have u3 : w6.cell? ⟨w5.heap.size, 3, none⟩ = some (.int .i64 inf.o) := by rw [hw6, cell_of_heap (heap_alloc_new _ _)]; rfl
  have i0 : w6.cell? ⟨W.heap.size, 0, none⟩ = some (.int .i64 op) := by rw [hw6, World.cell?_of_block (w := w5) (Below.heap_alloc _ _ _ (by show W.heap.size < w5.heap.size; omega)), hB5.cell (p := ⟨W.heap.size, 0, none⟩) (by simp), cell_of_heap (heap_alloc_new _ _)]; rfl
  have i1 : w6.cell? ⟨W.heap.size, 1, none⟩ = some (.int .i64 a) := by rw [hw6, World.cell?_of_block (w := w5) (Below.heap_alloc _ _ _ (by show W.heap.size < w5.heap.size; omega)), hB5.cell (p := ⟨W.heap.size, 1, none⟩) (by simp), cell_of_heap (heap_alloc_new _ _)]; rfl
  have R6 := HR.out.ext B6
  have q0 := (B6.cell (p := ⟨b, 0, none⟩) b0).trans q0
  have q1 := (B6.cell (p := ⟨b, 1, none⟩) b0).trans q1
  have q3 := (B6.cell (p := ⟨b, 3, none⟩) b0).trans q3
  have y0 := (B6.cell (p := ⟨hg', hoff + k, none⟩) hgl).trans y0
  have b0 : b < w6.heap.size := by omega
  have hgl : hg' < w6.heap.size := by omega
  have lW : W.heap.size < w6.heap.size := by omega
  have l5 : w5.heap.size < w6.heap.size := by omega
  have f0 : ∀ o, w6.frozen? ⟨b, o, none⟩ = false := fun o => frozen_of_heap R6.h o
  have H6 := Lib.hid (And.intro B6 R6)
  go_wp2_with fail
  rw [← hw6]
  clear hw6 B5 B6 R6 hB5 sz5 sz6 OF m0 m1 hg
  --[[step1
  refine wp_region_ext (by kernel_rfl) (by kernel_rfl) ?_
  repeat (go_big_quiet_step ((go_at_call 105; exact ext_call (TK.out _))))
  refine wpQuiet_nil ?_
  intro w7 hB7
  have q0 := (hB7.cell (p := ⟨b, 0, none⟩) b0).trans q0
  have q3 := (hB7.cell (p := ⟨b, 3, none⟩) b0).trans q3
  have u3 := (hB7.cell (p := ⟨w5.heap.size, 3, none⟩) l5).trans u3
  have H7 := Lib.hid (And.intro (H6.out.1.trans (hB7.mono H6.out.1.size)) (H6.out.2.ext hB7))
  have f0 : ∀ o, w7.frozen? ⟨b, o, none⟩ = false := fun o => frozen_of_heap H7.out.2.h o
  have b0 : b < w7.heap.size := lt_of_heap H7.out.2.h
  have l5 : w5.heap.size < w7.heap.size := Nat.lt_of_lt_of_le l5 hB7.size
  clear hB7 i0 i1 y0 q1 hgl lW TK
  cases h5 : decide (x - tk < 0) with
  | true =>
    have e5 : x - tk < 0 := of_decide_eq_true h5
    rw [h5] at hr
    simp only [cond_true] at hr
    subst hr
    go_wp2_with fail
    go_ret
    exact ⟨_, rfl, Lib.hid ⟨H7.out.2, KK.ext H7.out.1⟩⟩
  | false =>
    have e5 : ¬ x - tk < 0 := of_decide_eq_false h5
    rw [h5] at hr
    simp only [cond_false] at hr
    cases h6 : decide (32 < x - tk + inf.o) with
    | true =>
      have e6 : 32 < x - tk + inf.o := of_decide_eq_true h6
      rw [h6] at hr
      simp only [cond_true] at hr
      subst hr
      go_wp2_with fail
      go_ret
      exact ⟨_, rfl, Lib.hid ⟨H7.out.2, KK.ext H7.out.1⟩⟩
    | false =>
      have e6 : ¬ 32 < x - tk + inf.o := of_decide_eq_false h6
      rw [h6] at hr
      simp only [cond_false] at hr
      --[[step2
      obtain ⟨h, hh⟩ : ∃ h, h = x - tk + inf.o := ⟨_, rfl⟩
      have hw3 : IntKind.i64.wrap (x - tk + inf.o) = h := by rw [hh]; exact hw2
      rw [← hh] at hr e6
      have PM := Lib.hid (H7.out.2.setM (max st.most h))
      have K8 := Lib.hid (((KK.ext H7.out.1).trans PM.out.2).1.mono (T := fun j => b ≤ j) (fun j _ e => HR.out.lo j e))
      have HH := Lib.hid hr
      clear hr hh h5 h6 hw2
      go_wp2_with fail
      refine (FO.out _ K8.out).mono ?_
      rintro e w9 ⟨fv, rfl, hfr, hff, hB9⟩
      obtain ⟨fa, fc, rfl⟩ := hfr.slice
      have R9 := PM.out.1.ext hB9
      have HF := Lib.hid (And.intro hfr (And.intro hff (And.intro hB9 R9)))
      clear hfr hff hB9 R9
      go_wp2_with fail
      go_loopg [59] (fl.length) (fun gk v59 wr => ∃ (i : Nat) (st' : KSt) (v' : KV), v59 = .int .i64 i ∧ i ≤ fl.length ∧ gk = fl.length - i ∧ KX wr b (.slice (some ⟨g, off, none⟩) n cc) v' st' ∧ comesL n h (fl.drop i) st' = r ∧ KK b ⟨.slice (some ⟨hg', hoff, none⟩) st.heights.length hc, .slice ta st.todo.length tc⟩ w9 v' wr ∧ st'.heights.length = n ∧ st'.todo.length ≤ st.todo.length + i)
      case atStart => exact ⟨0, _, _, rfl, Nat.zero_le _, rfl, HF.out.2.2.2, HH.out, KK.refl _ _ _, HB.out.1, Nat.le_refl _⟩
      case round =>
        obtain ⟨i, st', v', rfl, hi, hgk, hR, hco, hK, hl1, hl2⟩ := hrel
        by_cases hin : i < fl.length
        · obtain ⟨y, hy⟩ := elem_at hin
          have hdr : fl.drop i = y :: fl.drop (i + 1) := by
            rw [List.drop_eq_getElem_cons (List.getElem?_eq_some_iff.1 hy).1, (List.getElem?_eq_some_iff.1 hy).2]
          rw [hdr, comesL] at hco
          have RF := KK.row hK HF.out.1 (fun j hj e => by have := HF.out.2.1 j hj; have := PM.out.1.lt e; omega)
          obtain ⟨fg, foff, rfl, hfg⟩ := RF.addr hy
          have z0 := row_nat RF hy
          have hin' : (i : Int) < fl.length := by omega
          have CO := Lib.hid (come_any b _ n cc v' st' y h wr hR hl1 (by have := HB.out.2.1; omega) _ rfl)
          have hcb := comeL_bounds n y h st'
          generalize comeL n y h st' = cq at *
          have HX := Lib.hid (And.intro hco (And.intro hgk (And.intro hK (And.intro hcb (And.intro hl1 hl2)))))
          clear hco hgk hK hcb hdr hy RF hR hl1 hl2
          go_wp2_with fail
          refine CO.out.mono ?_
          rintro e w5' ⟨v5, rfl, H5⟩
          cases hz : (cq.1 != 0) with
          | true =>
            have hr := HX.out.1
            rw [hz] at hr
            simp only [cond_true] at hr
            subst hr
            go_wp2_with fail
            go_ret
            exact ⟨v5, rfl, Lib.hid ⟨H5.out.1, (KK.ext H7.out.1).trans (PM.out.2.trans ((KK.ext HF.out.2.2.1).trans (HX.out.2.2.1.trans H5.out.2)))⟩⟩
          | false =>
            have hr := HX.out.1
            rw [hz] at hr
            simp only [cond_false] at hr
            have HC2 := Lib.hid hr
            clear hr
            go_wp2_with fail
            go_roundg (fl.length - (i + 1))
            case measure => have := HX.out.2.1; omega
            case rel => exact ⟨i + 1, cq.2, v5, by simp, by omega, rfl, H5.out.1, HC2.out, HX.out.2.2.1.trans H5.out.2, by rw [HX.out.2.2.2.1.1]; exact HX.out.2.2.2.2.1, by have := HX.out.2.2.2.1.2; have := HX.out.2.2.2.2.2; omega⟩
        · obtain rfl : i = fl.length := by omega
          rw [List.drop_eq_nil_of_le (Nat.le_refl _), comesL] at hco
          have HX := Lib.hid (And.intro hR hK)
          subst hco
          clear hR hK hgk
          go_wp2_with fail
          go_ret
          exact ⟨v', rfl, Lib.hid ⟨HX.out.1, (KK.ext H7.out.1).trans (PM.out.2.trans ((KK.ext HF.out.2.2.1).trans HX.out.2))⟩⟩
      --]]step2
  --]]step1
--]]step
def KWPost (W : World) (b : Nat) (cv : Value) (q : (Int × Int) × KSt) (e : Ending) (w' : World) : Prop := ∃ v', e = .returned (.agg #[.int .i64 q.1.1, .int .i64 q.1.2]) ∧ Hid (KX w' b cv v' q.2 ∧ KK b ⟨.slice none 0 0, .slice none 0 0⟩ W v' w')
--[[walk
set_option maxRecDepth 100000 in
set_option maxHeartbeats 8000000 in
theorem kwalk_any (b : Nat) (F : Nat → Prop) (hF : ∀ j, F j → j < b) (ca : Option Addr) (n cc : Nat) (code : List In) (W : World) (R : KX W b (.slice ca n cc) ⟨.slice none 0 0, .slice none 0 0⟩ ⟨[], [], 0⟩) (HC : RdF F W (.slice ca n cc) code) (OK : CodeOk code) (q : (Int × Int) × KSt) (hq : walkL code = q) :
    Calls Tryz.prog 37 #[.pointer (some ⟨b, 0, none⟩)] W (KWPost W b (.slice ca n cc) q) := by
  have hnc := HC.elems.1
  have b0 := lt_of_heap R.h
  have q0 : W.cell? ⟨b, 0, none⟩ = some (.slice ca n cc) := by rw [cell_of_heap R.h]; rfl
  have HS := Lib.hid (And.intro HC (And.intro OK (And.intro hq hF)))
  have hn := OK.len
  rw [← hnc] at hn
  have HR := Lib.hid (And.intro R hnc)
  clear R HC OK hq hnc
  go_enter Tryz.func37, Tryz.ntmps37
  go_wp2_with fail
  obtain ⟨W1, hW1⟩ : ∃ W1, W1 = W.alloc (.cells #[.int .i64 0, .int .i64 0] 34) := ⟨_, rfl⟩
  have B1 : Below W.heap.size W W1 := by rw [hW1]; exact (Below.refl _ _).alloc (Nat.le_refl _) _
  have f1 : W1.heap[W.heap.size]? = some (.cells #[.int .i64 0, .int .i64 0] 34 (0, 0)) := by rw [hW1]; exact heap_alloc_new _ _
  rw [← hW1]
  have H1 := Lib.hid (And.intro B1 (And.intro f1 (HR.out.1.ext B1)))
  clear hW1 B1 f1
  go_loopg [11] n (fun gk v11 wr => ∃ (i : Nat) (vh : Value), v11 = .int .i64 i ∧ i ≤ n ∧ gk = n - i ∧ KX wr b (.slice ca n cc) ⟨vh, .slice none 0 0⟩ ⟨List.replicate i (-1), [], 0⟩ ∧ KK b ⟨.slice none 0 0, .slice none 0 0⟩ W1 ⟨vh, .slice none 0 0⟩ wr)
  case atStart => exact ⟨0, _, rfl, Nat.zero_le _, rfl, H1.out.2.2, KK.refl _ _ _⟩
  case round =>
    obtain ⟨i, vh, rfl, hi, hgk, hR, hK⟩ := hrel
    by_cases hin : i < n
    · have hin' : (i : Int) < n := by omega
      obtain ⟨ha, hc, he⟩ := hR.heights.slice
      rw [List.length_replicate] at he
      dsimp only at he
      subst he
      have b1 := lt_of_heap hR.h
      have q1 : wr.cell? ⟨b, 1, none⟩ = some (.slice ha i hc) := by rw [cell_of_heap hR.h]; rfl
      have f0 : ∀ o, wr.frozen? ⟨b, o, none⟩ = false := fun o => frozen_of_heap hR.h o
      have HX := Lib.hid (And.intro hgk (And.intro hR hK))
      clear hgk hR hK
      --[[w1
      go_wp2_with (at_builtin; go_must (refine wp_appW (α := Int) elemI8 rfl (.tmp 17) (.tmp 18) rfl (HX.out.2.1.heights.alloc _) (-1) rfl rfl (heap_alloc_new _ _) (by simp; omega) (by simp; unfold maxLen; omega) ?_); intro a1 q1 w1 hr1 hk1 hf1; rw [List.length_replicate] at hr1; simp only [List.length_replicate] at hf1; have hb1 := (hk1.block b (by simp; omega) (fun e => HX.out.2.1.sh b e rfl)).trans ((Below.heap_alloc _ _ _ b1).trans HX.out.2.1.h); have c2 : w1.cell? ⟨b, 1, none⟩ = some (.slice ha i hc) := by { rw [cell_of_heap hb1]; rfl }; have f1 : ∀ o, w1.frozen? ⟨b, o, none⟩ = false := fun o => frozen_of_heap hb1 o; have b1 : b < w1.heap.size := lt_of_heap hb1; have HF := Lib.hid (And.intro hr1 (And.intro hk1 hf1)); clear hb1 hr1 hk1 hf1)
      have S := Lib.hid ((HX.out.2.1.ext ((Below.refl _ _).alloc (Nat.le_refl _) (.cells #[.int .i64 (-1)] 3))).setH HF.out.1 HF.out.2.1 HF.out.2.2)
      go_roundg (n - (i + 1))
      case measure => have := HX.out.1; omega
      case rel => exact ⟨i + 1, _, by simp, by omega, rfl, by have := S.out.1; rwa [show List.replicate i (-1 : Int) ++ [-1] = List.replicate (i + 1) (-1) from (List.replicate_succ' ..).symm] at this, HX.out.2.2.trans ((KK.ext ((Below.refl _ _).alloc (Nat.le_refl _) _)).trans S.out.2)⟩
      --]]w1
    · obtain rfl : i = n := by omega
      have hnc := HR.out.2
      subst hnc
      have CO := Lib.hid (come_any b ca code.length cc ⟨vh, .slice none 0 0⟩ _ 0 0 wr hR (by simp) (by simp) _ rfl)
      have hI := comeL_inv (n := code.length) (f := code.length) (k := 0) (h := 0) (st := ⟨List.replicate code.length (-1), [], 0⟩) ⟨by simp, (fun x hx => by rw [(List.mem_replicate.1 hx).2]; omega), (fun k hk => by cases hk), (by rw [negs_replicate]; simp), Int.le_refl 0, (by show (0 : Int) ≤ 32; decide)⟩ (by decide) (by decide)
      have hq := HS.out.2.2.1
      unfold walkL at hq
      dsimp only at hq
      generalize comeL code.length 0 0 ⟨List.replicate code.length (-1), [], 0⟩ = cq at *
      have HX := Lib.hid (And.intro hK (And.intro hI hq))
      clear hgk hR hK hI hq
      --[[w2
      go_wp2_with fail
      refine (show Calls _ _ #[_, .int .i64 0, _] _ _ from CO.out).mono ?_
      rintro e w5 ⟨v5, rfl, H5⟩
      have K5 := HX.out.1.trans H5.out.2
      have lW := lt_of_heap H1.out.2.1
      have ff := (K5.1.block W.heap.size lW (fun e => by have := HR.out.1.lt e; omega)).trans H1.out.2.1
      have z0 := frozen_of_heap ff 0
      have z1 := frozen_of_heap ff 1
      have q1 : w5.cell? ⟨W.heap.size, 0, none⟩ = some (.int .i64 0) := by rw [cell_of_heap ff]; rfl
      have q2 : w5.cell? ⟨W.heap.size, 1, none⟩ = some (.int .i64 0) := by rw [cell_of_heap ff]; rfl
      have l5 := lt_of_heap ff
      have HK5 := Lib.hid K5
      clear ff K5
      have HE := Lib.hid (fun (p : (Int × Int) × KSt) (vz : KV) (wz : World) (hz : KX wz b (.slice ca code.length cc) vz p.2) (kz : KK b ⟨.slice none 0 0, .slice none 0 0⟩ W1 vz wz) (x y : Value) =>
        (show KX ((wz.setCell ⟨W.heap.size, 0, none⟩ x).setCell ⟨W.heap.size, 1, none⟩ y) b (.slice ca code.length cc) vz p.2 ∧ KK b ⟨.slice none 0 0, .slice none 0 0⟩ W vz ((wz.setCell ⟨W.heap.size, 0, none⟩ x).setCell ⟨W.heap.size, 1, none⟩ y) from by
          have hno : ∀ j, j = W.heap.size → ¬ KO vz b j := fun j hj e => by
            rcases kz.2 j e with h | h
            · have := HR.out.1.lt h
              omega
            · have := lt_of_heap H1.out.2.1
              omega
          have k1 : Keeps (fun j => j = W.heap.size) wz ((wz.setCell ⟨W.heap.size, 0, none⟩ x).setCell ⟨W.heap.size, 1, none⟩ y) := Keeps.setCell (S := fun j => j = W.heap.size) (p := ⟨W.heap.size, 1, none⟩) (Keeps.setCell (S := fun j => j = W.heap.size) (p := ⟨W.heap.size, 0, none⟩) (Keeps.refl _ _) (.inl rfl) x) (.inl rfl) y
          have hh := (KK.ext (b := b) (v := ⟨.slice none 0 0, .slice none 0 0⟩) H1.out.1).trans kz
          refine ⟨⟨(k1.block b (lt_of_heap hz.h) (fun e => hno b e (.inl rfl))).trans hz.h, hz.heights.keep k1 (fun g hg e => hno g e (.inr (.inl hg))), hz.todo.keep k1 (fun g hg e => hno g e (.inr (.inr hg))), hz.sh, hz.sd, hz.lo⟩, hh.1.trans k1 (fun j hj e => by omega), hh.2⟩))
      cases hz : (cq.1 != 0) with
      | true =>
        have hr := HX.out.2.2
        rw [hz] at hr
        simp only [cond_true] at hr
        subst hr
        go_wp2_with fail
        exact bodyPost_ret (v := .agg #[.int .i64 0, .int .i64 cq.1]) (by simp only [results, Tryz.results37]; go_simp) rfl ⟨v5, rfl, Lib.hid (HE.out ((0, cq.1), cq.2) v5 _ H5.out.1 HK5.out _ _)⟩
      | false =>
        have hr := HX.out.2.2
        rw [hz] at hr
        simp only [cond_false] at hr
        have HR2 := Lib.hid hr
        clear hr
        --[[w3
        go_wp2_with fail
        go_loopg [] (code.length + 1) (fun gk wr => ∃ (st : KSt) (v : KV), KX wr b (.slice ca code.length cc) v st ∧ KK b ⟨.slice none 0 0, .slice none 0 0⟩ W1 v wr ∧ Inv code.length gk st ∧ bfsL code gk st = q ∧ gk ≤ code.length + 1)
        case atStart =>
          have I := HX.out.2.1
          exact ⟨cq.2, v5, H5.out.1, HK5.out, ⟨I.len, I.all, I.todo, by have := I.less; omega, I.m0, I.m1⟩, HR2.out, Nat.le_refl _⟩
        case round =>
          obtain ⟨st, v, hR, hK, hI, hb, hg1⟩ := hrel
          obtain ⟨vh, vt⟩ := v
          obtain ⟨ta, tc, rfl⟩ : ∃ a cap, vt = .slice a st.todo.length cap := hR.todo.slice
          have b1 := lt_of_heap hR.h
          have q2' : wr.cell? ⟨b, 2, none⟩ = some (.slice ta st.todo.length tc) := by rw [cell_of_heap hR.h]; rfl
          have f0 : ∀ o, wr.frozen? ⟨b, o, none⟩ = false := fun o => frozen_of_heap hR.h o
          cases hto : st.todo with
          | nil =>
            have e0 : st.todo.length = 0 := by rw [hto]; rfl
            rw [e0] at q2'
            have hq : ((-1, 0), st) = q := by
              cases gk with
              | zero => exact hb
              | succ f => rw [bfsL, hto] at hb; exact hb
            subst hq
            have ff := (hK.1.block W.heap.size lW (fun e => by have := HR.out.1.lt e; omega)).trans H1.out.2.1
            have z0' := frozen_of_heap ff 0
            have z1' := frozen_of_heap ff 1
            have q3 : wr.cell? ⟨W.heap.size, 0, none⟩ = some (.int .i64 0) := by rw [cell_of_heap ff]; rfl
            have q4 : wr.cell? ⟨W.heap.size, 1, none⟩ = some (.int .i64 0) := by rw [cell_of_heap ff]; rfl
            have l5 := lt_of_heap ff
            have HY := Lib.hid (And.intro hR hK)
            clear ff hR hK hI hb hto hg1
            --[[w5
            go_wp2_with fail
            exact bodyPost_ret (v := .agg #[.int .i64 (-1), .int .i64 0]) (by simp only [results, Tryz.results37]; go_simp) rfl ⟨_, rfl, Lib.hid (HE.out ((-1, 0), st) _ _ HY.out.1 HY.out.2 _ _)⟩
            --]]w5
          | cons k r =>
            obtain ⟨f, rfl⟩ : ∃ f, gk = f + 1 := ⟨gk - 1, by have := hI.less; rw [hto] at this; simp at this; omega⟩
            rw [bfsL, hto] at hb
            dsimp only at hb
            have hk0 : st.todo[0]? = some k := by rw [hto]; rfl
            obtain ⟨x, hx, hx0⟩ := hI.todo k (by rw [hto]; exact List.mem_cons_self ..)
            have hkl : k < code.length := by have := (List.getElem?_eq_some_iff.1 hx).1; have := hI.len; omega
            obtain ⟨c, hc⟩ := elem_at hkl
            rw [hc] at hb
            dsimp only at hb
            have hcm := List.mem_of_getElem? hc
            have RT : RowAt wr 3 (.slice ta st.todo.length tc) st.todo := hR.todo
            obtain ⟨tg, toff, rfl, htg⟩ := RT.addr hk0
            have t0 := row_nat RT hk0
            rw [Nat.add_zero] at t0
            have hlen : st.todo.length = r.length + 1 := by rw [hto]; rfl
            obtain ⟨ad', cR, rT, oT⟩ := cut_fromO elemN RT (k := 1) (by omega)
            rw [show ((1 : Nat) : Int) = 1 from rfl] at cR
            rw [show st.todo.drop 1 = r from by rw [hto]; rfl] at rT
            have hpos : (0 : Int) < st.todo.length := by omega
            have ST := Lib.hid (hR.setT (w1 := wr) (v1 := .slice ad' (st.todo.length - 1) (tc - 1)) (l1 := r) rT (Keeps.refl _ _) (fun g hg => .inl (oT g hg)))
            have KS2 := (KK.ext (b := b) (v := ⟨.slice none 0 0, .slice none 0 0⟩) H1.out.1).trans (hK.trans ST.out.2)
            have I2 : Inv code.length f { st with todo := r } := ⟨hI.len, hI.all, (fun j hj => hI.todo j (by rw [hto]; exact List.mem_cons_of_mem _ hj)), (by have := hI.less; rw [hlen] at this; show negs st.heights + r.length ≤ f; omega), hI.m0, hI.m1⟩
            have OKc := HS.out.2.1
            have hln := HR.out.2
            have STP := Lib.hid (step_any b F HS.out.2.2.2 ca code.length cc code _ { st with todo := r } k c _ ST.out.1 (HS.out.1.keep KS2.1 (fun j hj e => by have := HS.out.2.2.2 j hj; have := HR.out.1.lo j e; omega)) hc hI.len (by have := I2.less; have := OKc.len; have := hI.less; have := HX.out.2.1.less; show r.length ≤ 65530; omega) (by have := OKc.len; omega) (OKc.a0 c hcm) (OKc.tk c hcm) (OKc.o c hcm) x hx (hI.all x (List.mem_of_getElem? hx)) _ rfl)
            have I3 := stepL_inv (k := k) (c := c) I2 (OKc.o c hcm).1
            generalize stepL code.length c k { st with todo := r } = sq at *
            have HY := Lib.hid (And.intro hb (And.intro I3 (And.intro (hK.trans ST.out.2) hg1)))
            clear hb I2 I3 hI hK KS2 rT oT RT OKc hx hx0 hk0 hto hc hcm hln hlen hg1
            --[[w4
            go_wp2_with fail
            refine STP.out.mono ?_
            rintro e w7 ⟨v7, rfl, H7⟩
            have K7 := HY.out.2.2.1.trans H7.out.2
            have ff := (K7.1.block W.heap.size lW (fun e => by have := HR.out.1.lt e; omega)).trans H1.out.2.1
            have z0' := frozen_of_heap ff 0
            have z1' := frozen_of_heap ff 1
            have q3 : w7.cell? ⟨W.heap.size, 0, none⟩ = some (.int .i64 0) := by rw [cell_of_heap ff]; rfl
            have q4 : w7.cell? ⟨W.heap.size, 1, none⟩ = some (.int .i64 0) := by rw [cell_of_heap ff]; rfl
            have l5 := lt_of_heap ff
            have HK7 := Lib.hid K7
            clear ff K7
            cases hz2 : (sq.1 != 0) with
            | true =>
              have hr := HY.out.1
              rw [hz2] at hr
              simp only [cond_true] at hr
              subst hr
              go_wp2_with fail
              exact bodyPost_ret (v := .agg #[.int .i64 k, .int .i64 sq.1]) (by simp only [results, Tryz.results37]; go_simp) rfl ⟨v7, rfl, Lib.hid (HE.out ((k, sq.1), sq.2) v7 _ H7.out.1 HK7.out _ _)⟩
            | false =>
              have hr := HY.out.1
              rw [hz2] at hr
              simp only [cond_false] at hr
              have HR3 := Lib.hid hr
              clear hr
              go_wp2_with fail
              go_roundg f
              case measure => omega
              case rel => exact ⟨sq.2, v7, H7.out.1, HK7.out, HY.out.2.1, HR3.out, by have := HY.out.2.2.2; omega⟩
            --]]w4
        --]]w3
      --]]w2
--]]walk
end Go.Proofs.YtielnengimninaaGreatDoor
