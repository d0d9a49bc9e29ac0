/- value.Clone, walked. -/
import Derived.Test.YtielnengimninaaGreatDoorV43
namespace Go.Va
open Go.Own Go.RowKit Go.Own.MapTy
/-- a value with what its kind asks for, and nothing else -/
def cloneV : Val → Val
  | .mk k n s l => .mk k (bif k == 1 then n else 0) (bif k == 2 then s else ⟨#[]⟩) (bif k == 3 then cloneL l else [])
where cloneL : List Val → List Val
  | [] => []
  | x :: r => cloneV x :: cloneL r
theorem cloneV_eq (x : Val) : cloneV x = .mk x.kind (bif x.kind == 1 then x.num else 0) (bif x.kind == 2 then x.txt else ⟨#[]⟩) (bif x.kind == 3 then cloneV.cloneL x.list else []) := by
  cases x
  rw [cloneV]
  rfl
theorem cloneL_map (l : List Val) : cloneV.cloneL l = l.map cloneV := by
  induction l with
  | nil => rw [cloneV.cloneL]; rfl
  | cons x r ih => rw [cloneV.cloneL, ih]; rfl
end Go.Va
namespace Go.Proofs.YtielnengimninaaGreatDoor
open Go.RowKit Go.Own Go.Own.MapTy Go.Va Go.Sort
open Go.Own.Cells (sz enc)
def ClPost (w : World) (x : Val) (e : Ending) (w' : World) : Prop := ∃ c : VC, e = .returned (.agg #[.int .i64 c.kind, .int .i64 c.n, .string c.s, .slice c.la c.ln c.lc]) ∧ Hid (CF (fun g => w.heap.size ≤ g) w' c (cloneV x) ∧ Below w.heap.size w w')
--[[one
set_option maxRecDepth 100000 in
set_option maxHeartbeats 8000000 in
theorem clone_one (x : Val)
    (ck cn : Int) (cs : ByteArray) (la : Option Addr) (ln lc : Nat) (F : Nat → Prop) (w : World) (C : CF F w ⟨ck, cn, cs, la, ln, lc⟩ x) (hz : szV x ≤ 1073741824)
    (h3 : (x.kind == 3) = false) :
    Calls Tryz.prog 65 #[.agg #[.int .i64 ck, .int .i64 cn, .string cs, .slice la ln lc]] w (ClPost w x)
    := by
  have hck : ck = x.kind := C.kind
  have hcn : cn = x.num := C.n
  have hcs : cs = x.txt := C.s
  have hp := cloneV_eq x
  rw [← hck, ← hcn, ← hcs] at hp
  rw [← hck] at h3
  have _z := hz
  clear C hcs hcn hck
  cases h1 : (ck == 1) with
  | true =>
    obtain rfl : ck = 1 := by simpa using h1
    have HP := Lib.hid hp
    clear hp h1 h3
    --[[c1
    go_enter Tryz.func65, Tryz.ntmps65
    go_wp2_with fail
    refine bodyPost_ret (v := .agg #[.int .i64 1, .int .i64 cn, .string ⟨#[]⟩, .slice none 0 0]) (by simp only [results, Tryz.results65]; go_simp) rfl ⟨⟨1, cn, ⟨#[]⟩, none, 0, 0⟩, rfl, Lib.hid ⟨?_, ?_⟩⟩
    · rw [HP.out]; exact ⟨rfl, rfl, rfl, VF.nil _ _⟩
    · repeat (first | exact Below.refl _ _ | refine Below.setCell ?_ (by first | (simp; done) | (simp; omega)) _ | refine Below.alloc ?_ (by first | (simp; done) | (simp; omega)) _)
    --]]c1
  | false =>
    cases h2 : (ck == 2) with
    | true =>
      obtain rfl : ck = 2 := by simpa using h2
      have HP := Lib.hid hp
      clear hp h1 h2 h3
      --[[c2
      go_enter Tryz.func65, Tryz.ntmps65
      go_wp2_with fail
      refine bodyPost_ret (v := .agg #[.int .i64 2, .int .i64 0, .string cs, .slice none 0 0]) (by simp only [results, Tryz.results65]; go_simp) rfl ⟨⟨2, 0, cs, none, 0, 0⟩, rfl, Lib.hid ⟨?_, ?_⟩⟩
      · rw [HP.out]; exact ⟨rfl, rfl, rfl, VF.nil _ _⟩
      · repeat (first | exact Below.refl _ _ | refine Below.setCell ?_ (by first | (simp; done) | (simp; omega)) _ | refine Below.alloc ?_ (by first | (simp; done) | (simp; omega)) _)
      --]]c2
    | false =>
      rw [h1, h2, h3] at hp
      have HP := Lib.hid hp
      clear hp
      --[[c0
      go_enter Tryz.func65, Tryz.ntmps65
      go_wp2_with fail
      refine bodyPost_ret (v := .agg #[.int .i64 ck, .int .i64 0, .string ⟨#[]⟩, .slice none 0 0]) (by simp only [results, Tryz.results65]; go_simp) rfl ⟨⟨ck, 0, ⟨#[]⟩, none, 0, 0⟩, rfl, Lib.hid ⟨?_, ?_⟩⟩
      · rw [HP.out]; exact ⟨rfl, rfl, rfl, VF.nil _ _⟩
      · repeat (first | exact Below.refl _ _ | refine Below.setCell ?_ (by first | (simp; done) | (simp; omega)) _ | refine Below.alloc ?_ (by first | (simp; done) | (simp; omega)) _)
      --]]c0
--]]one
theorem at_new {w : World} {k : Nat} {o : Obj} (h : k = w.heap.size) : (w.alloc o).heap[k]? = some o := by rw [h]; exact heap_alloc_new _ _
def CIH (n : Nat) : Prop := ∀ (x : Val), x.parts ≤ n → ∀ (ck cn : Int) (cs : ByteArray) (la : Option Addr) (ln lc : Nat) (F : Nat → Prop) (w : World), CF F w ⟨ck, cn, cs, la, ln, lc⟩ x → szV x ≤ 1073741824 →
    Calls Tryz.prog 65 #[.agg #[.int .i64 ck, .int .i64 cn, .string cs, .slice la ln lc]] w (ClPost w x)
theorem clones_at {l : List Val} {k : Nat} {y : Val} (h : l[k]? = some y) : cloneV.cloneL (l.take (k + 1)) = cloneV.cloneL (l.take k) ++ [cloneV y] := by
  rw [cloneL_map, cloneL_map, List.take_add_one, h]
  simp
/-- a list's copies so far -/
structure ClL (w wr : World) (v : Value) (l : List Val) : Prop where
  b3 : wr.heap[w.heap.size + 2]? = some (.cells #[.int .i64 3, .int .i64 0, .string ⟨#[]⟩, v] 63 (0, 0))
  b2 : wr.heap[w.heap.size + 1]? = some (.cells #[.int .i64 0, .int .i64 0, .string ⟨#[]⟩, .slice none 0 0] 63 (0, 0))
  row : VRow (fun g => w.heap.size + 2 < g ∧ v.ownBlock ≠ some g) wr 63 v (cloneV.cloneL l)
  own : ∀ g, v.ownBlock = some g → w.heap.size + 2 < g
  below : Below w.heap.size w wr
theorem ClL.next {w wr W w8 w9 : World} {v v1 : Value} {l l2 : List Val} {cs1 : List VC} {c8 : VC} {y : Val} {o : Obj} (h : ClL w wr v l) (hrow : RowAt wr 63 v cs1) (hcl : cs1.length = (cloneV.cloneL l).length)
    (hce : ∀ (i : Nat) (c : VC) (x : Val), cs1[i]? = some c → (cloneV.cloneL l)[i]? = some x → CF (fun g => w.heap.size + 2 < g ∧ v.ownBlock ≠ some g) wr c x) (K0 : Below wr.heap.size wr W)
    (hc : CF (fun g => W.heap.size ≤ g) w8 c8 (cloneV y)) (K8 : Below W.heap.size W w8) (hl2 : cloneV.cloneL l2 = cloneV.cloneL l ++ [cloneV y])
    (hr1 : RowAt w9 63 v1 (cs1 ++ [c8])) (hk1 : Keeps (fun j => v.ownBlock = some j) (w8.alloc o) w9) (hf1 : ∀ g, v1.ownBlock = some g → v.ownBlock = some g ∨ (w8.alloc o).heap.size ≤ g) : ClL w (w9.setCell ⟨w.heap.size + 2, 3, none⟩ v1) v1 l2 := by
  have l3 := lt_of_heap h.b3
  have s0 := K0.size
  have s8 := K8.size
  have own : ∀ g, v1.ownBlock = some g → w.heap.size + 2 < g := fun g hg => by
    rcases hf1 g hg with e | e
    · exact h.own g e
    · have e' : w8.heap.size + 1 ≤ g := by simpa using e
      omega
  have KA : Keeps (fun _ => False) wr (w8.alloc o) := (Keeps.of_below ((K0.trans (K8.mono s0)))).alloc _
  have K9 : Keeps (fun j => v.ownBlock = some j) wr w9 := (KA.mono (fun _ _ f => f.elim)).trans hk1 (fun j _ e => e)
  have KS : Keeps (fun j => j = w.heap.size + 2) w9 (w9.setCell ⟨w.heap.size + 2, 3, none⟩ v1) := Keeps.setCell (S := fun j => j = w.heap.size + 2) (p := ⟨w.heap.size + 2, 3, none⟩) (Keeps.refl _ _) (.inl rfl) _
  have b3 := (K9.block _ l3 (fun e => by have := h.own _ e; omega)).trans h.b3
  have b2 := (K9.block (w.heap.size + 1) (by omega) (fun e => by have := h.own _ e; omega)).trans h.b2
  refine ⟨by simp [World.setCell, Array.getElem?_modify, b3], (Below.heap_setCell _ _ _ _ (by simp)).trans b2, ?_, own, ?_⟩
  · rw [hl2]
    refine VRow.keep (S := fun j => j = w.heap.size + 2) ?_ KS (fun g hg e => by have e' : g = w.heap.size + 2 := e; omega) (fun g hg e => by have := own g hg; omega)
    exact VRow.app (F := fun g => w.heap.size + 2 < g ∧ v.ownBlock ≠ some g) hcl (fun i c x h1 h2 => (hce i c x h1 h2).keep KA (fun _ _ f => f))
      ((hc.mono (G := fun g => w.heap.size + 2 < g ∧ v.ownBlock ≠ some g) (fun g hg _ => ⟨by omega, fun e => by have := hrow.lt e; omega⟩)).keep (S := fun _ => False) ((Keeps.refl _ _).alloc _) (fun _ _ f => f))
      hr1 hk1 (fun g hg => hg.2) (fun g hg hlt => ⟨hg.1, fun e => (hf1 g e).elim (fun e => hg.2 e) (fun e => by omega)⟩)
  · exact (h.below.trans (K9.below (by have := h.below.size; omega) (fun j hj e => by have := h.own j e; omega))).setCell (p := ⟨w.heap.size + 2, 3, none⟩) (by show w.heap.size ≤ w.heap.size + 2; omega) _
--[[list
set_option maxRecDepth 100000 in
set_option maxHeartbeats 8000000 in
theorem clone_list {n : Nat} (IH : CIH n) (x : Val) (hx : x.parts ≤ n + 1)
    (ck cn : Int) (cs : ByteArray) (la : Option Addr) (ln lc : Nat) (F : Nat → Prop) (w : World) (C : CF F w ⟨ck, cn, cs, la, ln, lc⟩ x) (hz : szV x ≤ 1073741824)
    (h3 : (x.kind == 3) = true) :
    Calls Tryz.prog 65 #[.agg #[.int .i64 ck, .int .i64 cn, .string cs, .slice la ln lc]] w (ClPost w x)
    := by
  have hck : ck = x.kind := C.kind
  obtain rfl : ck = 3 := by rw [hck]; simpa using h3
  have hk : x.kind = 3 := hck.symm
  have hp := cloneV_eq x
  rw [hk] at hp
  obtain ⟨hln, hlm, hE⟩ := C.l.elems
  have hln : ln = x.list.length := hln
  rw [szV_eq, hk] at hz
  have hz' : szV.szL x.list + 30 ≤ 1073741824 := hz
  have hlm : ln ≤ 1073741824 := by have := szL_len x.list; omega
  have HE := Lib.hid (And.intro hE (And.intro hln (And.intro IH (And.intro hx (And.intro hp hz')))))
  clear hE hln IH hp hck hk C h3 hx hz hz'
  go_enter Tryz.func65, Tryz.ntmps65
  go_wp2_with fail
  --[[l0
  go_loopg [26] (ln) (fun gk v26 wr => ∃ i : Nat, v26 = .int .i64 i ∧ i ≤ ln ∧ gk = ln - i ∧ Hid (∃ v, ClL w wr v (x.list.take i)))
  case atStart =>
    refine ⟨0, rfl, Nat.zero_le _, rfl, Lib.hid ⟨.slice none 0 0, ⟨?_, ?_, (by rw [List.take_zero, cloneV.cloneL]; exact VRow.nil _ _ _), (fun g hg => by cases hg), ?_⟩⟩⟩
    · exact at_new (by simp)
    · exact (Below.heap_alloc _ _ _ (by simp)).trans (at_new (by simp))
    · repeat (first | exact Below.refl _ _ | refine Below.setCell ?_ (by first | (simp; done) | (simp; omega)) _ | refine Below.alloc ?_ (by first | (simp; done) | (simp; omega)) _)
  case round =>
    obtain ⟨i, rfl, hi, hgk, HR⟩ := hrel
    obtain ⟨v, HR⟩ := HR.out
    obtain ⟨cs1, hrow, hcl, hce⟩ := HR.row
    obtain ⟨a3, c3, rfl⟩ := hrow.slice
    have hpl : cs1.length = i := by rw [hcl, cloneL_map]; have := HE.out.2.1; simp; omega
    rw [hpl] at hrow HR hce
    have h3 : wr.cell? ⟨w.heap.size + 2, 3, none⟩ = some (.slice a3 i c3) := by rw [cell_of_heap HR.b3]; rfl
    have h0 : wr.cell? ⟨w.heap.size + 2, 0, none⟩ = some (.int .i64 3) := by rw [cell_of_heap HR.b3]; rfl
    have h1 : wr.cell? ⟨w.heap.size + 2, 1, none⟩ = some (.int .i64 0) := by rw [cell_of_heap HR.b3]; rfl
    have h2 : wr.cell? ⟨w.heap.size + 2, 2, none⟩ = some (.string ⟨#[]⟩) := by rw [cell_of_heap HR.b3]; rfl
    have f3 : ∀ o, wr.frozen? ⟨w.heap.size + 2, o, none⟩ = false := fun o => frozen_of_heap HR.b3 o
    have f2 : ∀ o, wr.frozen? ⟨w.heap.size + 1, o, none⟩ = false := fun o => frozen_of_heap HR.b2 o
    have r0 : wr.cell? ⟨w.heap.size + 1, 0, none⟩ = some (.int .i64 0) := by rw [cell_of_heap HR.b2]; rfl
    have r1 : wr.cell? ⟨w.heap.size + 1, 1, none⟩ = some (.int .i64 0) := by rw [cell_of_heap HR.b2]; rfl
    have r2 : wr.cell? ⟨w.heap.size + 1, 2, none⟩ = some (.string ⟨#[]⟩) := by rw [cell_of_heap HR.b2]; rfl
    have r3 : wr.cell? ⟨w.heap.size + 1, 3, none⟩ = some (.slice none 0 0) := by rw [cell_of_heap HR.b2]; rfl
    have l3 : w.heap.size + 2 < wr.heap.size := lt_of_heap HR.b3
    have HX := Lib.hid (And.intro HR (And.intro hrow (And.intro hcl (And.intro hce (And.intro hgk hpl)))))
    clear HR hrow hcl hce hgk hpl
    by_cases hin : i < ln
    · obtain ⟨y, hy⟩ := elem_at (l := x.list) (k := i) (by have := HE.out.2.1; omega)
      obtain ⟨g, off, ha, hFg, hg, hel⟩ := HE.out.1.resolve_left (fun e => by rw [e] at hy; simp at hy)
      obtain ⟨c', hC, q0, q1, q2, q3⟩ := hel i y hy
      subst ha
      have hgl : g < wr.heap.size := by have := HX.out.1.below.size; omega
      have gn3 : ¬ g = w.heap.size + 2 := by omega
      rw [← HX.out.1.below.cell (p := ⟨g, _, none⟩) hg] at q0 q1 q2 q3
      have hC' : CF F wr c' y := hC.keep (S := fun _ => False) (Keeps.of_below HX.out.1.below) (fun _ _ f => f)
      have hin' : (i : Int) < ln := by omega
      have hyp : y.parts ≤ n := by
        have := Val.parts_lt (v := x) (List.mem_of_getElem? hy)
        have := HE.out.2.2.2.1
        omega
      have hmem := List.mem_of_getElem? hy
      have CC := Lib.hid (fun W (K : Below wr.heap.size wr W) => HE.out.2.2.1 y hyp c'.kind c'.n c'.s c'.la c'.ln c'.lc F W (hC'.keep (S := fun _ => False) (Keeps.of_below K) (fun _ _ f => f)) (by have := szL_mem hmem; have := HE.out.2.2.2.2.2; omega))
      have HY := Lib.hid (clones_at hy)
      clear hel hC hC' hyp hmem hy
      have NB := Lib.hid (show ∀ g, (Value.slice a3 i c3).ownBlock = some g → g ≠ w.heap.size + 2 from fun g hg e => by have := HX.out.1.own g hg; omega)
      have l3' : ¬ wr.heap.size = w.heap.size + 2 := by omega
      have HBD := Lib.hid (show (cs1.length + [(⟨0, 0, ⟨#[]⟩, none, 0, 0⟩ : VC)].length) * 56 ≤ 140737488355328 ∧ cs1.length + [(⟨0, 0, ⟨#[]⟩, none, 0, 0⟩ : VC)].length ≤ maxLen ∧ cs1.length + [(⟨0, 0, ⟨#[]⟩, none, 0, 0⟩ : VC)].length = i + 1 from by have := HX.out.2.2.2.2.2; unfold maxLen; simp; omega)
      --[[lr
      go_wp2_with fail
      go_region_law ((first
        | (go_simp; go_at_call 65; refine (CC.out _ (by repeat (first | exact Below.refl _ _ | refine Below.drew ?_ | refine Below.alloc ?_ (Nat.le_refl _) _))).mono ?_; rintro e w8 ⟨⟨k8, n8, s8, la8, ln8, lc8⟩, rfl, H8⟩; have hb8 := (H8.out.2.block (w.heap.size + 2) (by simp; omega)).trans ((Below.heap_alloc _ _ _ l3).trans HX.out.1.b3); have y3 : w8.cell? ⟨w.heap.size + 2, 3, none⟩ = some (.slice a3 i c3) := (by rw [cell_of_heap hb8]; rfl); have fy : ∀ o, w8.frozen? ⟨w.heap.size + 2, o, none⟩ = false := (fun o => frozen_of_heap hb8 o); have ly : w.heap.size + 2 < w8.heap.size := (lt_of_heap hb8); have HG := Lib.hid hb8; clear hb8)
        | (refine step_apps (α := VC) (o := ⟨some 35, _, _, _, _, _⟩) elemV (by rfl) (.tmp 31) (.tmp 34) (by rfl) (v := .slice a3 i c3) (u := .slice (some ⟨w8.heap.size, 0, none⟩) 1 1) (by rfl) (by rfl) (xs := cs1) (ys := [⟨k8, n8, s8, la8, ln8, lc8⟩]) (((HX.out.2.1.drew.alloc _).below H8.out.2).alloc _) (RowAt.lit (α := VC) (y := ⟨k8, n8, s8, la8, ln8, lc8⟩) (heap_alloc_new _ _)) HBD.out.1 HBD.out.2.1 (i + 1) HBD.out.2.2 ?_; intro a1 cp w9 hr1 hk1 hf1; have hb9 := (hk1.block (w.heap.size + 2) (by simp; omega) (fun e => NB.out _ e rfl)).trans ((Below.heap_alloc _ _ _ ly).trans HG.out); have z3 : w9.cell? ⟨w.heap.size + 2, 3, none⟩ = some (.slice a3 i c3) := (by rw [cell_of_heap hb9]; rfl); have fz : ∀ o, w9.frozen? ⟨w.heap.size + 2, o, none⟩ = false := (fun o => frozen_of_heap hb9 o); have lz : w.heap.size + 2 < w9.heap.size := lt_of_heap hb9; have FF := Lib.hid (And.intro hr1 (And.intro hk1 (And.intro hf1 hb9))); clear hr1 hk1 hf1 hb9)))
      all_goals
        go_wp2_with fail
        go_roundg (ln - (i + 1))
        case measure => have := HX.out.2.2.2.2.1; omega
        case rel => exact ⟨i + 1, by simp, by omega, rfl, Lib.hid ⟨_, HX.out.1.next HX.out.2.1 HX.out.2.2.1 HX.out.2.2.2.1 (by repeat (first | exact Below.refl _ _ | refine Below.drew ?_ | refine Below.alloc ?_ (Nat.le_refl _) _)) H8.out.1 H8.out.2 HY.out FF.out.1 FF.out.2.1 FF.out.2.2.1⟩⟩
      --]]lr
    · obtain rfl : i = ln := by omega
      have ht : x.list.take i = x.list := List.take_of_length_le (by have := HE.out.2.1; omega)
      --[[l9
      go_wp2_with fail
      refine bodyPost_ret (v := .agg #[.int .i64 3, .int .i64 0, .string ⟨#[]⟩, .slice a3 i c3]) (by simp only [results, Tryz.results65]; go_simp) rfl ⟨⟨3, 0, ⟨#[]⟩, a3, i, c3⟩, rfl, Lib.hid ⟨?_, ?_⟩⟩
      · rw [HE.out.2.2.2.2.1]
        refine ⟨rfl, rfl, rfl, ?_⟩
        have V : VF (fun g => w.heap.size + 2 < g) wr (.slice a3 i c3) (cloneV.cloneL x.list) := by
          have h := HX.out.1.row.vf (G := fun g => w.heap.size + 2 < g) (fun g h => h.1) HX.out.1.own
          rw [ht] at h
          exact h
        refine VF.mono (F := fun g => w.heap.size + 2 < g) (fun g (h : w.heap.size + 2 < g) _ => (show w.heap.size ≤ g by omega)) (VF.keep (S := fun j => j = w.heap.size + 1) ?_ (fun g (h : w.heap.size + 2 < g) e => by have e' : g = w.heap.size + 1 := e; omega) V)
        repeat (first | exact Keeps.refl _ _ | refine Keeps.setCell ?_ (Or.inl (by show w.heap.size + 1 = w.heap.size + 1; rfl)) _)
      · refine HX.out.1.below.trans ?_
        repeat (first | exact Below.refl _ _ | refine Below.setCell ?_ (by first | (simp; done) | (simp; omega)) _)
      --]]l9
  --]]l0
--]]list
theorem clone_all : ∀ n, CIH n
  | 0 => fun x h => by have := x.parts_pos; omega
  | n + 1 => fun x h ck cn cs la ln lc F w C hz => by
    cases h3 : (x.kind == 3) with
    | false => exact clone_one x ck cn cs la ln lc F w C hz h3
    | true => exact clone_list (clone_all n) x h ck cn cs la ln lc F w C hz h3
theorem clone_any (x : Val)
    (ck cn : Int) (cs : ByteArray) (la : Option Addr) (ln lc : Nat) (F : Nat → Prop) (w : World) (C : CF F w ⟨ck, cn, cs, la, ln, lc⟩ x) (hz : szV x ≤ 1073741824)
    :
    Calls Tryz.prog 65 #[.agg #[.int .i64 ck, .int .i64 cn, .string cs, .slice la ln lc]] w (ClPost w x)
    := clone_all x.parts x (Nat.le_refl _) ck cn cs la ln lc F w C hz
end Go.Proofs.YtielnengimninaaGreatDoor
