/- The timers' queue, walked: Apply, an event of a run's history. -/
import Derived.Test.YtkhphnidopbjjaaSo2
import Derived.Test.YtkhphnidopbjjaaH12
import Derived.Test.YtkhphnidopbjjaaTz
namespace Go.Proofs.Ytkhphnidopbjjaa
open Go.RowKit Go.Own Go.Own.MapTy Go.Hm
open Go.Own.Cells (sz enc)
set_option linter.unusedVariables false
theorem box11 {W : World} {b : Nat} {v : Ev} {T : TypeId} (h : W.heap[b]? = some (.cells (evCells v) T (0, 0))) :
    (W.cell? ⟨b, 0, none⟩ = some (.int .i64 v.id) ∧ W.cell? ⟨b, 1, none⟩ = some (.int .i64 v.time) ∧ W.cell? ⟨b, 2, none⟩ = some (.int .i64 v.kind) ∧ W.cell? ⟨b, 3, none⟩ = some (.int .i64 v.a) ∧ W.cell? ⟨b, 4, none⟩ = some (.int .i64 v.b) ∧ W.cell? ⟨b, 5, none⟩ = some (.string v.nm)) ∧
    (W.cell? ⟨b, 6, none⟩ = some (.string v.tx) ∧ W.cell? ⟨b, 7, none⟩ = some (.int .i64 v.vk) ∧ W.cell? ⟨b, 8, none⟩ = some (.int .i64 v.vn) ∧ W.cell? ⟨b, 9, none⟩ = some (.string v.vs) ∧ W.cell? ⟨b, 10, none⟩ = some (.slice v.la v.ln v.lc)) ∧ b < W.heap.size := by
  refine ⟨⟨?_, ?_, ?_, ?_, ?_, ?_⟩, ⟨?_, ?_, ?_, ?_, ?_⟩, lt_of_heap h⟩
  all_goals (rw [cell_of_heap h]; rfl)
theorem cell_alloc_lt {w : World} {o : Obj} {b k : Nat} (h : b < w.heap.size) : (w.alloc o).cell? ⟨b, k, none⟩ = w.cell? ⟨b, k, none⟩ := ((Below.refl w.heap.size w).alloc (Nat.le_refl _) o).cell (p := ⟨b, k, none⟩) h
def ApplyPost (hb : Nat) (lv mv : Value) (T : TypeId) (r : List It × Int × Int) (w : World) (en : Ending) (w' : World) : Prop :=
  ∃ lv' mv' s', en = .returned (.int .i64 r.2.2) ∧ HV w' hb lv' mv' T s' ∧ Ref s' r.1 ∧ s'.seq = r.2.1 ∧ Keeps (foot hb lv mv) w w' ∧ ∀ j, foot hb lv' mv' j → foot hb lv mv j ∨ (w.heap.size ≤ j ∧ j < w'.heap.size)
/-- Put, on the list in order -/
theorem put_ref (k : Ky) (due : Int) (hb : Nat) (lv mv : Value) (T : TypeId) (s : Hp) (Z : List It) (w : World) (H : HV w hb lv mv T s) (R : Ref s Z) (h0 : 0 ≤ s.seq) (h1 : s.seq ≤ 60000) (hl : Z.length < 16384) :
    Calls Try.prog 13 #[.pointer (some ⟨hb, 0, none⟩), .agg #[.int .i64 k.run, .int .i64 k.kind, .int .i64 k.id], .int .i64 due] w (ApplyPost hb lv mv T (putZ s.seq Z k due) w) := by
  refine (put_any k due hb lv mv T s w H ⟨h0, by omega⟩).mono fun en w' ⟨lv', mv', he, hV, hK, hF⟩ => ?_
  unfold putZ
  by_cases hk : Z.any (fun x => decide (x.key = k)) = true
  · obtain ⟨i, x, hx, rfl⟩ := any_key.1 hk
    obtain ⟨j, hj, _⟩ := R.get_some hx
    rw [put_there (d := due) hj] at he hV
    rw [if_pos hk]
    exact ⟨lv', mv', s, he, hV, R, rfl, hK, hF⟩
  · obtain ⟨s', hp, hR, hq⟩ := R.put (d := due) (R.nokey hk) hl
    rw [hp] at he hV
    rw [if_neg hk]
    exact ⟨lv', mv', s', he, hV, hR, hq, hK, hF⟩
theorem drop_ref (r : Int) (hb : Nat) (lv mv : Value) (T : TypeId) (s : Hp) (Z : List It) (w : World) (H : HV w hb lv mv T s) (R : Ref s Z) (hl : Z.length < 16384) :
    Calls Try.prog 18 #[.pointer (some ⟨hb, 0, none⟩), .int .i64 r] w fun en w' => ∃ n lv' s', en = .returned (.int .i64 n) ∧ HV w' hb lv' mv T s' ∧ Ref s' (Z.filter (fun x => !(x.run == r))) ∧ s'.seq = s.seq ∧ Keeps (foot hb lv mv) w w' ∧ lv'.ownBlock = lv.ownBlock :=
  (drop_any r hb lv mv T s w H R.good (by rw [← R.len]; omega)).mono fun _ _ ⟨s', lv', he, hV, hg, hp, hq, ho, hK⟩ => ⟨_, lv', s', he, hV, R.drop hg hp hq, hq, hK, ho⟩
theorem sets5 {w : World} {b c o : Nat} {v0 v1 v2 v3 v4 : Value} (h : ¬ b = c) : (((((w.setCell ⟨c, 0, none⟩ v0).setCell ⟨c, 1, none⟩ v1).setCell ⟨c, 2, none⟩ v2).setCell ⟨c, 3, none⟩ v3).setCell ⟨c, 4, none⟩ v4).cell? ⟨b, o, none⟩ = w.cell? ⟨b, o, none⟩ :=
  World.cell?_of_block (w := w) (by rw [Below.heap_setCell _ _ _ _ h, Below.heap_setCell _ _ _ _ h, Below.heap_setCell _ _ _ _ h, Below.heap_setCell _ _ _ _ h, Below.heap_setCell _ _ _ _ h])
theorem bx5 {W : World} {b : Nat} {c0 c1 c2 c3 c4 : Value} {T : TypeId} (h : W.heap[b]? = some (.cells #[c0, c1, c2, c3, c4] T (0, 0))) :
    (W.cell? ⟨b, 0, none⟩ = some c0 ∧ W.cell? ⟨b, 1, none⟩ = some c1 ∧ W.cell? ⟨b, 2, none⟩ = some c2 ∧ W.cell? ⟨b, 3, none⟩ = some c3 ∧ W.cell? ⟨b, 4, none⟩ = some c4) ∧
    (W.frozen? ⟨b, 0, none⟩ = false ∧ W.frozen? ⟨b, 1, none⟩ = false ∧ W.frozen? ⟨b, 2, none⟩ = false ∧ W.frozen? ⟨b, 3, none⟩ = false ∧ W.frozen? ⟨b, 4, none⟩ = false) ∧ b < W.heap.size := by
  refine ⟨⟨?_, ?_, ?_, ?_, ?_⟩, ⟨?_, ?_, ?_, ?_, ?_⟩, lt_of_heap h⟩
  all_goals first | (rw [cell_of_heap h]; rfl) | (simp [World.frozen?, h])
/-- behind Cancel, in whatever order its result's box was laid -/
def CanRel (hb : Nat) (lv mv : Value) (T : TypeId) (s' : Hp) (w2 wx : World) : Prop := ∃ lv', HV wx hb lv' mv T s' ∧ Keeps (foot hb lv mv) w2 wx ∧ lv'.ownBlock = lv.ownBlock
theorem can_mk1 {hb : Nat} {lv lv' mv : Value} {T : TypeId} {s' : Hp} {w2 w3 W4 : World} (hV : HV w3 hb lv' mv T s') (hK : Keeps (foot hb lv mv) w2.drew w3) (ho : lv'.ownBlock = lv.ownBlock) (KW : Keeps (fun j => j = w3.heap.size) w3 W4) : CanRel hb lv mv T s' w2 W4 :=
  ⟨lv', hV.keep KW (fun j hj e => by have := hV.lt hj; omega), ((Keeps.of_below (Below.refl _ w2).drew).comp hK).trans KW (fun j hj e => by have : w2.heap.size ≤ w3.heap.size := hK.size; omega), ho⟩
theorem can_mk2 {hb : Nat} {lv lv' mv : Value} {T : TypeId} {s' : Hp} {w2 w3 W4 : World} {X : Obj} (hV : HV w3 hb lv' mv T s') (hK : Keeps (foot hb lv mv) (w2.alloc X).drew w3) (ho : lv'.ownBlock = lv.ownBlock) (KW : Keeps (fun j => j = w2.heap.size) w3 W4) (N : ¬ foot hb lv mv w2.heap.size) : CanRel hb lv mv T s' w2 W4 := by
  have h2 : w2.heap.size < w3.heap.size := by have := hK.size; simp at this; omega
  refine ⟨lv', hV.keep KW (fun j hj e => ?_), ?_, ho⟩
  · subst e
    rcases hj with h | h | h
    · exact N (.inl h)
    · exact N (.inr (.inl (ho ▸ h)))
    · exact N (.inr (.inr h))
  · have K1 : Keeps (foot hb lv mv) w2 w3 := (Keeps.of_below (((Below.refl _ w2).alloc (Nat.le_refl _) X).drew)).comp hK
    exact K1.trans KW (fun j hj e => by omega)
theorem can_mk3 {w2 w3 W4 : World} (hB : Below w2.drew.heap.size w2.drew w3) (KW : Keeps (fun j => j = w3.heap.size) w3 W4) : Below w2.heap.size w2 W4 :=
  ((Below.refl _ w2).drew.trans hB).trans (KW.below hB.size (fun j hj e => by have h1 : w2.heap.size ≤ w3.heap.size := hB.size; have h2 : w2.drew.heap.size = w2.heap.size := rfl; omega))
theorem can_mk4 {w2 w3 W4 : World} {X : Obj} (hB : Below (w2.alloc X).drew.heap.size (w2.alloc X).drew w3) (KW : Keeps (fun j => j = w2.heap.size) w3 W4) : Below w2.heap.size w2 W4 := by
  have h2 : w2.heap.size ≤ w3.heap.size := by have := hB.size; simp at this; omega
  exact (((Below.refl _ w2).alloc (Nat.le_refl _) X).drew.trans (hB.mono (by simp))).trans (KW.below h2 (fun j hj e => by omega))
theorem apply_old {hb : Nat} {lv mv : Value} {T : TypeId} {r : List It × Int × Int} {w w1 : World} {en : Ending} {w' : World} (hw : w.heap.size ≤ w1.heap.size) (hB : Below w.heap.size w w1) (h : ApplyPost hb lv mv T r w1 en w') : ApplyPost hb lv mv T r w en w' := by
  obtain ⟨lv', mv', s', he, hV, hR, hq, hK, hF⟩ := h
  exact ⟨lv', mv', s', he, hV, hR, hq, (Keeps.of_below hB).comp hK, fun j hj => (hF j hj).imp id (fun h => ⟨Nat.le_trans hw h.1, h.2⟩)⟩

--[[start
set_option maxRecDepth 100000 in
set_option maxHeartbeats 2000000 in
theorem apply_start (v : Ev) (run : Int) (hb : Nat) (lv mv : Value) (T : TypeId) (s : Hp) (Z : List It) (w : World) (H : HV w hb lv mv T s) (R : Ref s Z) (h0 : 0 ≤ s.seq) (h1 : s.seq ≤ 60000) (hl : Z.length < 16384) (hk : v.kind = 1) (ha : 0 < v.a) :
    Calls Try.prog 30 #[.pointer (some ⟨hb, 0, none⟩), .int .i64 run, .agg (evCells v)] w (ApplyPost hb lv mv T (putZ s.seq Z ⟨run, 2, 0⟩ (satI v.time v.a)) w) := by
  have b0 : hb < w.heap.size := lt_of_heap H.h
  have HLT := Lib.hid (fun j (hj : foot hb lv mv j) => H.lt hj)
  have PT := Lib.hid (fun (W : World) (K : Below w.heap.size w W) => put_ref ⟨run, 2, 0⟩ (satI v.time v.a) hb lv mv T s Z W (H.keep (Keeps.of_below K) (fun _ _ f => f)) R h0 h1 hl)
  have t1 : (v.kind == 1) = true := by simp [hk]
  clear hk
  clear H R h0 h1 hl
  go_enter Try.func30, Try.ntmps30
  go_wp2_with fail
  obtain ⟨w2, hw2⟩ : ∃ w2, w2 = (w.alloc (.cells (evCells v) 71)).alloc (.cells #[.int .i64 run, .int .i64 1, .int .i64 v.a] 32) := ⟨_, rfl⟩
  rw [← hw2]
  have hB2 : Below w.heap.size w w2 := by rw [hw2]; exact ((Below.refl _ _).alloc (Nat.le_refl _) _).alloc (by simp) _
  have be : w2.heap[w.heap.size]? = some (.cells (evCells v) 71 (0, 0)) := by
    rw [hw2, Below.heap_alloc _ _ _ (by simp)]; exact heap_alloc_new w _
  have bk : w2.heap[w.heap.size + 1]? = some (.cells #[.int .i64 run, .int .i64 1, .int .i64 v.a] 32 (0, 0)) := by
    rw [hw2, show w.heap.size + 1 = (w.alloc (.cells (evCells v) 71)).heap.size by simp]
    exact heap_alloc_new _ _
  obtain ⟨⟨e0, e1, e2, e3, e4, e5⟩, ⟨e6, e7, e8, e9, e10⟩, l1⟩ := box11 be
  have k0 : w2.cell? ⟨w.heap.size + 1, 0, none⟩ = some (.int .i64 run) := by rw [cell_of_heap bk]; rfl
  have k1 : w2.cell? ⟨w.heap.size + 1, 1, none⟩ = some (.int .i64 1) := by rw [cell_of_heap bk]; rfl
  have k2 : w2.cell? ⟨w.heap.size + 1, 2, none⟩ = some (.int .i64 v.a) := by rw [cell_of_heap bk]; rfl
  have l2 := lt_of_heap bk
  have hsz : w.heap.size ≤ w2.heap.size := hB2.size
  have NF := Lib.hid (fun j (hj : foot hb lv mv j) => HLT.out j hj)
  clear hw2 be bk
  go_region_held3 (fun W => W.cell? ⟨w.heap.size, 1, none⟩ = some (.int .i64 v.time) ∧ W.cell? ⟨w.heap.size, 3, none⟩ = some (.int .i64 v.a)) (first | exact ⟨e1, e3⟩ | exact ⟨y1, y3⟩)
    ((first
      | (go_at_call 13; refine (PT.out _ (hB2.trans (((Below.refl _ _).drew).mono hsz))).mono ?_; rintro en w3 ⟨lv', mv', s', rfl, hV, hR, hq, hK, hF⟩; have y1 := (hK.cell (p := ⟨w.heap.size, 1, none⟩) l1 (fun f => Nat.lt_irrefl _ (NF.out _ f))).trans e1; have y3 := (hK.cell (p := ⟨w.heap.size, 3, none⟩) l1 (fun f => Nat.lt_irrefl _ (NF.out _ f))).trans e3)
      | (go_at_call 48; refine (sat_any _ _ _).mono ?_; rintro e w' ⟨rfl, rfl⟩)))
  all_goals
    go_wp2_with fail
    go_ret
    exact apply_old hsz hB2 ⟨lv', mv', s', rfl, hV, hR, hq, (Keeps.of_below (Below.refl _ _).drew).comp hK, hF⟩
--]]start

--[[timer
set_option maxRecDepth 100000 in
set_option maxHeartbeats 2000000 in
theorem apply_timer (v : Ev) (run : Int) (hb : Nat) (lv mv : Value) (T : TypeId) (s : Hp) (Z : List It) (w : World) (H : HV w hb lv mv T s) (R : Ref s Z) (h0 : 0 ≤ s.seq) (h1 : s.seq ≤ 60000) (hl : Z.length < 16384) (hk : v.kind = 11) :
    Calls Try.prog 30 #[.pointer (some ⟨hb, 0, none⟩), .int .i64 run, .agg (evCells v)] w (ApplyPost hb lv mv T (putZ s.seq Z ⟨run, 1, v.a⟩ v.b) w) := by
  have b0 : hb < w.heap.size := lt_of_heap H.h
  have HLT := Lib.hid (fun j (hj : foot hb lv mv j) => H.lt hj)
  have PT := Lib.hid (fun (W : World) (K : Below w.heap.size w W) => put_ref ⟨run, 1, v.a⟩ v.b hb lv mv T s Z W (H.keep (Keeps.of_below K) (fun _ _ f => f)) R h0 h1 hl)
  have t1 : (v.kind == 1) = false := by simp [hk]
  have t2 : (v.kind == 11) = true := by simp [hk]
  clear hk
  clear H R h0 h1 hl
  go_enter Try.func30, Try.ntmps30
  go_wp2_with fail
  obtain ⟨w2, hw2⟩ : ∃ w2, w2 = (w.alloc (.cells (evCells v) 71)).alloc (.cells #[.int .i64 run, .int .i64 1, .int .i64 v.a] 32) := ⟨_, rfl⟩
  rw [← hw2]
  have hB2 : Below w.heap.size w w2 := by rw [hw2]; exact ((Below.refl _ _).alloc (Nat.le_refl _) _).alloc (by simp) _
  have be : w2.heap[w.heap.size]? = some (.cells (evCells v) 71 (0, 0)) := by
    rw [hw2, Below.heap_alloc _ _ _ (by simp)]; exact heap_alloc_new w _
  have bk : w2.heap[w.heap.size + 1]? = some (.cells #[.int .i64 run, .int .i64 1, .int .i64 v.a] 32 (0, 0)) := by
    rw [hw2, show w.heap.size + 1 = (w.alloc (.cells (evCells v) 71)).heap.size by simp]
    exact heap_alloc_new _ _
  obtain ⟨⟨e0, e1, e2, e3, e4, e5⟩, ⟨e6, e7, e8, e9, e10⟩, l1⟩ := box11 be
  have k0 : w2.cell? ⟨w.heap.size + 1, 0, none⟩ = some (.int .i64 run) := by rw [cell_of_heap bk]; rfl
  have k1 : w2.cell? ⟨w.heap.size + 1, 1, none⟩ = some (.int .i64 1) := by rw [cell_of_heap bk]; rfl
  have k2 : w2.cell? ⟨w.heap.size + 1, 2, none⟩ = some (.int .i64 v.a) := by rw [cell_of_heap bk]; rfl
  have l2 := lt_of_heap bk
  have hsz : w.heap.size ≤ w2.heap.size := hB2.size
  have NF := Lib.hid (fun j (hj : foot hb lv mv j) => HLT.out j hj)
  clear hw2 be bk
  go_region_held3 (fun W => W.cell? ⟨w.heap.size, 4, none⟩ = some (.int .i64 v.b) ∧ W.cell? ⟨w.heap.size + 1, 0, none⟩ = some (.int .i64 run) ∧ W.cell? ⟨w.heap.size + 1, 1, none⟩ = some (.int .i64 1) ∧ W.cell? ⟨w.heap.size + 1, 2, none⟩ = some (.int .i64 v.a)) (first | exact ⟨e4, k0, k1, k2⟩ | exact ⟨y1, y3, y4, y5⟩)
    ((go_at_call 13; refine (PT.out _ (hB2.trans (((Below.refl _ _).drew).mono hsz))).mono ?_; rintro en w3 ⟨lv', mv', s', rfl, hV, hR, hq, hK, hF⟩; have y1 := (hK.cell (p := ⟨w.heap.size, 4, none⟩) l1 (fun f => Nat.lt_irrefl _ (NF.out _ f))).trans e4; have N1 : ¬ foot hb lv mv (w.heap.size + 1) := (fun f => by have := NF.out _ f; omega); have y3 := (hK.cell (p := ⟨w.heap.size + 1, 0, none⟩) l2 N1).trans k0; have y4 := (hK.cell (p := ⟨w.heap.size + 1, 1, none⟩) l2 N1).trans k1; have y5 := (hK.cell (p := ⟨w.heap.size + 1, 2, none⟩) l2 N1).trans k2))
  all_goals
    go_wp2_with fail
    go_ret
    exact apply_old hsz hB2 ⟨lv', mv', s', rfl, hV, hR, hq, (Keeps.of_below (Below.refl _ _).drew).comp hK, hF⟩
--]]timer

--[[none
set_option maxRecDepth 100000 in
set_option maxHeartbeats 2000000 in
theorem apply_none (v : Ev) (run : Int) (hb : Nat) (lv mv : Value) (T : TypeId) (s : Hp) (Z : List It) (w : World) (H : HV w hb lv mv T s) (R : Ref s Z) (h0 : 0 ≤ s.seq) (h1 : s.seq ≤ 60000) (hl : Z.length < 16384) (hk : v.kind = 1) (ha : ¬ 0 < v.a) :
    Calls Try.prog 30 #[.pointer (some ⟨hb, 0, none⟩), .int .i64 run, .agg (evCells v)] w (ApplyPost hb lv mv T (Z, s.seq, 0) w) := by
  have b0 : hb < w.heap.size := lt_of_heap H.h
  have HLT := Lib.hid (fun j (hj : foot hb lv mv j) => H.lt hj)
  have HH := Lib.hid (And.intro H R)
  have t1 : (v.kind == 1) = true := by simp [hk]
  have hk2 : v.kind ≤ 1 := by omega
  clear hk
  clear H R h0 h1 hl
  go_enter Try.func30, Try.ntmps30
  go_wp2_with fail
  obtain ⟨w2, hw2⟩ : ∃ w2, w2 = (w.alloc (.cells (evCells v) 71)).alloc (.cells #[.int .i64 run, .int .i64 1, .int .i64 v.a] 32) := ⟨_, rfl⟩
  rw [← hw2]
  have hB2 : Below w.heap.size w w2 := by rw [hw2]; exact ((Below.refl _ _).alloc (Nat.le_refl _) _).alloc (by simp) _
  have be : w2.heap[w.heap.size]? = some (.cells (evCells v) 71 (0, 0)) := by
    rw [hw2, Below.heap_alloc _ _ _ (by simp)]; exact heap_alloc_new w _
  have bk : w2.heap[w.heap.size + 1]? = some (.cells #[.int .i64 run, .int .i64 1, .int .i64 v.a] 32 (0, 0)) := by
    rw [hw2, show w.heap.size + 1 = (w.alloc (.cells (evCells v) 71)).heap.size by simp]
    exact heap_alloc_new _ _
  obtain ⟨⟨e0, e1, e2, e3, e4, e5⟩, ⟨e6, e7, e8, e9, e10⟩, l1⟩ := box11 be
  have k0 : w2.cell? ⟨w.heap.size + 1, 0, none⟩ = some (.int .i64 run) := by rw [cell_of_heap bk]; rfl
  have k1 : w2.cell? ⟨w.heap.size + 1, 1, none⟩ = some (.int .i64 1) := by rw [cell_of_heap bk]; rfl
  have k2 : w2.cell? ⟨w.heap.size + 1, 2, none⟩ = some (.int .i64 v.a) := by rw [cell_of_heap bk]; rfl
  have l2 := lt_of_heap bk
  have hsz : w.heap.size ≤ w2.heap.size := hB2.size
  have NF := Lib.hid (fun j (hj : foot hb lv mv j) => HLT.out j hj)
  clear hw2 be bk
  go_wp2_with (go_at_call 49; refine (closes_no v _ (by omega)).mono ?_; rintro e w3 ⟨rfl, hB3⟩)
  go_ret
  exact ⟨lv, mv, s, rfl, HH.out.1.keep (Keeps.of_below (hB2.trans (hB3.mono hsz))) (fun _ _ f => f), HH.out.2, rfl, Keeps.of_below (hB2.trans (hB3.mono hsz)), fun j hj => .inl hj⟩
--]]none

--[[other
set_option maxRecDepth 100000 in
set_option maxHeartbeats 2000000 in
theorem apply_other (v : Ev) (run : Int) (hb : Nat) (lv mv : Value) (T : TypeId) (s : Hp) (Z : List It) (w : World) (H : HV w hb lv mv T s) (R : Ref s Z) (h0 : 0 ≤ s.seq) (h1 : s.seq ≤ 60000) (hl : Z.length < 16384) (g1 : v.kind ≠ 1) (g2 : v.kind ≠ 11) (g3 : v.kind ≠ 12) (g4 : v.kind ≠ 13) (g5 : ¬ (16 ≤ v.kind ∧ v.kind ≤ 21)) :
    Calls Try.prog 30 #[.pointer (some ⟨hb, 0, none⟩), .int .i64 run, .agg (evCells v)] w (ApplyPost hb lv mv T (Z, s.seq, 0) w) := by
  have b0 : hb < w.heap.size := lt_of_heap H.h
  have HLT := Lib.hid (fun j (hj : foot hb lv mv j) => H.lt hj)
  have HH := Lib.hid (And.intro H R)
  have t1 : (v.kind == 1) = false := by simp [g1]
  have t2 : (v.kind == 11) = false := by simp [g2]
  have t3 : (v.kind == 12) = false := by simp [g3]
  have t4 : (v.kind == 13) = false := by simp [g4]
  have G5 := Lib.hid g5
  clear g1 g2 g3 g4 g5
  clear H R h0 h1 hl
  go_enter Try.func30, Try.ntmps30
  go_wp2_with fail
  obtain ⟨w2, hw2⟩ : ∃ w2, w2 = (w.alloc (.cells (evCells v) 71)).alloc (.cells #[.int .i64 run, .int .i64 1, .int .i64 v.a] 32) := ⟨_, rfl⟩
  rw [← hw2]
  have hB2 : Below w.heap.size w w2 := by rw [hw2]; exact ((Below.refl _ _).alloc (Nat.le_refl _) _).alloc (by simp) _
  have be : w2.heap[w.heap.size]? = some (.cells (evCells v) 71 (0, 0)) := by
    rw [hw2, Below.heap_alloc _ _ _ (by simp)]; exact heap_alloc_new w _
  have bk : w2.heap[w.heap.size + 1]? = some (.cells #[.int .i64 run, .int .i64 1, .int .i64 v.a] 32 (0, 0)) := by
    rw [hw2, show w.heap.size + 1 = (w.alloc (.cells (evCells v) 71)).heap.size by simp]
    exact heap_alloc_new _ _
  obtain ⟨⟨e0, e1, e2, e3, e4, e5⟩, ⟨e6, e7, e8, e9, e10⟩, l1⟩ := box11 be
  have k0 : w2.cell? ⟨w.heap.size + 1, 0, none⟩ = some (.int .i64 run) := by rw [cell_of_heap bk]; rfl
  have k1 : w2.cell? ⟨w.heap.size + 1, 1, none⟩ = some (.int .i64 1) := by rw [cell_of_heap bk]; rfl
  have k2 : w2.cell? ⟨w.heap.size + 1, 2, none⟩ = some (.int .i64 v.a) := by rw [cell_of_heap bk]; rfl
  have l2 := lt_of_heap bk
  have hsz : w.heap.size ≤ w2.heap.size := hB2.size
  have NF := Lib.hid (fun j (hj : foot hb lv mv j) => HLT.out j hj)
  clear hw2 be bk
  go_wp2_with (go_at_call 49; refine (closes_no v _ G5.out).mono ?_; rintro e w3 ⟨rfl, hB3⟩)
  go_ret
  exact ⟨lv, mv, s, rfl, HH.out.1.keep (Keeps.of_below (hB2.trans (hB3.mono hsz))) (fun _ _ f => f), HH.out.2, rfl, Keeps.of_below (hB2.trans (hB3.mono hsz)), fun j hj => .inl hj⟩
--]]other

--[[close
set_option maxRecDepth 100000 in
set_option maxHeartbeats 2000000 in
theorem apply_close (v : Ev) (run : Int) (hb : Nat) (lv mv : Value) (T : TypeId) (s : Hp) (Z : List It) (w : World) (H : HV w hb lv mv T s) (R : Ref s Z) (h0 : 0 ≤ s.seq) (h1 : s.seq ≤ 60000) (hl : Z.length < 16384) (hk : 16 ≤ v.kind) (hk2 : v.kind ≤ 21) :
    Calls Try.prog 30 #[.pointer (some ⟨hb, 0, none⟩), .int .i64 run, .agg (evCells v)] w (ApplyPost hb lv mv T (Z.filter (fun x => !(x.run == run)), s.seq, 0) w) := by
  have b0 : hb < w.heap.size := lt_of_heap H.h
  have HLT := Lib.hid (fun j (hj : foot hb lv mv j) => H.lt hj)
  have DT := Lib.hid (fun (W : World) (K : Below w.heap.size w W) => drop_ref run hb lv mv T s Z W (H.keep (Keeps.of_below K) (fun _ _ f => f)) R hl)
  have t1 : (v.kind == 1) = false := by rw [beq_eq_false_iff_ne]; omega
  have t2 : (v.kind == 11) = false := by rw [beq_eq_false_iff_ne]; omega
  have t3 : (v.kind == 12) = false := by rw [beq_eq_false_iff_ne]; omega
  have t4 : (v.kind == 13) = false := by rw [beq_eq_false_iff_ne]; omega
  clear H R h0 h1 hl
  go_enter Try.func30, Try.ntmps30
  go_wp2_with fail
  obtain ⟨w2, hw2⟩ : ∃ w2, w2 = (w.alloc (.cells (evCells v) 71)).alloc (.cells #[.int .i64 run, .int .i64 1, .int .i64 v.a] 32) := ⟨_, rfl⟩
  rw [← hw2]
  have hB2 : Below w.heap.size w w2 := by rw [hw2]; exact ((Below.refl _ _).alloc (Nat.le_refl _) _).alloc (by simp) _
  have be : w2.heap[w.heap.size]? = some (.cells (evCells v) 71 (0, 0)) := by
    rw [hw2, Below.heap_alloc _ _ _ (by simp)]; exact heap_alloc_new w _
  have bk : w2.heap[w.heap.size + 1]? = some (.cells #[.int .i64 run, .int .i64 1, .int .i64 v.a] 32 (0, 0)) := by
    rw [hw2, show w.heap.size + 1 = (w.alloc (.cells (evCells v) 71)).heap.size by simp]
    exact heap_alloc_new _ _
  obtain ⟨⟨e0, e1, e2, e3, e4, e5⟩, ⟨e6, e7, e8, e9, e10⟩, l1⟩ := box11 be
  have k0 : w2.cell? ⟨w.heap.size + 1, 0, none⟩ = some (.int .i64 run) := by rw [cell_of_heap bk]; rfl
  have k1 : w2.cell? ⟨w.heap.size + 1, 1, none⟩ = some (.int .i64 1) := by rw [cell_of_heap bk]; rfl
  have k2 : w2.cell? ⟨w.heap.size + 1, 2, none⟩ = some (.int .i64 v.a) := by rw [cell_of_heap bk]; rfl
  have l2 := lt_of_heap bk
  have hsz : w.heap.size ≤ w2.heap.size := hB2.size
  have NF := Lib.hid (fun j (hj : foot hb lv mv j) => HLT.out j hj)
  clear hw2 be bk
  go_wp2_with (first | (go_at_call 49; refine (closes_yes v _ hk hk2).mono ?_; rintro e w3 ⟨rfl, hB3⟩; have hB4 := hB2.trans (hB3.mono hsz)) | (go_at_call 18; refine (DT.out _ hB4).mono ?_; rintro e w4 ⟨n, lv', s', rfl, hV, hR, hq, hK, ho⟩))
  go_ret
  exact ⟨lv', mv, s', rfl, hV, hR, hq, (Keeps.of_below hB4).comp hK, take_foot ho⟩
--]]close

--[[fired
set_option maxRecDepth 100000 in
set_option maxHeartbeats 2000000 in
theorem apply_fired (v : Ev) (run : Int) (hb : Nat) (lv mv : Value) (T : TypeId) (s : Hp) (Z : List It) (w : World) (H : HV w hb lv mv T s) (R : Ref s Z) (h0 : 0 ≤ s.seq) (h1 : s.seq ≤ 60000) (hl : Z.length < 16384) (hk : v.kind = 12) (ha : Z.any (fun x => decide (x.key = ⟨run, 1, v.a⟩)) = true) :
    Calls Try.prog 30 #[.pointer (some ⟨hb, 0, none⟩), .int .i64 run, .agg (evCells v)] w (ApplyPost hb lv mv T (Z.filter (fun x => !decide (x.key = ⟨run, 1, v.a⟩)), s.seq, 0) w) := by
  have b0 : hb < w.heap.size := lt_of_heap H.h
  have HLT := Lib.hid (fun j (hj : foot hb lv mv j) => H.lt hj)
  obtain ⟨i, x, hx, hxk⟩ := any_key.1 ha
  obtain ⟨j, hg, hj⟩ := R.get_some hx
  rw [hxk] at hg
  obtain ⟨hTK, hTq⟩ := R.take hx hj
  rw [erase_filter R.keys hx, hxk] at hTK
  have CT := Lib.hid (fun (W : World) (K : Below w.heap.size w W) => cancel_some ⟨run, 1, v.a⟩ x j hb lv mv T s W (H.keep (Keeps.of_below K) (fun _ _ f => f)) hg hj (by rw [← R.len]; omega))
  have HT := Lib.hid (And.intro hTK hTq)
  clear hx hxk hg hj hTK hTq ha
  have t1 : (v.kind == 1) = false := by simp [hk]
  have t2 : (v.kind == 11) = false := by simp [hk]
  have t3 : (v.kind == 12) = true := by simp [hk]
  have t4 : (v.kind == 13) = false := by simp [hk]
  have hk2 : v.kind ≤ 13 := by omega
  clear hk
  clear H R h0 h1 hl
  go_enter Try.func30, Try.ntmps30
  go_wp2_with fail
  obtain ⟨w2, hw2⟩ : ∃ w2, w2 = (w.alloc (.cells (evCells v) 71)).alloc (.cells #[.int .i64 run, .int .i64 1, .int .i64 v.a] 32) := ⟨_, rfl⟩
  rw [← hw2]
  have hB2 : Below w.heap.size w w2 := by rw [hw2]; exact ((Below.refl _ _).alloc (Nat.le_refl _) _).alloc (by simp) _
  have be : w2.heap[w.heap.size]? = some (.cells (evCells v) 71 (0, 0)) := by
    rw [hw2, Below.heap_alloc _ _ _ (by simp)]; exact heap_alloc_new w _
  have bk : w2.heap[w.heap.size + 1]? = some (.cells #[.int .i64 run, .int .i64 1, .int .i64 v.a] 32 (0, 0)) := by
    rw [hw2, show w.heap.size + 1 = (w.alloc (.cells (evCells v) 71)).heap.size by simp]
    exact heap_alloc_new _ _
  obtain ⟨⟨e0, e1, e2, e3, e4, e5⟩, ⟨e6, e7, e8, e9, e10⟩, l1⟩ := box11 be
  have k0 : w2.cell? ⟨w.heap.size + 1, 0, none⟩ = some (.int .i64 run) := by rw [cell_of_heap bk]; rfl
  have k1 : w2.cell? ⟨w.heap.size + 1, 1, none⟩ = some (.int .i64 1) := by rw [cell_of_heap bk]; rfl
  have k2 : w2.cell? ⟨w.heap.size + 1, 2, none⟩ = some (.int .i64 v.a) := by rw [cell_of_heap bk]; rfl
  have l2 := lt_of_heap bk
  have hsz : w.heap.size ≤ w2.heap.size := hB2.size
  have NF := Lib.hid (fun j (hj : foot hb lv mv j) => HLT.out j hj)
  clear hw2 be bk
  have N1 : ¬ foot hb lv mv (w.heap.size + 1) := fun f => by have := NF.out _ f; omega
  have N2 : ¬ foot hb lv mv w2.heap.size := fun f => by have := NF.out _ f; omega
  have N3 : ¬ w.heap.size + 1 = w2.heap.size := by omega
  go_cut [9] (fun v9 wx => v9 = .bool true ∧ CanRel hb lv mv T (s.take j) w2 wx)
  case first =>
    go_region_held3 (fun W => W.cell? ⟨w.heap.size + 1, 0, none⟩ = some (.int .i64 run) ∧ W.cell? ⟨w.heap.size + 1, 1, none⟩ = some (.int .i64 1) ∧ W.cell? ⟨w.heap.size + 1, 2, none⟩ = some (.int .i64 v.a)) (first | go_keep | with_reducible exact ⟨k0, k1, k2⟩ | with_reducible exact ⟨(cell_alloc_lt l2).trans k0, (cell_alloc_lt l2).trans k1, (cell_alloc_lt l2).trans k2⟩ | with_reducible exact ⟨y3, y4, y5⟩ | exact ⟨(sets5 N3).trans y3, (sets5 N3).trans y4, (sets5 N3).trans y5⟩)
      ((first
        | (go_at_call 16; refine (CT.out _ (hB2.trans (((Below.refl _ _).drew).mono hsz))).mono ?_; rintro en w3 ⟨lv', rfl, hV, hK, ho⟩; have y3 := (hK.cell (p := ⟨w.heap.size + 1, 0, none⟩) l2 N1).trans k0; have y4 := (hK.cell (p := ⟨w.heap.size + 1, 1, none⟩) l2 N1).trans k1; have y5 := (hK.cell (p := ⟨w.heap.size + 1, 2, none⟩) l2 N1).trans k2; have l3 : w.heap.size + 1 < w3.heap.size := Nat.lt_of_lt_of_le l2 hK.size; have FIN := Lib.hid (fun W4 (KW : Keeps (fun j => j = w3.heap.size) w3 W4) => can_mk1 hV hK ho KW))
        | (go_at_call 16; refine (CT.out _ (hB2.trans ((((Below.refl _ _).alloc (Nat.le_refl _) _).drew).mono hsz))).mono ?_; rintro en w3 ⟨lv', rfl, hV, hK, ho⟩; have y3 := (hK.cell (p := ⟨w.heap.size + 1, 0, none⟩) (by simp; omega) N1).trans ((cell_alloc_lt l2).trans k0); have y4 := (hK.cell (p := ⟨w.heap.size + 1, 1, none⟩) (by simp; omega) N1).trans ((cell_alloc_lt l2).trans k1); have y5 := (hK.cell (p := ⟨w.heap.size + 1, 2, none⟩) (by simp; omega) N1).trans ((cell_alloc_lt l2).trans k2); have bx : w3.heap[w2.heap.size]? = some (.cells #[.int .i64 0, .int .i64 0, .int .i64 0, .int .i64 0, .int .u64 0] 35 (0, 0)) := (hK.block _ (by simp) N2).trans (heap_alloc_new w2 _); obtain ⟨⟨i0, i1, i2, i3, i4⟩, ⟨j0, j1, j2, j3, j4⟩, l4⟩ := bx5 bx; have FIN := Lib.hid (fun W4 (KW : Keeps (fun j => j = w2.heap.size) w3 W4) => can_mk2 hV hK ho KW N2); clear bx)))
    all_goals
      go_wp2_with fail
      go_meet
      case rel => exact ⟨rfl, FIN.out _ (by first | exact (Keeps.refl _ w3).alloc _ | exact (((((Keeps.refl (fun j => j = w2.heap.size) w3).setCell (p := ⟨w2.heap.size, 0, none⟩) (.inl rfl) _).setCell (p := ⟨w2.heap.size, 1, none⟩) (.inl rfl) _).setCell (p := ⟨w2.heap.size, 2, none⟩) (.inl rfl) _).setCell (p := ⟨w2.heap.size, 3, none⟩) (.inl rfl) _).setCell (p := ⟨w2.heap.size, 4, none⟩) (.inl rfl) _)⟩
  case rest =>
    obtain ⟨rfl, lv', hV, K1, ho⟩ := hcut
    have ZZ := fun (o : Nat) => K1.cell (p := ⟨w.heap.size, o, none⟩) l1 (fun f => Nat.lt_irrefl _ (NF.out _ f))
    have z0 := (ZZ 0).trans e0
    have z1 := (ZZ 1).trans e1
    have z2 := (ZZ 2).trans e2
    have z3 := (ZZ 3).trans e3
    have z4 := (ZZ 4).trans e4
    have z5 := (ZZ 5).trans e5
    have z6 := (ZZ 6).trans e6
    have z7 := (ZZ 7).trans e7
    have z8 := (ZZ 8).trans e8
    have z9 := (ZZ 9).trans e9
    have z10 := (ZZ 10).trans e10
    have l3' : w.heap.size < wc.heap.size := Nat.lt_of_lt_of_le l1 K1.size
    have HR3 := Lib.hid (And.intro hV (And.intro K1 ho))
    clear ZZ hV K1 ho e0 e1 e2 e3 e4 e5 e6 e7 e8 e9 e10 k0 k1 k2
    go_wp2_with (go_at_call 49; refine (closes_no v _ (by omega)).mono ?_; rintro e w5 ⟨rfl, hB5⟩)
    go_ret
    exact apply_old hsz hB2 ⟨lv', mv, s.take j, rfl, HR3.out.1.keep (Keeps.of_below hB5) (fun _ _ f => f), HT.out.1, HT.out.2, HR3.out.2.1.comp (Keeps.of_below hB5), fun jj hj => (take_foot (w := w2) (w2 := wc) HR3.out.2.2 jj hj).imp id (fun h => ⟨h.1, Nat.lt_of_lt_of_le h.2 hB5.size⟩)⟩
--]]fired

--[[fired_no
set_option maxRecDepth 100000 in
set_option maxHeartbeats 2000000 in
theorem apply_fired_no (v : Ev) (run : Int) (hb : Nat) (lv mv : Value) (T : TypeId) (s : Hp) (Z : List It) (w : World) (H : HV w hb lv mv T s) (R : Ref s Z) (h0 : 0 ≤ s.seq) (h1 : s.seq ≤ 60000) (hl : Z.length < 16384) (hk : v.kind = 12) (ha : ¬ Z.any (fun x => decide (x.key = ⟨run, 1, v.a⟩)) = true) :
    Calls Try.prog 30 #[.pointer (some ⟨hb, 0, none⟩), .int .i64 run, .agg (evCells v)] w (ApplyPost hb lv mv T (Z, s.seq, 4) w) := by
  have b0 : hb < w.heap.size := lt_of_heap H.h
  have HLT := Lib.hid (fun j (hj : foot hb lv mv j) => H.lt hj)
  have hg := R.nokey ha
  have CT := Lib.hid (fun (W : World) (K : Below w.heap.size w W) => cancel_none ⟨run, 1, v.a⟩ hb lv mv T s W (H.keep (Keeps.of_below K) (fun _ _ f => f)) hg)
  have HH := Lib.hid (And.intro H R)
  clear hg ha
  have t1 : (v.kind == 1) = false := by simp [hk]
  have t2 : (v.kind == 11) = false := by simp [hk]
  have t3 : (v.kind == 12) = true := by simp [hk]
  have t4 : (v.kind == 13) = false := by simp [hk]
  have hk2 : v.kind ≤ 13 := by omega
  clear hk
  clear H R h0 h1 hl
  go_enter Try.func30, Try.ntmps30
  go_wp2_with fail
  obtain ⟨w2, hw2⟩ : ∃ w2, w2 = (w.alloc (.cells (evCells v) 71)).alloc (.cells #[.int .i64 run, .int .i64 1, .int .i64 v.a] 32) := ⟨_, rfl⟩
  rw [← hw2]
  have hB2 : Below w.heap.size w w2 := by rw [hw2]; exact ((Below.refl _ _).alloc (Nat.le_refl _) _).alloc (by simp) _
  have be : w2.heap[w.heap.size]? = some (.cells (evCells v) 71 (0, 0)) := by
    rw [hw2, Below.heap_alloc _ _ _ (by simp)]; exact heap_alloc_new w _
  have bk : w2.heap[w.heap.size + 1]? = some (.cells #[.int .i64 run, .int .i64 1, .int .i64 v.a] 32 (0, 0)) := by
    rw [hw2, show w.heap.size + 1 = (w.alloc (.cells (evCells v) 71)).heap.size by simp]
    exact heap_alloc_new _ _
  obtain ⟨⟨e0, e1, e2, e3, e4, e5⟩, ⟨e6, e7, e8, e9, e10⟩, l1⟩ := box11 be
  have k0 : w2.cell? ⟨w.heap.size + 1, 0, none⟩ = some (.int .i64 run) := by rw [cell_of_heap bk]; rfl
  have k1 : w2.cell? ⟨w.heap.size + 1, 1, none⟩ = some (.int .i64 1) := by rw [cell_of_heap bk]; rfl
  have k2 : w2.cell? ⟨w.heap.size + 1, 2, none⟩ = some (.int .i64 v.a) := by rw [cell_of_heap bk]; rfl
  have l2 := lt_of_heap bk
  have hsz : w.heap.size ≤ w2.heap.size := hB2.size
  have NF := Lib.hid (fun j (hj : foot hb lv mv j) => HLT.out j hj)
  clear hw2 be bk
  have N3 : ¬ w.heap.size + 1 = w2.heap.size := by omega
  go_cut [9] (fun v9 wx => v9 = .bool false ∧ Below w2.heap.size w2 wx)
  case first =>
    go_region_held3 (fun W => W.cell? ⟨w.heap.size + 1, 0, none⟩ = some (.int .i64 run) ∧ W.cell? ⟨w.heap.size + 1, 1, none⟩ = some (.int .i64 1) ∧ W.cell? ⟨w.heap.size + 1, 2, none⟩ = some (.int .i64 v.a)) (first | go_keep | with_reducible exact ⟨k0, k1, k2⟩ | with_reducible exact ⟨(cell_alloc_lt l2).trans k0, (cell_alloc_lt l2).trans k1, (cell_alloc_lt l2).trans k2⟩ | with_reducible exact ⟨y3, y4, y5⟩ | exact ⟨(sets5 N3).trans y3, (sets5 N3).trans y4, (sets5 N3).trans y5⟩)
      ((first
        | (go_at_call 16; refine (CT.out _ (hB2.trans (((Below.refl _ _).drew).mono hsz))).mono ?_; rintro en w3 ⟨rfl, hB3⟩; have y3 := (hB3.cell (p := ⟨w.heap.size + 1, 0, none⟩) l2).trans k0; have y4 := (hB3.cell (p := ⟨w.heap.size + 1, 1, none⟩) l2).trans k1; have y5 := (hB3.cell (p := ⟨w.heap.size + 1, 2, none⟩) l2).trans k2; have l3 : w.heap.size + 1 < w3.heap.size := Nat.lt_of_lt_of_le l2 hB3.size; have FIN := Lib.hid (fun W4 (KW : Keeps (fun j => j = w3.heap.size) w3 W4) => can_mk3 hB3 KW))
        | (go_at_call 16; refine (CT.out _ (hB2.trans ((((Below.refl _ _).alloc (Nat.le_refl _) _).drew).mono hsz))).mono ?_; rintro en w3 ⟨rfl, hB3⟩; have y3 := (hB3.cell (p := ⟨w.heap.size + 1, 0, none⟩) (by simp; omega)).trans ((cell_alloc_lt l2).trans k0); have y4 := (hB3.cell (p := ⟨w.heap.size + 1, 1, none⟩) (by simp; omega)).trans ((cell_alloc_lt l2).trans k1); have y5 := (hB3.cell (p := ⟨w.heap.size + 1, 2, none⟩) (by simp; omega)).trans ((cell_alloc_lt l2).trans k2); have bx : w3.heap[w2.heap.size]? = some (.cells #[.int .i64 0, .int .i64 0, .int .i64 0, .int .i64 0, .int .u64 0] 35 (0, 0)) := (hB3.block _ (by simp)).trans (heap_alloc_new w2 _); obtain ⟨⟨i0, i1, i2, i3, i4⟩, ⟨j0, j1, j2, j3, j4⟩, l4⟩ := bx5 bx; have FIN := Lib.hid (fun W4 (KW : Keeps (fun j => j = w2.heap.size) w3 W4) => can_mk4 hB3 KW); clear bx)))
    all_goals
      go_wp2_with fail
      go_meet
      case rel => exact ⟨rfl, FIN.out _ (by first | exact (Keeps.refl _ w3).alloc _ | exact (((((Keeps.refl (fun j => j = w2.heap.size) w3).setCell (p := ⟨w2.heap.size, 0, none⟩) (.inl rfl) _).setCell (p := ⟨w2.heap.size, 1, none⟩) (.inl rfl) _).setCell (p := ⟨w2.heap.size, 2, none⟩) (.inl rfl) _).setCell (p := ⟨w2.heap.size, 3, none⟩) (.inl rfl) _).setCell (p := ⟨w2.heap.size, 4, none⟩) (.inl rfl) _)⟩
  case rest =>
    obtain ⟨rfl, hB3⟩ := hcut
    have HB := Lib.hid (hB2.trans (hB3.mono hsz))
    clear hB3
    go_wp2_with fail
    go_ret
    exact ⟨lv, mv, s, rfl, HH.out.1.keep (Keeps.of_below HB.out) (fun _ _ f => f), HH.out.2, rfl, Keeps.of_below HB.out, fun j hj => .inl hj⟩
--]]fired_no

--[[canceled
set_option maxRecDepth 100000 in
set_option maxHeartbeats 2000000 in
theorem apply_canceled (v : Ev) (run : Int) (hb : Nat) (lv mv : Value) (T : TypeId) (s : Hp) (Z : List It) (w : World) (H : HV w hb lv mv T s) (R : Ref s Z) (h0 : 0 ≤ s.seq) (h1 : s.seq ≤ 60000) (hl : Z.length < 16384) (hk : v.kind = 13) (ha : Z.any (fun x => decide (x.key = ⟨run, 1, v.a⟩)) = true) :
    Calls Try.prog 30 #[.pointer (some ⟨hb, 0, none⟩), .int .i64 run, .agg (evCells v)] w (ApplyPost hb lv mv T (Z.filter (fun x => !decide (x.key = ⟨run, 1, v.a⟩)), s.seq, 0) w) := by
  have b0 : hb < w.heap.size := lt_of_heap H.h
  have HLT := Lib.hid (fun j (hj : foot hb lv mv j) => H.lt hj)
  obtain ⟨i, x, hx, hxk⟩ := any_key.1 ha
  obtain ⟨j, hg, hj⟩ := R.get_some hx
  rw [hxk] at hg
  obtain ⟨hTK, hTq⟩ := R.take hx hj
  rw [erase_filter R.keys hx, hxk] at hTK
  have CT := Lib.hid (fun (W : World) (K : Below w.heap.size w W) => cancel_some ⟨run, 1, v.a⟩ x j hb lv mv T s W (H.keep (Keeps.of_below K) (fun _ _ f => f)) hg hj (by rw [← R.len]; omega))
  have HT := Lib.hid (And.intro hTK hTq)
  clear hx hxk hg hj hTK hTq ha
  have t1 : (v.kind == 1) = false := by simp [hk]
  have t2 : (v.kind == 11) = false := by simp [hk]
  have t3 : (v.kind == 12) = false := by simp [hk]
  have t4 : (v.kind == 13) = true := by simp [hk]
  have hk2 : v.kind ≤ 13 := by omega
  clear hk
  clear H R h0 h1 hl
  go_enter Try.func30, Try.ntmps30
  go_wp2_with fail
  obtain ⟨w2, hw2⟩ : ∃ w2, w2 = (w.alloc (.cells (evCells v) 71)).alloc (.cells #[.int .i64 run, .int .i64 1, .int .i64 v.a] 32) := ⟨_, rfl⟩
  rw [← hw2]
  have hB2 : Below w.heap.size w w2 := by rw [hw2]; exact ((Below.refl _ _).alloc (Nat.le_refl _) _).alloc (by simp) _
  have be : w2.heap[w.heap.size]? = some (.cells (evCells v) 71 (0, 0)) := by
    rw [hw2, Below.heap_alloc _ _ _ (by simp)]; exact heap_alloc_new w _
  have bk : w2.heap[w.heap.size + 1]? = some (.cells #[.int .i64 run, .int .i64 1, .int .i64 v.a] 32 (0, 0)) := by
    rw [hw2, show w.heap.size + 1 = (w.alloc (.cells (evCells v) 71)).heap.size by simp]
    exact heap_alloc_new _ _
  obtain ⟨⟨e0, e1, e2, e3, e4, e5⟩, ⟨e6, e7, e8, e9, e10⟩, l1⟩ := box11 be
  have k0 : w2.cell? ⟨w.heap.size + 1, 0, none⟩ = some (.int .i64 run) := by rw [cell_of_heap bk]; rfl
  have k1 : w2.cell? ⟨w.heap.size + 1, 1, none⟩ = some (.int .i64 1) := by rw [cell_of_heap bk]; rfl
  have k2 : w2.cell? ⟨w.heap.size + 1, 2, none⟩ = some (.int .i64 v.a) := by rw [cell_of_heap bk]; rfl
  have l2 := lt_of_heap bk
  have hsz : w.heap.size ≤ w2.heap.size := hB2.size
  have NF := Lib.hid (fun j (hj : foot hb lv mv j) => HLT.out j hj)
  clear hw2 be bk
  have N1 : ¬ foot hb lv mv (w.heap.size + 1) := fun f => by have := NF.out _ f; omega
  have N2 : ¬ foot hb lv mv w2.heap.size := fun f => by have := NF.out _ f; omega
  have N3 : ¬ w.heap.size + 1 = w2.heap.size := by omega
  go_cut [9] (fun v9 wx => v9 = .bool true ∧ CanRel hb lv mv T (s.take j) w2 wx)
  case first =>
    go_region_held3 (fun W => W.cell? ⟨w.heap.size + 1, 0, none⟩ = some (.int .i64 run) ∧ W.cell? ⟨w.heap.size + 1, 1, none⟩ = some (.int .i64 1) ∧ W.cell? ⟨w.heap.size + 1, 2, none⟩ = some (.int .i64 v.a)) (first | go_keep | with_reducible exact ⟨k0, k1, k2⟩ | with_reducible exact ⟨(cell_alloc_lt l2).trans k0, (cell_alloc_lt l2).trans k1, (cell_alloc_lt l2).trans k2⟩ | with_reducible exact ⟨y3, y4, y5⟩ | exact ⟨(sets5 N3).trans y3, (sets5 N3).trans y4, (sets5 N3).trans y5⟩)
      ((first
        | (go_at_call 16; refine (CT.out _ (hB2.trans (((Below.refl _ _).drew).mono hsz))).mono ?_; rintro en w3 ⟨lv', rfl, hV, hK, ho⟩; have y3 := (hK.cell (p := ⟨w.heap.size + 1, 0, none⟩) l2 N1).trans k0; have y4 := (hK.cell (p := ⟨w.heap.size + 1, 1, none⟩) l2 N1).trans k1; have y5 := (hK.cell (p := ⟨w.heap.size + 1, 2, none⟩) l2 N1).trans k2; have l3 : w.heap.size + 1 < w3.heap.size := Nat.lt_of_lt_of_le l2 hK.size; have FIN := Lib.hid (fun W4 (KW : Keeps (fun j => j = w3.heap.size) w3 W4) => can_mk1 hV hK ho KW))
        | (go_at_call 16; refine (CT.out _ (hB2.trans ((((Below.refl _ _).alloc (Nat.le_refl _) _).drew).mono hsz))).mono ?_; rintro en w3 ⟨lv', rfl, hV, hK, ho⟩; have y3 := (hK.cell (p := ⟨w.heap.size + 1, 0, none⟩) (by simp; omega) N1).trans ((cell_alloc_lt l2).trans k0); have y4 := (hK.cell (p := ⟨w.heap.size + 1, 1, none⟩) (by simp; omega) N1).trans ((cell_alloc_lt l2).trans k1); have y5 := (hK.cell (p := ⟨w.heap.size + 1, 2, none⟩) (by simp; omega) N1).trans ((cell_alloc_lt l2).trans k2); have bx : w3.heap[w2.heap.size]? = some (.cells #[.int .i64 0, .int .i64 0, .int .i64 0, .int .i64 0, .int .u64 0] 35 (0, 0)) := (hK.block _ (by simp) N2).trans (heap_alloc_new w2 _); obtain ⟨⟨i0, i1, i2, i3, i4⟩, ⟨j0, j1, j2, j3, j4⟩, l4⟩ := bx5 bx; have FIN := Lib.hid (fun W4 (KW : Keeps (fun j => j = w2.heap.size) w3 W4) => can_mk2 hV hK ho KW N2); clear bx)))
    all_goals
      go_wp2_with fail
      go_meet
      case rel => exact ⟨rfl, FIN.out _ (by first | exact (Keeps.refl _ w3).alloc _ | exact (((((Keeps.refl (fun j => j = w2.heap.size) w3).setCell (p := ⟨w2.heap.size, 0, none⟩) (.inl rfl) _).setCell (p := ⟨w2.heap.size, 1, none⟩) (.inl rfl) _).setCell (p := ⟨w2.heap.size, 2, none⟩) (.inl rfl) _).setCell (p := ⟨w2.heap.size, 3, none⟩) (.inl rfl) _).setCell (p := ⟨w2.heap.size, 4, none⟩) (.inl rfl) _)⟩
  case rest =>
    obtain ⟨rfl, lv', hV, K1, ho⟩ := hcut
    have ZZ := fun (o : Nat) => K1.cell (p := ⟨w.heap.size, o, none⟩) l1 (fun f => Nat.lt_irrefl _ (NF.out _ f))
    have z0 := (ZZ 0).trans e0
    have z1 := (ZZ 1).trans e1
    have z2 := (ZZ 2).trans e2
    have z3 := (ZZ 3).trans e3
    have z4 := (ZZ 4).trans e4
    have z5 := (ZZ 5).trans e5
    have z6 := (ZZ 6).trans e6
    have z7 := (ZZ 7).trans e7
    have z8 := (ZZ 8).trans e8
    have z9 := (ZZ 9).trans e9
    have z10 := (ZZ 10).trans e10
    have l3' : w.heap.size < wc.heap.size := Nat.lt_of_lt_of_le l1 K1.size
    have HR3 := Lib.hid (And.intro hV (And.intro K1 ho))
    clear ZZ hV K1 ho e0 e1 e2 e3 e4 e5 e6 e7 e8 e9 e10 k0 k1 k2
    go_wp2_with (go_at_call 49; refine (closes_no v _ (by omega)).mono ?_; rintro e w5 ⟨rfl, hB5⟩)
    go_ret
    exact apply_old hsz hB2 ⟨lv', mv, s.take j, rfl, HR3.out.1.keep (Keeps.of_below hB5) (fun _ _ f => f), HT.out.1, HT.out.2, HR3.out.2.1.comp (Keeps.of_below hB5), fun jj hj => (take_foot (w := w2) (w2 := wc) HR3.out.2.2 jj hj).imp id (fun h => ⟨h.1, Nat.lt_of_lt_of_le h.2 hB5.size⟩)⟩
--]]canceled

--[[canceled_no
set_option maxRecDepth 100000 in
set_option maxHeartbeats 2000000 in
theorem apply_canceled_no (v : Ev) (run : Int) (hb : Nat) (lv mv : Value) (T : TypeId) (s : Hp) (Z : List It) (w : World) (H : HV w hb lv mv T s) (R : Ref s Z) (h0 : 0 ≤ s.seq) (h1 : s.seq ≤ 60000) (hl : Z.length < 16384) (hk : v.kind = 13) (ha : ¬ Z.any (fun x => decide (x.key = ⟨run, 1, v.a⟩)) = true) :
    Calls Try.prog 30 #[.pointer (some ⟨hb, 0, none⟩), .int .i64 run, .agg (evCells v)] w (ApplyPost hb lv mv T (Z, s.seq, 4) w) := by
  have b0 : hb < w.heap.size := lt_of_heap H.h
  have HLT := Lib.hid (fun j (hj : foot hb lv mv j) => H.lt hj)
  have hg := R.nokey ha
  have CT := Lib.hid (fun (W : World) (K : Below w.heap.size w W) => cancel_none ⟨run, 1, v.a⟩ hb lv mv T s W (H.keep (Keeps.of_below K) (fun _ _ f => f)) hg)
  have HH := Lib.hid (And.intro H R)
  clear hg ha
  have t1 : (v.kind == 1) = false := by simp [hk]
  have t2 : (v.kind == 11) = false := by simp [hk]
  have t3 : (v.kind == 12) = false := by simp [hk]
  have t4 : (v.kind == 13) = true := by simp [hk]
  have hk2 : v.kind ≤ 13 := by omega
  clear hk
  clear H R h0 h1 hl
  go_enter Try.func30, Try.ntmps30
  go_wp2_with fail
  obtain ⟨w2, hw2⟩ : ∃ w2, w2 = (w.alloc (.cells (evCells v) 71)).alloc (.cells #[.int .i64 run, .int .i64 1, .int .i64 v.a] 32) := ⟨_, rfl⟩
  rw [← hw2]
  have hB2 : Below w.heap.size w w2 := by rw [hw2]; exact ((Below.refl _ _).alloc (Nat.le_refl _) _).alloc (by simp) _
  have be : w2.heap[w.heap.size]? = some (.cells (evCells v) 71 (0, 0)) := by
    rw [hw2, Below.heap_alloc _ _ _ (by simp)]; exact heap_alloc_new w _
  have bk : w2.heap[w.heap.size + 1]? = some (.cells #[.int .i64 run, .int .i64 1, .int .i64 v.a] 32 (0, 0)) := by
    rw [hw2, show w.heap.size + 1 = (w.alloc (.cells (evCells v) 71)).heap.size by simp]
    exact heap_alloc_new _ _
  obtain ⟨⟨e0, e1, e2, e3, e4, e5⟩, ⟨e6, e7, e8, e9, e10⟩, l1⟩ := box11 be
  have k0 : w2.cell? ⟨w.heap.size + 1, 0, none⟩ = some (.int .i64 run) := by rw [cell_of_heap bk]; rfl
  have k1 : w2.cell? ⟨w.heap.size + 1, 1, none⟩ = some (.int .i64 1) := by rw [cell_of_heap bk]; rfl
  have k2 : w2.cell? ⟨w.heap.size + 1, 2, none⟩ = some (.int .i64 v.a) := by rw [cell_of_heap bk]; rfl
  have l2 := lt_of_heap bk
  have hsz : w.heap.size ≤ w2.heap.size := hB2.size
  have NF := Lib.hid (fun j (hj : foot hb lv mv j) => HLT.out j hj)
  clear hw2 be bk
  have N3 : ¬ w.heap.size + 1 = w2.heap.size := by omega
  go_cut [9] (fun v9 wx => v9 = .bool false ∧ Below w2.heap.size w2 wx)
  case first =>
    go_region_held3 (fun W => W.cell? ⟨w.heap.size + 1, 0, none⟩ = some (.int .i64 run) ∧ W.cell? ⟨w.heap.size + 1, 1, none⟩ = some (.int .i64 1) ∧ W.cell? ⟨w.heap.size + 1, 2, none⟩ = some (.int .i64 v.a)) (first | go_keep | with_reducible exact ⟨k0, k1, k2⟩ | with_reducible exact ⟨(cell_alloc_lt l2).trans k0, (cell_alloc_lt l2).trans k1, (cell_alloc_lt l2).trans k2⟩ | with_reducible exact ⟨y3, y4, y5⟩ | exact ⟨(sets5 N3).trans y3, (sets5 N3).trans y4, (sets5 N3).trans y5⟩)
      ((first
        | (go_at_call 16; refine (CT.out _ (hB2.trans (((Below.refl _ _).drew).mono hsz))).mono ?_; rintro en w3 ⟨rfl, hB3⟩; have y3 := (hB3.cell (p := ⟨w.heap.size + 1, 0, none⟩) l2).trans k0; have y4 := (hB3.cell (p := ⟨w.heap.size + 1, 1, none⟩) l2).trans k1; have y5 := (hB3.cell (p := ⟨w.heap.size + 1, 2, none⟩) l2).trans k2; have l3 : w.heap.size + 1 < w3.heap.size := Nat.lt_of_lt_of_le l2 hB3.size; have FIN := Lib.hid (fun W4 (KW : Keeps (fun j => j = w3.heap.size) w3 W4) => can_mk3 hB3 KW))
        | (go_at_call 16; refine (CT.out _ (hB2.trans ((((Below.refl _ _).alloc (Nat.le_refl _) _).drew).mono hsz))).mono ?_; rintro en w3 ⟨rfl, hB3⟩; have y3 := (hB3.cell (p := ⟨w.heap.size + 1, 0, none⟩) (by simp; omega)).trans ((cell_alloc_lt l2).trans k0); have y4 := (hB3.cell (p := ⟨w.heap.size + 1, 1, none⟩) (by simp; omega)).trans ((cell_alloc_lt l2).trans k1); have y5 := (hB3.cell (p := ⟨w.heap.size + 1, 2, none⟩) (by simp; omega)).trans ((cell_alloc_lt l2).trans k2); have bx : w3.heap[w2.heap.size]? = some (.cells #[.int .i64 0, .int .i64 0, .int .i64 0, .int .i64 0, .int .u64 0] 35 (0, 0)) := (hB3.block _ (by simp)).trans (heap_alloc_new w2 _); obtain ⟨⟨i0, i1, i2, i3, i4⟩, ⟨j0, j1, j2, j3, j4⟩, l4⟩ := bx5 bx; have FIN := Lib.hid (fun W4 (KW : Keeps (fun j => j = w2.heap.size) w3 W4) => can_mk4 hB3 KW); clear bx)))
    all_goals
      go_wp2_with fail
      go_meet
      case rel => exact ⟨rfl, FIN.out _ (by first | exact (Keeps.refl _ w3).alloc _ | exact (((((Keeps.refl (fun j => j = w2.heap.size) w3).setCell (p := ⟨w2.heap.size, 0, none⟩) (.inl rfl) _).setCell (p := ⟨w2.heap.size, 1, none⟩) (.inl rfl) _).setCell (p := ⟨w2.heap.size, 2, none⟩) (.inl rfl) _).setCell (p := ⟨w2.heap.size, 3, none⟩) (.inl rfl) _).setCell (p := ⟨w2.heap.size, 4, none⟩) (.inl rfl) _)⟩
  case rest =>
    obtain ⟨rfl, hB3⟩ := hcut
    have HB := Lib.hid (hB2.trans (hB3.mono hsz))
    clear hB3
    go_wp2_with fail
    go_ret
    exact ⟨lv, mv, s, rfl, HH.out.1.keep (Keeps.of_below HB.out) (fun _ _ f => f), HH.out.2, rfl, Keeps.of_below HB.out, fun j hj => .inl hj⟩
--]]canceled_no

/-- Apply, whatever the event. -/
theorem apply_any (v : Ev) (run : Int) (hb : Nat) (lv mv : Value) (T : TypeId) (s : Hp) (Z : List It) (w : World) (H : HV w hb lv mv T s) (R : Ref s Z) (h0 : 0 ≤ s.seq) (h1 : s.seq ≤ 60000) (hl : Z.length < 16384) :
    Calls Try.prog 30 #[.pointer (some ⟨hb, 0, none⟩), .int .i64 run, .agg (evCells v)] w (ApplyPost hb lv mv T (applyZ s.seq Z run v) w) := by
  unfold applyZ
  by_cases g1 : v.kind = 1
  · rw [if_pos g1]
    by_cases ga : 0 < v.a
    · rw [if_pos ga]; exact apply_start v run hb lv mv T s Z w H R h0 h1 hl g1 ga
    · rw [if_neg ga]; exact apply_none v run hb lv mv T s Z w H R h0 h1 hl g1 ga
  · rw [if_neg g1]
    by_cases g2 : v.kind = 11
    · rw [if_pos g2]; exact apply_timer v run hb lv mv T s Z w H R h0 h1 hl g2
    · rw [if_neg g2]
      by_cases g3 : v.kind = 12 ∨ v.kind = 13
      · rw [if_pos g3]
        unfold cancelZ
        by_cases ha : Z.any (fun x => decide (x.key = ⟨run, 1, v.a⟩)) = true
        · rw [if_pos ha]
          rcases g3 with g3 | g3
          · exact apply_fired v run hb lv mv T s Z w H R h0 h1 hl g3 ha
          · exact apply_canceled v run hb lv mv T s Z w H R h0 h1 hl g3 ha
        · rw [if_neg ha]
          rcases g3 with g3 | g3
          · exact apply_fired_no v run hb lv mv T s Z w H R h0 h1 hl g3 ha
          · exact apply_canceled_no v run hb lv mv T s Z w H R h0 h1 hl g3 ha
      · rw [if_neg g3]
        by_cases g4 : 16 ≤ v.kind ∧ v.kind ≤ 21
        · rw [if_pos g4]; exact apply_close v run hb lv mv T s Z w H R h0 h1 hl g4.1 g4.2
        · rw [if_neg g4]; exact apply_other v run hb lv mv T s Z w H R h0 h1 hl g1 g2 (fun h => g3 (.inl h)) (fun h => g3 (.inr h)) g4
end Go.Proofs.Ytkhphnidopbjjaa
