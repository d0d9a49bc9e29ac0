/- The law's own functions, walked: apply. -/
import Derived.Test.YtkhphnidopbjjaaT4
namespace Go.Proofs.Ytkhphnidopbjjaa
open Go.RowKit Go.Own Go.Own.MapTy Go.Hm
open Go.Own.Cells (sz enc)
abbrev stCells (run : Int) (v : Ev) : Array Value := #[.int .i64 run, .int .i64 v.id, .int .i64 v.time, .int .i64 v.kind, .int .i64 v.a, .int .i64 v.b, .string v.nm, .string v.tx, .int .i64 v.vk, .int .i64 v.vn, .string v.vs, .slice v.la v.ln v.lc]
/-- what apply leaves -/
def ApPost (w : World) (lv : Value) (r : List Th × Int) (e : Ending) (w' : World) : Prop := ∃ v', e = .returned (.tuple #[v', .int .i64 r.2]) ∧ RowAt w' 110 v' r.1 ∧ Below w.heap.size w w' ∧ ∀ g, v'.ownBlock = some g → lv.ownBlock = some g ∨ w.heap.size ≤ g
theorem box4 {W : World} {b : Nat} {c0 c1 c2 c3 : Value} {T : TypeId} (h : W.heap[b]? = some (.cells #[c0, c1, c2, c3] T (0, 0))) :
    W.cell? ⟨b, 0, none⟩ = some c0 ∧ W.cell? ⟨b, 1, none⟩ = some c1 ∧ W.cell? ⟨b, 2, none⟩ = some c2 ∧ W.cell? ⟨b, 3, none⟩ = some c3 ∧ b < W.heap.size := by
  refine ⟨?_, ?_, ?_, ?_, lt_of_heap h⟩
  all_goals (rw [cell_of_heap h]; rfl)
abbrev thObj (x : Th) : Obj := .cells #[.int .i64 x.run, .int .i64 x.kind, .int .i64 x.id, .int .i64 x.due] 110 (0, 0)
/-- before the thing is looked for -/
def ApHead (w : World) (x : Th) (wx : World) : Prop := wx.heap[w.heap.size + 2]? = some (thObj x) ∧ Below w.heap.size w wx
theorem apHead_mk {w : World} {X Y : Obj} {x : Th} : ApHead w x (((w.alloc X).alloc Y).alloc (thObj x)) :=
  ⟨by rw [show w.heap.size + 2 = ((w.alloc X).alloc Y).heap.size by simp]; exact heap_alloc_new _ _, (((Below.refl _ _).alloc (Nat.le_refl _) _).alloc (by simp) _).alloc (by simp; omega) _⟩
--[[none1
set_option maxRecDepth 100000 in
set_option maxHeartbeats 2000000 in
theorem ap_none (v : Ev) (run : Int) (lv : Value) (l : List Th) (w : World) (H : RowAt w 110 lv l) (hk : v.kind = 1) (ha : ¬ 0 < v.a) :
    Calls Try.prog 31 #[lv, .agg (stCells run v)] w (ApPost w lv (l, 0)) := by
  obtain ⟨ad, cap, rfl⟩ := H.slice
  have t1 : (v.kind == 1) = true := by simp [hk]
  have HR := Lib.hid H
  clear H hk
  go_enter Try.func31, Try.ntmps31
  go_wp2_with fail
  go_ret2
  have hB := (@apHead_mk w (.cells (stCells run v) 73) (.cells (evCells v) 71) ⟨run, 1, v.a, v.b⟩).2
  exact ⟨_, rfl, HR.out.below hB, hB, fun _ h => .inl h⟩
--]]none1
--[[other
set_option maxRecDepth 100000 in
set_option maxHeartbeats 2000000 in
theorem ap_other (v : Ev) (run : Int) (lv : Value) (l : List Th) (w : World) (H : RowAt w 110 lv l) (g1 : v.kind ≠ 1) (g2 : v.kind ≠ 11) (g3 : v.kind ≠ 12) (g4 : v.kind ≠ 13) (g5 : ¬ (16 ≤ v.kind ∧ v.kind ≤ 21)) :
    Calls Try.prog 31 #[lv, .agg (stCells run v)] w (ApPost w lv (l, 0)) := by
  obtain ⟨ad, cap, rfl⟩ := H.slice
  have t1 : (v.kind == 1) = false := by simp [g1]
  have t2 : (v.kind == 11) = false := by simp [g2]
  have t3 : (v.kind == 12) = false := by simp [g3]
  have t4 : (v.kind == 13) = false := by simp [g4]
  have HR := Lib.hid H
  have G5 := Lib.hid g5
  clear H g1 g2 g3 g4 g5
  go_enter Try.func31, Try.ntmps31
  go_wp2_with (go_at_call 49; refine (closes_no v _ G5.out).mono ?_; rintro e w3 ⟨rfl, hB3⟩)
  go_ret2
  have hB := (@apHead_mk w (.cells (stCells run v) 73) (.cells (evCells v) 71) ⟨run, 1, v.a, v.b⟩).2
  have hB4 := hB.trans (hB3.mono hB.size)
  exact ⟨_, rfl, HR.out.below hB4, hB4, fun _ h => .inl h⟩
--]]other
/-- between two rounds, where a run is over -/
def ClRel (w : World) (v : Ev) (run : Int) (l : List Th) (v30 v9 : Value) (wr : World) : Prop :=
  ∃ k : Nat, v30 = .int .i64 k ∧ k ≤ l.length ∧ RowAt wr 110 v9 ((l.take k).filter (fun y => !(y.run == run))) ∧ Below w.heap.size w wr ∧ (∀ g, v9.ownBlock = some g → w.heap.size + 3 ≤ g) ∧ wr.heap[w.heap.size]? = some (.cells (stCells run v) 73 (0, 0))
--[[close
set_option maxRecDepth 100000 in
set_option maxHeartbeats 4000000 in
theorem ap_close (v : Ev) (run : Int) (lv : Value) (l : List Th) (w : World) (H : RowAt w 110 lv l) (hn : l.length ≤ 100) (hk : 16 ≤ v.kind) (hk2 : v.kind ≤ 21) :
    Calls Try.prog 31 #[lv, .agg (stCells run v)] w (ApPost w lv (l.filter (fun y => !(y.run == run)), 0)) := by
  obtain ⟨ad, cap, rfl⟩ := H.slice
  have t1 : (v.kind == 1) = false := by rw [beq_eq_false_iff_ne]; omega
  have t2 : (v.kind == 11) = false := by rw [beq_eq_false_iff_ne]; omega
  have t3 : (v.kind == 12) = false := by rw [beq_eq_false_iff_ne]; omega
  have t4 : (v.kind == 13) = false := by rw [beq_eq_false_iff_ne]; omega
  have HR := Lib.hid H
  clear H
  go_enter Try.func31, Try.ntmps31
  go_wp2_with (go_at_call 49; refine (closes_yes v _ hk hk2).mono ?_; rintro e w3 ⟨rfl, hB3⟩)
  have hB := (@apHead_mk w (.cells (stCells run v) 73) (.cells (evCells v) 71) ⟨run, 1, v.a, v.b⟩).2
  have hB4 := Lib.hid (hB.trans (hB3.mono hB.size))
  have hs3 := hB3.size
  simp only [World.size_alloc] at hs3
  have hst : Hid (w3.heap[w.heap.size]? = some (.cells (stCells run v) 73 (0, 0))) := (hB3.block _ (by simp; omega)).trans ((Below.heap_alloc _ _ _ (by simp; omega)).trans ((Below.heap_alloc _ _ _ (by simp)).trans (heap_alloc_new w _)))
  clear hB hB3
  go_loopw [30, 9] (fun v30 v9 wr => ClRel w v run l v30 v9 wr) (fun v30 _ _ => l.length - (intOf v30).toNat)
  case atStart => exact ⟨0, rfl, Nat.zero_le _, RowAt.nil _ _, hB4.out, fun g h => by simp [Value.ownBlock] at h, hst.out⟩
  case round =>
    obtain ⟨k, rfl, hkl, hF, hB, hf, bs⟩ := hrel
    have hb := hB.size
    have l0 := lt_of_heap bs
    have s0 : wr.cell? ⟨w.heap.size, 0, none⟩ = some (.int .i64 run) := by rw [cell_of_heap bs]; rfl
    have hfl : ((l.take k).filter (fun y => !(y.run == run))).length ≤ 100 := by
      have := List.length_filter_le (fun y : Th => !(y.run == run)) (l.take k)
      rw [List.length_take] at this
      omega
    by_cases hkn : k < l.length
    · obtain ⟨x, hx⟩ := elem_at hkn
      have hR := HR.out.below hB
      obtain ⟨g, off, rfl, hgl⟩ := hR.addr hx
      obtain ⟨x0, x1, x2, x3⟩ := row_th hR hx
      have hgw := HR.out.lt (g := g) rfl
      have ht : l.take (k + 1) = l.take k ++ [x] := by rw [List.take_add_one, hx]; rfl
      have hk0 : (0 : Int) ≤ (k : Int) := by omega
      have hk1 : (k : Int) < (l.length : Int) := by omega
      clear hx hR
      by_cases e1 : x.run = run
      · have t5 : (x.run == run) = true := by simp [e1]
        have hF' : (l.take (k + 1)).filter (fun y => !(y.run == run)) = (l.take k).filter (fun y => !(y.run == run)) := by rw [ht, List.filter_append]; simp [e1]
        have HH := Lib.hid (And.intro hF (And.intro hB (And.intro hf (And.intro bs hF'))))
        clear hF hB hf bs hF' ht e1
        go_wp2_with fail
        go_roundw
        case rel => exact ⟨k + 1, by simp, hkn, by rw [HH.out.2.2.2.2]; exact HH.out.1.alloc _, HH.out.2.1.alloc hb _, HH.out.2.2.1, by rw [Below.heap_alloc _ _ _ l0]; exact HH.out.2.2.2.1⟩
        case measure => simp [intOf]; omega
      · have t5 : (x.run == run) = false := by simp [e1]
        have hF' : (l.take (k + 1)).filter (fun y => !(y.run == run)) = (l.take k).filter (fun y => !(y.run == run)) ++ [x] := by rw [ht, List.filter_append]; simp [e1]
        obtain ⟨out, ho⟩ : ∃ out, out = (l.take k).filter (fun y => !(y.run == run)) := ⟨_, rfl⟩
        rw [← ho] at hF hfl hF'
        obtain ⟨a9, p9, rfl⟩ := hF.slice
        have HH := Lib.hid (And.intro hF (And.intro hB (And.intro hf (And.intro bs hF'))))
        clear hF hB hf bs hF' ht e1 ho
        go_wp2_with (at_builtin; refine wp_appW (α := Th) elemTh rfl (.tmp 39) (.tmp 41) rfl ((HH.out.1.alloc _).alloc _) x rfl rfl (Go.Own.heap_new2) (by omega) (by unfold maxLen; omega) ?_; intro a1 q1 w4 hr4 hk4 hf4)
        go_roundw
        case rel =>
          have hk5 : Keeps (fun j => (Value.slice a9 out.length p9).ownBlock = some j) wr w4 := (((Keeps.refl _ wr).alloc _).alloc _).comp hk4
          refine ⟨k + 1, by simp, hkn, by rw [HH.out.2.2.2.2]; exact hr4, HH.out.2.1.trans (hk5.below hb (fun j hj h => by have := HH.out.2.2.1 j h; omega)), fun g' hg' => ?_, (hk5.block _ l0 (fun h => by have := HH.out.2.2.1 _ h; omega)).trans HH.out.2.2.2.1⟩
          rcases hf4 g' hg' with h | h
          · exact HH.out.2.2.1 g' h
          · simp at h
            have : w.heap.size + 3 ≤ wr.heap.size + 2 := by omega
            omega
        case measure => simp [intOf]; omega
    · obtain rfl : k = l.length := by omega
      rw [List.take_length] at hF
      obtain ⟨a9, p9, rfl⟩ := hF.slice
      have HH := Lib.hid (And.intro hF (And.intro hB hf))
      clear hF hB hf bs
      go_wp2_with fail
      go_ret2
      exact ⟨_, rfl, HH.out.1, HH.out.2.1, fun g h => .inr (by have := HH.out.2.2 g h; omega)⟩
--]]close
theorem eraseL {l : List Th} {i : Nat} {x : Th} (hs : l.Pairwise (fun a b => bef a b = true)) (hk : (l.map Th.key).Nodup) (hx : l[i]? = some x) : l.take i ++ l.drop (i + 1) = l.filter (fun y => !decide (y.key = x.key)) :=
  eraseT_filter (hs.and (List.pairwise_map.1 hk)) hx
--[[gone_no
set_option maxRecDepth 100000 in
set_option maxHeartbeats 4000000 in
theorem ap_gone_no (v : Ev) (run : Int) (lv : Value) (l : List Th) (w : World) (H : RowAt w 110 lv l) (hn : l.length ≤ 100) (hk : v.kind = 12 ∨ v.kind = 13) (ha : l.any (fun y => decide (y.key = ⟨run, 1, v.a⟩)) = false) :
    Calls Try.prog 31 #[lv, .agg (stCells run v)] w (ApPost w lv (l, 4)) := by
  obtain ⟨ad, cap, rfl⟩ := H.slice
  have t1 : (v.kind == 1) = false := by rw [beq_eq_false_iff_ne]; omega
  have FT := Lib.hid (fun (W : World) (K : Below w.heap.size w W) => idxT_neg ha (k := 0) ▸ find_th run 1 v.a _ l W (H.below K) hn)
  have HR := Lib.hid H
  have hB := (@apHead_mk w (.cells (stCells run v) 73) (.cells (evCells v) 71) ⟨run, 1, v.a, v.b⟩).2
  clear H ha
  rcases hk with hk | hk
  · have t2 : (v.kind == 12) = true := by simp [hk]
    clear hk
    go_enter Try.func31, Try.ntmps31
    go_wp2_with fail
    refine (FT.out _ hB).mono ?_
    rintro e w3 ⟨rfl, hB3⟩
    go_wp2_with fail
    go_ret2
    exact ⟨_, rfl, HR.out.below (hB.trans (hB3.mono hB.size)), hB.trans (hB3.mono hB.size), fun _ h => .inl h⟩
  · have t2 : (v.kind == 12) = false := by simp [hk]
    have t3 : (v.kind == 13) = true := by simp [hk]
    clear hk
    go_enter Try.func31, Try.ntmps31
    go_wp2_with fail
    refine (FT.out _ hB).mono ?_
    rintro e w3 ⟨rfl, hB3⟩
    go_wp2_with fail
    go_ret2
    exact ⟨_, rfl, HR.out.below (hB.trans (hB3.mono hB.size)), hB.trans (hB3.mono hB.size), fun _ h => .inl h⟩
--]]gone_no
--[[gone
set_option maxRecDepth 100000 in
set_option maxHeartbeats 8000000 in
theorem ap_gone (v : Ev) (run : Int) (lv : Value) (l : List Th) (w : World) (H : RowAt w 110 lv l) (hn : l.length ≤ 100) (hs : l.Pairwise (fun a b => bef a b = true)) (hnd : (l.map Th.key).Nodup) (hk : v.kind = 12 ∨ v.kind = 13) (ha : l.any (fun y => decide (y.key = ⟨run, 1, v.a⟩)) = true) :
    Calls Try.prog 31 #[lv, .agg (stCells run v)] w (ApPost w lv (l.filter (fun y => !decide (y.key = ⟨run, 1, v.a⟩)), 0)) := by
  obtain ⟨ad, cap, rfl⟩ := H.slice
  have t1 : (v.kind == 1) = false := by rw [beq_eq_false_iff_ne]; omega
  obtain ⟨i, x, h1, hx, hxk⟩ := idxT_pos ha (k := 0)
  rw [Nat.zero_add] at h1
  have hil := (List.getElem?_eq_some_iff.1 hx).1
  have FT := Lib.hid (fun (W : World) (K : Below w.heap.size w W) => h1 ▸ find_th run 1 v.a _ l W (H.below K) hn)
  have HE := Lib.hid (eraseL hs hnd hx)
  have HK := Lib.hid hxk
  obtain ⟨c1, r1⟩ := cut_to elemTh H (k := i) (by omega)
  obtain ⟨ad2, c2, r2⟩ := cut_from elemTh H (k := i + 1) (by omega)
  have e1 : ((i + 1 : Nat) : Int) = (i : Int) + 1 := rfl
  rw [e1] at c2
  have HR := Lib.hid (And.intro H (And.intro r1 r2))
  have hB := (@apHead_mk w (.cells (stCells run v) 73) (.cells (evCells v) 71) ⟨run, 1, v.a, v.b⟩).2
  have hi0 : (0 : Int) ≤ (i : Int) := by omega
  have hi1 : (i : Int) + 1 ≤ 100 := by omega
  have hit : (l.take i).length = i := by rw [List.length_take]; omega
  have hid2 : (l.drop (i + 1)).length = l.length - (i + 1) := by rw [List.length_drop]
  have hw : IntKind.i64.wrap ((i : Int) + 1) = (i : Int) + 1 := IntWalk.i64_in _ (by omega)
  clear H ha hs hnd h1 hx hxk r1 r2 e1
  have go : ∀ w3 : World, Below w.heap.size w w3 → RowAt w3 110 (.slice ad i cap) (l.take i) ∧ RowAt w3 110 (.slice ad2 (l.length - (i + 1)) (cap - (i + 1))) (l.drop (i + 1)) := fun w3 h => ⟨HR.out.2.1.below h, HR.out.2.2.below h⟩
  have GO := Lib.hid go
  clear go
  have tt : (v.kind == 12) = true ∨ ((v.kind == 12) = false ∧ (v.kind == 13) = true) := by
    rcases hk with hk | hk
    · exact .inl (by simp [hk])
    · exact .inr ⟨by simp [hk], by simp [hk]⟩
  clear hk
  rcases tt with t2 | ⟨t2, t3⟩
  all_goals
    go_enter Try.func31, Try.ntmps31
    go_wp2_with fail
    refine (FT.out _ hB).mono ?_
    rintro e w3 ⟨rfl, hB3⟩
    have HB4 := Lib.hid (hB.trans (hB3.mono hB.size))
    clear hB hB3
    go_wp2_with fail
    go_region_held3 (fun _ => True) (exact trivial)
      ((first
        | (refine step_apps (o := ⟨some 86, _, _, _, _, _⟩) elemTh (by rfl) (.tmp 82) (.tmp 85) (by rfl) (by rfl) (by rfl) (RowAt.none_ (heap_alloc_new _ _)) (((GO.out _ HB4.out).1.drew).alloc _) (by simp; omega) (by unfold maxLen; simp; omega) i (by simp [hit]) ?_; intro a5 q5 w5 hr5 hk5 hf5; have K5 : Keeps (fun _ => False) w3 w5 := (((Keeps.refl _ w3).drew).alloc _).trans hk5 (fun j hj e => by simp [Value.ownBlock] at e; omega); have F5 : ∀ g, (Value.slice a5 i q5).ownBlock = some g → w3.heap.size ≤ g := own_new hf5 (Nat.le_refl _) (by simp))
        | (refine step_apps (o := ⟨some 91, _, _, _, _, _⟩) elemTh (by rfl) (.tmp 86) (.tmp 90) (by rfl) (by rfl) (by rfl) hr5 ((GO.out _ HB4.out).2.keep K5 (fun _ _ f => f)) (by simp; omega) (by unfold maxLen; simp; omega) (i + (l.length - (i + 1))) (by simp [hit, hid2]) ?_; intro a6 q6 w6 hr6 hk6 hf6; have K6 : Keeps (fun _ => False) w3 w6 := K5.trans hk6 (fun j hj e => by have := F5 j e; omega))))
    go_wp2_with fail
    go_ret2
    rw [List.nil_append, HE.out, HK.out] at hr6
    exact ⟨_, rfl, hr6, HB4.out.trans (K6.below_of.mono HB4.out.size), fun g h => .inr (Nat.le_trans HB4.out.size ((hf6 g h).elim (F5 g) (Nat.le_trans K5.size)))⟩
--]]gone
theorem satI_neg {n t : Int} (h : n < 0) : satI n t = 0 := by unfold satI; rw [if_pos (.inl h)]
theorem satI_in {n t : Int} (h : ¬ n < 0) (ht : 0 < t) (h2 : t ≤ 4611686018427387903 - n) : satI n t = n + t := by unfold satI; rw [if_neg (by omega), if_neg (by omega)]
theorem satI_max {n t : Int} (h : ¬ n < 0) (ht : 0 < t) (h2 : ¬ t ≤ 4611686018427387903 - n) : satI n t = 4611686018427387903 := by unfold satI; rw [if_neg (by omega), if_pos (by omega)]
--[[put
set_option maxRecDepth 100000 in
set_option maxHeartbeats 16000000 in
theorem ap_put (v : Ev) (run : Int) (x : Th) (lv : Value) (l : List Th) (w : World) (H : RowAt w 110 lv l) (hn : l.length ≤ 100) (hvt : v.time ≤ 9223372036854775807)
    (hx : (v.kind = 11 ∧ x = ⟨run, 1, v.a, v.b⟩) ∨ (v.kind = 1 ∧ 0 < v.a ∧ x = ⟨run, 2, 0, satI v.time v.a⟩)) :
    Calls Try.prog 31 #[lv, .agg (stCells run v)] w (ApPost w lv (putL l x)) := by
  obtain ⟨ad, cap, rfl⟩ := H.slice
  have HR := Lib.hid H
  have HX := Lib.hid hx
  clear H hx
  go_enter Try.func31, Try.ntmps31
  go_upto_block 0 with (fail)
  go_cut [] (fun wx => ApHead w x wx)
  case first =>
    --[[head
    rcases HX.out with ⟨hk, rfl⟩ | ⟨hk, ha, rfl⟩
    · have t1 : (v.kind == 1) = false := by simp [hk]
      have t2 : (v.kind == 12) = false := by simp [hk]
      have t3 : (v.kind == 13) = false := by simp [hk]
      have t4 : (v.kind == 11) = true := by simp [hk]
      clear hk
      go_wp2_with fail
      go_meet
      case rel => exact apHead_mk
    · have t1 : (v.kind == 1) = true := by simp [hk]
      have t0 : ¬ v.a ≤ 0 := by omega
      clear hk
      by_cases h1 : v.time < 0
      · have HS := Lib.hid (satI_neg (t := v.a) h1)
        go_wp2_with fail
        go_meet
        case rel => rw [HS.out]; exact apHead_mk
      · have h1' : 0 ≤ v.time := by omega
        by_cases h2 : v.a ≤ 4611686018427387903 - v.time
        · have HS := Lib.hid (satI_in h1 ha h2)
          go_wp2_with fail
          go_meet
          case rel => rw [HS.out]; exact apHead_mk
        · have HS := Lib.hid (satI_max h1 ha h2)
          go_wp2_with fail
          go_meet
          case rel => rw [HS.out]; exact apHead_mk
    --]]head
  case rest =>
    obtain ⟨bx, hB⟩ := hcut
    obtain ⟨x0, x1, x2, x3, l0⟩ := box4 bx
    cases ha : l.any (fun y => decide (y.key = x.key)) with
    | true =>
      --[[there
      obtain ⟨i, y, h1, _, _⟩ := idxT_pos ha (k := 0)
      rw [Nat.zero_add] at h1
      have FT := Lib.hid (show Calls Try.prog 34 #[.slice ad l.length cap, .int .i64 x.run, .int .i64 x.kind, .int .i64 x.id] wc fun e w' => e = .returned (.int .i64 i) ∧ Below wc.heap.size wc w' from h1 ▸ find_th x.run x.kind x.id _ l wc (HR.out.below hB) hn)
      have hi0 : (0 : Int) ≤ (i : Int) := by omega
      have HB := Lib.hid hB
      have HP := Lib.hid (show putL l x = (l, 5) by unfold putL; rw [if_pos ha])
      clear hB bx h1 ha
      go_wp2_with fail
      refine FT.out.mono ?_
      rintro e w3 ⟨rfl, hB3⟩
      go_wp2_with fail
      go_ret2
      have hB4 := HB.out.trans (hB3.mono HB.out.size)
      rw [HP.out]
      exact ⟨_, rfl, HR.out.below hB4, hB4, fun _ h => .inl h⟩
      --]]there
    | false =>
      have FT := Lib.hid (show Calls Try.prog 34 #[.slice ad l.length cap, .int .i64 x.run, .int .i64 x.kind, .int .i64 x.id] wc fun e w' => e = .returned (.int .i64 (-1)) ∧ Below wc.heap.size wc w' from idxT_neg (key := x.key) ha (k := 0) ▸ find_th x.run x.kind x.id _ l wc (HR.out.below hB) hn)
      have HP := Lib.hid (show putL l x = (insT x l, 0) by unfold putL; rw [if_neg (by rw [ha]; simp)])
      have HB := Lib.hid (And.intro bx hB)
      clear hB bx ha
      go_wp2_with fail
      refine FT.out.mono ?_
      rintro e w3 ⟨rfl, hB3⟩
      have hA3 : ApHead w x w3 := ⟨(hB3.block _ l0).trans HB.out.1, HB.out.2.trans (hB3.mono HB.out.2.size)⟩
      have HA3 := Lib.hid hA3
      clear hA3 hB3 x0 x1 x2 x3 l0 HB FT
      go_upto_block 3 with (fail)
      go_cut [12] (fun v12 wx => v12 = .int .i64 (befN x l) ∧ ApHead w x wx)
      case first =>
        --[[loop
        go_wp2_with fail
        go_loopw [12] (fun v12 wr => ∃ k : Nat, v12 = .int .i64 k ∧ k ≤ befN x l ∧ ApHead w x wr) (fun v _ => befN x l - (intOf v).toNat)
        case atStart => exact ⟨0, rfl, Nat.zero_le _, HA3.out⟩
        case round =>
          obtain ⟨k, rfl, hk, hA⟩ := hrel
          have hbl := befN_le x l
          obtain ⟨x0, x1, x2, x3, l0⟩ := box4 hA.1
          have HA := Lib.hid hA
          clear hA
          have hk0 : (0 : Int) ≤ (k : Int) := by omega
          by_cases hkb : k < befN x l
          · have hkn : k < l.length := by omega
            obtain ⟨y, hy⟩ := elem_at hkn
            have hR := HR.out.below HA.out.2
            obtain ⟨g, off, rfl, hgl⟩ := hR.addr hy
            obtain ⟨y0, y1, y2, y3⟩ := row_th hR hy
            have BF := Lib.hid (fun W => before_any y x true (befN_lt x l k y hkb hy) W)
            have hk1 : (k : Int) < (l.length : Int) := by omega
            have hd : decide ((k : Int) < (l.length : Int)) = true := by simpa using hkn
            clear hy hR
            go_wp2_with fail
            refine wp_region_ext (by kernel_rfl) (by kernel_rfl) ?_
            repeat (go_big_quiet_step ((go_at_call 50; exact ext_call (BF.out _))))
            refine wpQuiet_nil ?_
            intro w7 hB7
            clear x0 x1 x2 x3 y0 y1 y2 y3
            go_wp2_with fail
            go_roundw
            case rel => exact ⟨k + 1, by simp, by omega, (hB7.block _ l0).trans HA.out.1, HA.out.2.trans (hB7.mono HA.out.2.size)⟩
            case measure => simp [intOf]; omega
          · obtain rfl : k = befN x l := by omega
            by_cases hkn : befN x l < l.length
            · obtain ⟨y, hy⟩ := elem_at hkn
              have hR := HR.out.below HA.out.2
              obtain ⟨g, off, rfl, hgl⟩ := hR.addr hy
              obtain ⟨y0, y1, y2, y3⟩ := row_th hR hy
              have BF := Lib.hid (fun W => before_any y x false (befN_at x l y hy) W)
              have hk1 : (befN x l : Int) < (l.length : Int) := by omega
              have hd : decide ((befN x l : Int) < (l.length : Int)) = true := by simpa using hkn
              clear hy hR
              go_wp2_with fail
              refine wp_region_ext (by kernel_rfl) (by kernel_rfl) ?_
              repeat (go_big_quiet_step ((go_at_call 50; exact ext_call (BF.out _))))
              refine wpQuiet_nil ?_
              intro w7 hB7
              clear x0 x1 x2 x3 y0 y1 y2 y3
              go_wp2_with fail
              go_meet
              case rel => exact ⟨rfl, (hB7.block _ l0).trans HA.out.1, HA.out.2.trans (hB7.mono HA.out.2.size)⟩
            · have hd : decide ((befN x l : Int) < (l.length : Int)) = false := by simpa using hkn
              go_wp2_with fail
              refine wp_region_ext (by kernel_rfl) (by kernel_rfl) ?_
              repeat (go_big_quiet_step (fail))
              refine wpQuiet_nil ?_
              intro w7 hB7
              clear x0 x1 x2 x3
              go_wp2_with fail
              go_meet
              case rel => exact ⟨rfl, (hB7.block _ l0).trans HA.out.1, HA.out.2.trans (hB7.mono HA.out.2.size)⟩
        --]]loop
      case rest =>
        --[[tail
        obtain ⟨rfl, bx, hB⟩ := hcut
        obtain ⟨x0, x1, x2, x3, l0⟩ := box4 bx
        have hbl := befN_le x l
        have HI := Lib.hid (insT_eq x l)
        generalize befN x l = i at *
        have hR := HR.out.below hB
        obtain ⟨c1, r1⟩ := cut_to elemTh hR (k := i) hbl
        obtain ⟨ad2, c2, r2⟩ := cut_from elemTh hR (k := i) hbl
        have hi0 : (0 : Int) ≤ (i : Int) := by omega
        have hit : (l.take i).length = i := by rw [List.length_take]; omega
        have hid2 : (l.drop i).length = l.length - i := by rw [List.length_drop]
        have HQ := Lib.hid (And.intro bx (And.intro hB (And.intro r1 r2)))
        clear bx hB hR r1 r2
        go_wp2_with fail
        go_region_held3 (fun W => W.cell? ⟨w.heap.size + 2, 0, none⟩ = some (.int .i64 x.run) ∧ W.cell? ⟨w.heap.size + 2, 1, none⟩ = some (.int .i64 x.kind) ∧ W.cell? ⟨w.heap.size + 2, 2, none⟩ = some (.int .i64 x.id) ∧ W.cell? ⟨w.heap.size + 2, 3, none⟩ = some (.int .i64 x.due)) (first | go_keep | exact ⟨z0, z1, z2, z3⟩)
          ((first
            | (refine step_apps (o := ⟨some 122, _, _, _, _, _⟩) elemTh (by rfl) (.tmp 118) (.tmp 121) (by rfl) (by rfl) (by rfl) (RowAt.none_ (heap_alloc_new _ _)) ((HQ.out.2.2.1.drew).alloc _) (by simp; omega) (by unfold maxLen; simp; omega) i (by simp [hit]) ?_; intro a5 q5 w5 hr5 hk5 hf5; rw [List.nil_append] at hr5; have P5 := app_fresh (((Keeps.refl (fun _ => False) wc).drew).alloc _) hk5 (own_lit (Nat.le_refl _)) hf5; obtain ⟨z0, z1, z2, z3, l5⟩ := box4 ((P5.1.block _ l0 id).trans HQ.out.1); have rx := trivial)
            | (refine step_apps (o := ⟨some 122, _, _, _, _, _⟩) elemTh (by rfl) (.tmp 118) (.tmp 121) (by rfl) (by rfl) (by rfl) (RowAt.none_ heap_lt2) (((HQ.out.2.2.1.drew).alloc _).alloc _) (by simp; omega) (by unfold maxLen; simp; omega) i (by simp [hit]) ?_; intro a5 q5 w5 hr5 hk5 hf5; rw [List.nil_append] at hr5; have P5 := app_fresh ((((Keeps.refl (fun _ => False) wc).drew).alloc _).alloc _) hk5 (own_lit (Nat.le_refl _)) hf5; obtain ⟨z0, z1, z2, z3, l5⟩ := box4 ((P5.1.block _ l0 id).trans HQ.out.1); have rx : RowAt w5 110 (.slice (some ⟨wc.heap.size + 1, 0, none⟩) 1 1) [x] := RowAt.lit ((hk5.block _ (by simp) (fun e => by simp [Value.ownBlock] at e)).trans heap_new2))
            | (refine step_apps (o := ⟨some 122, _, _, _, _, _⟩) elemTh (by rfl) (.tmp 118) (.tmp 121) (by rfl) (by rfl) (by rfl) (RowAt.none_ heap_new2) (((HQ.out.2.2.1.drew).alloc _).alloc _) (by simp; omega) (by unfold maxLen; simp; omega) i (by simp [hit]) ?_; intro a5 q5 w5 hr5 hk5 hf5; rw [List.nil_append] at hr5; have P5 := app_fresh ((((Keeps.refl (fun _ => False) wc).drew).alloc _).alloc _) hk5 (own_lit (by omega)) hf5; obtain ⟨z0, z1, z2, z3, l5⟩ := box4 ((P5.1.block _ l0 id).trans HQ.out.1); have rx : RowAt w5 110 (.slice (some ⟨wc.heap.size, 0, none⟩) 1 1) [x] := RowAt.lit ((hk5.block _ (by simp; omega) (fun e => by simp [Value.ownBlock] at e)).trans heap_lt2))
            | (refine step_apps (o := ⟨some 125, _, _, _, _, _⟩) elemTh (by rfl) (.tmp 122) (.tmp 124) (by rfl) (by rfl) (by rfl) hr5 rx (by simp; omega) (by unfold maxLen; simp; omega) (i + 1) (by simp [hit]) ?_; intro a6 q6 w6 hr6 hk6 hf6; have P6 := app_fresh P5.1 hk6 P5.2 hf6; obtain ⟨z0, z1, z2, z3, l6⟩ := box4 ((P6.1.block _ l0 id).trans HQ.out.1))
            | (refine step_apps (o := ⟨some 125, _, _, _, _, _⟩) elemTh (by rfl) (.tmp 122) (.tmp 124) (by rfl) (by rfl) (by rfl) (hr5.alloc _) (RowAt.lit (heap_alloc_new _ _)) (by simp; omega) (by unfold maxLen; simp; omega) (i + 1) (by simp [hit]) ?_; intro a6 q6 w6 hr6 hk6 hf6; have P6 := app_fresh (P5.1.alloc _) hk6 P5.2 hf6; obtain ⟨z0, z1, z2, z3, l6⟩ := box4 ((P6.1.block _ l0 id).trans HQ.out.1))
            | (refine step_apps (o := ⟨some 129, _, _, _, _, _⟩) elemTh (by rfl) (.tmp 125) (.tmp 128) (by rfl) (by rfl) (by rfl) hr6 (HQ.out.2.2.2.keep P6.1 (fun _ _ f => f)) (by simp; omega) (by unfold maxLen; simp; omega) (i + 1 + (l.length - i)) (by simp [hit, hid2]) ?_; intro a7 q7 w7 hr7 hk7 hf7; have P7 := app_fresh P6.1 hk7 P6.2 hf7; obtain ⟨z0, z1, z2, z3, l7⟩ := box4 ((P7.1.block _ l0 id).trans HQ.out.1))))
        all_goals
          go_wp2_with fail
          go_ret2
          rw [HP.out, HI.out]
          exact ⟨_, rfl, by simpa using hr7, HQ.out.2.1.trans (P7.1.below_of.mono HQ.out.2.1.size), fun g h => .inr (Nat.le_trans HQ.out.2.1.size (P7.2 g h))⟩
        --]]tail
--]]put
end Go.Proofs.Ytkhphnidopbjjaa
