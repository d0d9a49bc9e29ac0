/- The timers' queue, walked: Open, Next, List, Fires. -/
import Derived.Test.YtkhphnidopbjjaaSo2
import Derived.Test.YtkhphnidopbjjaaH12
import Derived.Test.YtkhphnidopbjjaaT4
namespace Go.Hm
open Go.Own Go.Own.MapTy
theorem ltT (x y : It) : Go.Proofs.ltOf cmpT x y = bef x.th y.th := by
  rw [Bool.eq_iff_iff, bef_iff]
  unfold Go.Proofs.ltOf cmpT cmpI It.th
  simp only [decide_eq_true_eq]
  by_cases h1 : x.due < y.due
  · simp [h1]
  · by_cases h2 : y.due < x.due
    · simp [h1, h2]; omega
    · have h3 : x.due = y.due := by omega
      by_cases h4 : x.run < y.run
      · simp [h3, h4]
      · by_cases h5 : y.run < x.run
        · simp [h3, h4, h5]; omega
        · have h6 : x.run = y.run := by omega
          by_cases h7 : x.kind < y.kind
          · simp [h3, h6, h7]
          · by_cases h8 : y.kind < x.kind
            · simp [h3, h6, h7, h8]; omega
            · have h9 : x.kind = y.kind := by omega
              by_cases h10 : x.id < y.id
              · simp [h3, h6, h9, h10]
              · simp [h3, h6, h9, h10]; split <;> simp
theorem swoT : Go.Sort.SWO (Go.Proofs.ltOf cmpT) where
  irrefl x := by rw [ltT]; exact bef_irrefl _
  trans x y z h1 h2 := by rw [ltT] at *; exact bef_trans h1 h2
  ntrans x y z h1 h2 := by
    rw [ltT] at *
    rw [Bool.eq_false_iff] at *
    intro h
    rw [ne_eq, bef_iff] at h1 h2
    rw [bef_iff] at h
    omega
def unTh (x : Th) : It := ⟨x.run, x.kind, x.id, x.due, 0⟩
def zq (x : It) : It := ⟨x.run, x.kind, x.id, x.due, 0⟩
theorem zq_th (x : It) : (zq x).th = x.th := rfl
theorem unTh_th (x : It) (h : x.seq = 0) : unTh x.th = x := by cases x; simp at h; subst h; rfl
theorem set_map_zq {ys : List It} {k : Nat} {x : It} (hx : ys[k]? = some x) : ((ys.take k).map zq ++ ys.drop k).set k (zq x) = (ys.take (k + 1)).map zq ++ ys.drop (k + 1) := by
  have hk := (List.getElem?_eq_some_iff.1 hx).1
  have hl : ((ys.take k).map zq).length = k := by simp; omega
  have hd : ys.drop k = x :: ys.drop (k + 1) := by rw [List.drop_eq_getElem_cons hk, (List.getElem?_eq_some_iff.1 hx).2]
  have ht : ys.take (k + 1) = ys.take k ++ [x] := by rw [List.take_add_one, hx]; rfl
  rw [hd, List.set_append_right _ _ (by omega), hl, Nat.sub_self, List.set_cons_zero, ht, List.map_append, List.append_assoc]
  rfl
theorem get_map_zq {ys : List It} {k : Nat} {x : It} (hx : ys[k]? = some x) : ((ys.take k).map zq ++ ys.drop k)[k]? = some x := by
  have hk := (List.getElem?_eq_some_iff.1 hx).1
  rw [List.getElem?_append_right (by simp; omega)]
  simp
  rw [show k - min k ys.length = 0 by omega]
  simpa using hx
end Go.Hm
namespace Go.Proofs.Ytkhphnidopbjjaa
open Go.RowKit Go.Own Go.Own.MapTy Go.Hm
open Go.Own.Cells (sz enc)
theorem sortTo_ref {s : Hp} {Z : List It} (h : Ref s Z) (now : Int) (hl : s.L.length ≤ 16384) : SortTo 44 (dueL s now) (Z.take (dueN now Z)) := fun a cap W hr =>
  (sort_items (.slice a (dueL s now).length cap) (dueL s now) W hr (by have := (dueL_perm h.good.heap now).length_eq; have h2 := List.length_filter_le (fun x : It => decide (x.due ≤ now)) s.L; omega)).mono fun _ _ ⟨he, _, hp, hs, hR, hK⟩ => ⟨he, by rw [← h.due hp hs]; exact hR, hK⟩
/-- slices.SortFunc by the timers' comparison -/
theorem sortT_any (v : Value) (xs : List It) (w : World) (h : RowAt w 35 v xs) (hn : xs.length ≤ 16384) :
    Calls Try.prog 46 #[v, .func (.func 51) #[] #[]] w fun e w' =>
      e = .returned (.tuple #[]) ∧ ∃ ys : List It, ys.Perm xs ∧ (ys.map It.th).Pairwise (fun a b => bef b a = false) ∧ RowAt w' 35 v ys ∧ Keeps (fun j => v.ownBlock = some j) w w' :=
  (sort_by 51 cmpT swoT (enters_of Try.func51 (by kernel_rfl) rfl) compareT_grow v xs w h (by omega)).mono fun _ _ ⟨he, ys, hp, hs, hR, hK⟩ =>
    ⟨he, ys, hp, by rw [List.pairwise_map]; exact hs.imp (fun {a b} h => by rw [← ltT]; exact h), hR, hK⟩
--[[open1
set_option maxHeartbeats 1000000 in
theorem open_any (run id : Int) (r : Bool) (hb : Nat) (lv mv : Value) (T : TypeId) (s : Hp) (Z : List It) (w : World) (H : HV w hb lv mv T s) (R : Ref s Z) (hr : Z.any (fun x => decide (x.key = ⟨run, 1, id⟩)) = r) :
    Calls Try.prog 33 #[.pointer (some ⟨hb, 0, none⟩), .int .i64 run, .int .i64 id] w fun e w' => e = .returned (.bool r) ∧ Below w.heap.size w w' := by
  have b0 : hb < w.heap.size := lt_of_heap H.h
  cases r with
  | true =>
    obtain ⟨i, x, hx, hxk⟩ := any_key.1 hr
    obtain ⟨j, hg, hj⟩ := R.get_some hx
    rw [hxk] at hg
    have GT := Lib.hid (get_some ⟨run, 1, id⟩ x j hb lv mv T s w H hg hj)
    clear hr hx hxk hg hj H R
    go_enter Try.func33, Try.ntmps33
    go_wp2_with fail
    refine GT.out.mono ?_
    rintro e w1 ⟨rfl, hB⟩
    go_wp2_with fail
    go_ret
    exact ⟨rfl, hB.alloc hB.size _⟩
  | false =>
    have hg := R.nokey (k := ⟨run, 1, id⟩) (by rw [hr]; simp)
    have GT := Lib.hid (get_none ⟨run, 1, id⟩ hb lv mv T s w H hg)
    clear hr hg H R
    go_enter Try.func33, Try.ntmps33
    go_wp2_with fail
    refine GT.out.mono ?_
    rintro e w1 ⟨rfl, hB⟩
    go_wp2_with fail
    go_ret
    exact ⟨rfl, hB.alloc hB.size _⟩
--]]open1
--[[next0
set_option maxHeartbeats 1000000 in
theorem next_none (hb : Nat) (lv mv : Value) (T : TypeId) (s : Hp) (w : World) (H : HV w hb lv mv T s) (R : Ref s []) :
    Calls Try.prog 39 #[.pointer (some ⟨hb, 0, none⟩)] w fun e w' => e = .returned (.tuple #[.int .i64 0, .bool false]) ∧ Below w.heap.size w w' := by
  have b0 : hb < w.heap.size := lt_of_heap H.h
  have hL : s.L = [] := List.eq_nil_of_length_eq_zero (by rw [← R.len]; rfl)
  have GT := Lib.hid (top_none hb lv mv T s w H hL)
  clear H R hL
  go_enter Try.func39, Try.ntmps39
  go_wp2_with fail
  refine GT.out.mono ?_
  rintro e w1 ⟨rfl, hB⟩
  go_wp2_with fail
  go_ret2
  exact ⟨rfl, hB.alloc hB.size _⟩
--]]next0
--[[next1
set_option maxHeartbeats 1000000 in
theorem next_some (x : It) (hb : Nat) (lv mv : Value) (T : TypeId) (s : Hp) (Z : List It) (w : World) (H : HV w hb lv mv T s) (R : Ref s Z) (hx : Z[0]? = some x) :
    Calls Try.prog 39 #[.pointer (some ⟨hb, 0, none⟩)] w fun e w' => e = .returned (.tuple #[.int .i64 x.due, .bool true]) ∧ Below w.heap.size w w' := by
  have b0 : hb < w.heap.size := lt_of_heap H.h
  have GT := Lib.hid (top_some x hb lv mv T s w H (R.top hx))
  clear H R hx
  go_enter Try.func39, Try.ntmps39
  go_wp2_with fail
  refine GT.out.mono ?_
  rintro e w1 ⟨rfl, hB⟩
  go_wp2_with fail
  go_ret2
  exact ⟨rfl, hB.alloc hB.size _⟩
--]]next1
/-- between two rounds of List's loop -/
def LiRel (w : World) (v : Value) (ys : List It) (v11 : Value) (wr : World) : Prop :=
  ∃ k : Nat, v11 = .int .i64 k ∧ k ≤ ys.length ∧ RowAt wr 35 v ((ys.take k).map zq ++ ys.drop k) ∧ Below w.heap.size w wr
--[[list
set_option maxHeartbeats 2000000 in
theorem list_any (hb : Nat) (lv mv : Value) (T : TypeId) (s : Hp) (Z : List It) (l : List Th) (w : World) (H : HV w hb lv mv T s) (R : Ref s Z) (TR : TRef Z l) (hn : Z.length ≤ 16384) :
    Calls Try.prog 47 #[.pointer (some ⟨hb, 0, none⟩)] w fun e w' => ∃ v, e = .returned v ∧ RowAt w' 35 v (l.map unTh) ∧ Below w.heap.size w w' ∧ ∀ g, v.ownBlock = some g → w.heap.size ≤ g := by
  have b0 : hb < w.heap.size := lt_of_heap H.h
  have GT := Lib.hid (all_any hb lv mv T s w H (by rw [← R.len]; exact hn))
  have HR := Lib.hid (And.intro R TR)
  clear H R TR
  go_enter Try.func47, Try.ntmps47
  go_wp2_with fail
  refine GT.out.mono ?_
  rintro e w1 ⟨v, ys, rfl, hp, -, hR1, hB1, hg1⟩
  have hyn : ys.length ≤ 16384 := by rw [hp.length_eq, ← HR.out.1.len]; exact hn
  obtain ⟨a, cap, rfl⟩ := hR1.slice
  have HP := Lib.hid (And.intro hp (And.intro hR1 (And.intro hB1 hg1)))
  clear hp hR1 hB1 hg1
  go_wp2_with fail
  go_loopw [11] (fun v11 wr => LiRel w (.slice a ys.length cap) ys v11 wr) (fun v _ => ys.length - (intOf v).toNat)
  case atStart => exact ⟨0, rfl, Nat.zero_le _, by simpa using HP.out.2.1, HP.out.2.2.1⟩
  case round =>
    obtain ⟨k, rfl, hk, hR, hB⟩ := hrel
    by_cases hkn : k < ys.length
    · obtain ⟨x, hx⟩ := elem_at hkn
      obtain ⟨g, off, rfl, hgl⟩ := hR.addr (get_map_zq hx)
      have hc := hR.cell (get_map_zq hx) (j := 4) (by decide)
      have hc' : wr.cell? ⟨g, off + (k * 5 + 4), none⟩ = some (.int .u64 x.seq) := hc
      have hc2 : wr.cell? ⟨g, off + k * 5 + 4, none⟩ = some (.int .u64 x.seq) := by rw [Nat.add_assoc]; exact hc'
      have hf2 : wr.frozen? ⟨g, off + k * 5 + 4, none⟩ = false := hR.frozen _
      have hk0 : (0 : Int) ≤ (k : Int) := by omega
      have hk1 : (k : Int) < (ys.length : Int) := by omega
      have hS := hR.setOne (get_map_zq hx) (y := zq x) (j := 4) (u := .int .u64 0) (by decide) rfl
      rw [set_map_zq hx] at hS
      have HS := Lib.hid hS
      have HB := Lib.hid hB
      have hgw := HP.out.2.2.2 g rfl
      clear hR hc hc' hS hx hB
      go_wp2_with fail
      go_roundw
      case rel => exact ⟨k + 1, by simp, hkn, by rw [Nat.add_assoc]; exact HS.out, HB.out.setCell (p := ⟨g, _, none⟩) hgw _⟩
      case measure => simp [intOf]; omega
    · obtain rfl : k = ys.length := by omega
      rw [List.take_length, List.drop_length, List.append_nil] at hR
      have hR' := hR
      rw [show ys.length = (ys.map zq).length by simp] at hR'
      have HQ := Lib.hid (And.intro hR hB)
      clear hR hR' hB
      go_wp2_with fail
      refine (sortT_any (.slice a ys.length cap) (ys.map zq) wr HQ.out.1 (by simpa using hyn)).mono ?_
      rintro e w2 ⟨rfl, zs, hpz, hsz, hR2, hK2⟩
      have hzl : zs = l.map unTh := by
        have h1 : zs.map It.th = l := HR.out.2.uniq (by
          have := (hpz.map It.th)
          rw [List.map_map] at this
          have e : It.th ∘ zq = It.th := funext zq_th
          rw [e] at this
          exact this.trans ((HP.out.1.trans HR.out.1.perm.symm).map _)) hsz
        rw [← h1, List.map_map]
        have h2 : ∀ z ∈ zs, z.seq = 0 := fun z hz => by
          obtain ⟨y, _, rfl⟩ := List.mem_map.1 (hpz.mem_iff.1 hz)
          rfl
        exact (List.map_id zs).symm.trans (List.map_congr_left fun z hz => (unTh_th z (h2 z hz)).symm)
      subst hzl
      have HQ2 := Lib.hid (And.intro hR2 hK2)
      clear hpz hsz hR2 hK2
      go_wp2_with fail
      go_ret
      exact ⟨_, rfl, HQ2.out.1, HQ.out.2.trans (HQ2.out.2.below HQ.out.2.size (fun j hj h => by have := HP.out.2.2.2 j h; omega)), HP.out.2.2.2⟩
--]]list
theorem list_len0 {xs : List It} {v : Value} {w : World} {e : TypeId} (h : RowAt w e v xs) : ∃ a c, v = .slice a xs.length c := h.slice
abbrev OM : MapTy Int Bool := IM Bool Value.bool
theorem checkI (n : Nat) (em : Bool) (W : World) (x : Int) : (Instr.checkKey em (n + 1) 3 (.int .i64 x)).run Try.prog W = .ok () W := by simp [Instr.checkKey, go_sem]
theorem omlaw : KLaw OM Try.prog 3 := IM.klaw Try.underlying3 (fun W em x => checkI 9999 em W x)
theorem OM.look {w : World} {b : Nat} {m : List (Int × Bool)} (h : MapAt OM w b m) (r : Int) (c : Bool) (hc : over m r = c) (W : World) (hW : Same w b W) : (Instr.lookup 112 (.map (some b)) (.int .i64 r) false).run Try.prog W = .ok (.bool c) W := by
  have := h.lookS omlaw Try.underlying112 (z := .bool false) (fun W => by kernel_rfl) r false W hW
  subst hc
  unfold over
  cases hg : get m r with
  | none => rw [hg] at this; exact this
  | some b => rw [hg] at this; exact this
theorem fi_row {w : World} {e : TypeId} {v : Value} {xs : List Fr} {mb : Nat} {o X Y : Obj} (h : RowAt w e v xs) (hn : ∀ g, v.ownBlock = some g → g ≠ mb) : RowAt ((setBlock (w.alloc X) mb o).alloc Y) e v xs :=
  h.keep ((((Keeps.refl (fun j => j = mb) w).alloc X).setBlock (.inl rfl) o).alloc Y) (fun g hg e => hn g hg e)
theorem fi_new {w : World} {mb : Nat} {o X Y : Obj} : ((setBlock (w.alloc X) mb o).alloc Y).heap[w.heap.size + 1]? = some Y := by
  rw [show w.heap.size + 1 = (setBlock (w.alloc X) mb o).heap.size by simp [setBlock_size]]
  exact heap_alloc_new _ _
theorem new2 {w : World} {X Y : Obj} : ((w.alloc X).alloc Y).heap[w.heap.size + 1]? = some Y := by
  rw [show w.heap.size + 1 = (w.alloc X).heap.size by simp]
  exact heap_alloc_new _ _
/-- between two rounds of Fires: w0 is the world in which the loop began -/
def FiRel (w0 : World) (now : Int) (D : List Th) (mb : Nat) (v20 v6 : Value) (wr : World) : Prop :=
  ∃ k : Nat, v20 = .int .i64 k ∧ k ≤ D.length ∧ RowAt wr 87 v6 (firesL now (D.take k) []) ∧ MapAt OM wr mb (firesM (D.take k) []) ∧ Keeps (fun j => j = mb) w0 wr ∧ ∀ g, v6.ownBlock = some g → w0.heap.size ≤ g
theorem fi_take {D : List Th} {k : Nat} {x : Th} (hx : D[k]? = some x) (now : Int) : firesM (D.take (k + 1)) [] = fireM (firesM (D.take k) []) x ∧ firesL now (D.take (k + 1)) [] = firesL now (D.take k) [] ++ (if over (firesM (D.take k) []) x.run = true then [] else [fireOf now x]) := by
  have ht : D.take (k + 1) = D.take k ++ [x] := by rw [List.take_add_one, hx]; rfl
  rw [ht, firesM_append, firesL_append]
  refine ⟨rfl, ?_⟩
  simp only [firesL]
--[[fires
set_option maxRecDepth 100000 in
set_option maxHeartbeats 4000000 in
theorem fires_any (now : Int) (hb : Nat) (lv mv : Value) (T : TypeId) (s : Hp) (Z : List It) (l : List Th) (w : World) (H : HV w hb lv mv T s) (R : Ref s Z) (TR : TRef Z l) (hn : Z.length ≤ 16384) :
    Calls Try.prog 36 #[.pointer (some ⟨hb, 0, none⟩), .int .i64 now] w fun e w' => ∃ v, e = .returned v ∧ RowAt w' 87 v (firesL now (dueTh now l) []) ∧ Below w.heap.size w w' ∧ ∀ g, v.ownBlock = some g → w.heap.size ≤ g := by
  have b0 : hb < w.heap.size := lt_of_heap H.h
  have hL : s.L.length ≤ 16384 := by rw [← R.len]; exact hn
  have GT := Lib.hid (due_any now hb lv mv T s w H hL _ (sortTo_ref R now hL))
  have HR := Lib.hid (And.intro R TR)
  clear H R TR hL
  have hmm := @run_makeMap Try.prog
  go_enter Try.func36, Try.ntmps36
  go_wp2_with fail
  refine GT.out.mono ?_
  rintro e w1 ⟨v, rfl, hR1, hB1, hg1⟩
  have hzl : (Z.take (dueN now Z)).length ≤ 16384 := by rw [List.length_take]; omega
  have HQ1 := Lib.hid (And.intro hR1 (And.intro hB1 hg1))
  clear hR1 hB1 hg1
  go_wp2_with fail
  refine (sortT_any v _ w1 HQ1.out.1 hzl).mono ?_
  rintro e w2 ⟨rfl, ys, hp, hs, hR2, hK2⟩
  obtain ⟨D, hD⟩ : ∃ D, D = ys.map It.th := ⟨_, rfl⟩
  have hDl : D = dueTh now l := by
    rw [hD]
    have hT : TRef (Z.filter (fun x => decide (x.due ≤ now))) (dueTh now l) := HR.out.2.filter _ _ fun _ => rfl
    refine hT.uniq ?_ hs
    rw [dueN_filter now Z HR.out.1.sorted]
    exact hp.map _
  have hyl : ys.length ≤ 16384 := by rw [hp.length_eq]; exact hzl
  have hDn : D.length = ys.length := by rw [hD, List.length_map]
  have hB2 : Below w.heap.size w w2 := HQ1.out.2.1.trans (hK2.below HQ1.out.2.1.size (fun j hj h => by have := HQ1.out.2.2 j h; omega))
  obtain ⟨a, cap, rfl⟩ := hR2.slice
  have HQ2 := Lib.hid (And.intro hR2 hB2)
  have HD := Lib.hid (And.intro hD hDl)
  have HDN := Lib.hid hDn
  have hb2 := hB2.size
  clear hp hs hR2 hK2 hD hDl hDn hB2
  go_wp2_with fail
  go_loopw [20, 6] (fun v20 v6 wr => FiRel (w2.alloc (.map #[] 0)) now D w2.heap.size v20 v6 wr) (fun v _ _ => ys.length - (intOf v).toNat)
  case atStart => exact ⟨0, rfl, Nat.zero_le _, RowAt.nil _ _, MapAt.made w2 OM, Keeps.refl _ _, fun g h => by simp [Value.ownBlock] at h⟩
  case round =>
    obtain ⟨k, rfl, hk, hF, hM, hK, hf⟩ := hrel
    rw [HDN.out] at hk
    have hw0 : w2.heap.size < wr.heap.size := hM.lt
    have hw1 : (w2.alloc (.map #[] 0)).heap.size = w2.heap.size + 1 := by simp
    have hfl : (firesL now (D.take k) []).length ≤ 16384 := by
      have := firesL_len now (D.take k) []
      rw [List.length_take] at this
      omega
    by_cases hkn : k < ys.length
    · obtain ⟨x, hx⟩ := elem_at hkn
      have hR := (HQ2.out.1.alloc (.map #[] 0)).keep hK (fun g hg e => by have := HQ2.out.1.lt hg; omega)
      obtain ⟨g, off, rfl, hgl⟩ := hR.addr hx
      have hgm : ¬ g = w2.heap.size := fun e => by have := HQ2.out.1.lt (g := g) rfl; omega
      obtain ⟨c0, c1, c2, c3, c4⟩ := row_cells hR hx
      have hDx : D[k]? = some x.th := by rw [HD.out.1, List.getElem?_map, hx]; rfl
      obtain ⟨ht1, ht2⟩ := fi_take hDx now
      have hk0 : (0 : Int) ≤ (k : Int) := by omega
      have hk1 : (k : Int) < (ys.length : Int) := by omega
      have hne : ¬ wr.heap.size = w2.heap.size := by omega
      have hne2 : ¬ w2.heap.size = wr.heap.size := by omega
      clear hx hR hDx
      cases hov : over (firesM (D.take k) []) x.run with
      | true =>
        have hov' : over (firesM (D.take k) []) x.th.run = true := hov
        rw [if_pos hov', List.append_nil] at ht2
        have ht3 : fireM (firesM (D.take k) []) x.th = firesM (D.take k) [] := by unfold fireM; rw [if_pos hov']
        rw [ht3] at ht1
        have hlk := OM.look hM x.run true hov
        have HH := Lib.hid (And.intro hF (And.intro hM (And.intro hK hf)))
        have HT := Lib.hid (And.intro ht1 ht2)
        clear hF hM hK hf ht1 ht2 ht3 hov hov'
        go_wp2_with fail
        go_roundw
        case rel => exact ⟨k + 1, by simp, by have := HDN.out; omega, by rw [HT.out.2]; exact HH.out.1.alloc _, by rw [HT.out.1]; exact HH.out.2.1.alloc _, HH.out.2.2.1.alloc _, HH.out.2.2.2⟩
        case measure => simp [intOf]; omega
      | false =>
        have hov' : ¬ over (firesM (D.take k) []) x.th.run = true := by show ¬ over _ x.run = true; rw [hov]; simp
        rw [if_neg hov'] at ht2
        have hlk := OM.look hM x.run false hov
        obtain ⟨a6, p6, rfl⟩ := hF.slice
        by_cases hk2 : x.kind = 2
        · have t2 : (x.kind == 2) = true := by simp [hk2]
          have ht3 : fireM (firesM (D.take k) []) x.th = upd (firesM (D.take k) []) x.run true := by unfold fireM; rw [if_neg hov', if_pos (show x.th.kind = 2 from hk2)]; rfl
          have ht4 : fireOf now x.th = ⟨x.run, now, 20, 0⟩ := by unfold fireOf; rw [if_pos (show x.th.kind = 2 from hk2)]; rfl
          rw [ht3] at ht1
          rw [ht4] at ht2
          obtain ⟨o, hup, hmap⟩ := hM.store omlaw Try.underlying112 x.run true
          replace hup : ∀ W : World, blk W w2.heap.size = blk wr w2.heap.size → (Instr.mapUpdate 112 (.map (some w2.heap.size)) (.int .i64 x.run) (.bool true)).run Try.prog W = .ok () (setBlock W w2.heap.size o) := hup
          have HH := Lib.hid (And.intro hF (And.intro hmap (And.intro hK hf)))
          have HT := Lib.hid (And.intro ht1 ht2)
          clear hF hM hK hf ht1 ht2 ht3 ht4 hov hov' hmap hk2
          go_wp2_with (at_builtin; refine wp_appW (α := Fr) elemFr rfl (.tmp 51) (.tmp 58) rfl (fi_row HH.out.1 (fun g' hg' e => by have := HH.out.2.2.2 g' hg'; omega)) ⟨x.run, now, 20, 0⟩ rfl rfl fi_new (by omega) (by unfold maxLen; omega) ?_; intro a1 q1 w3 hr3 hk3 hf3)
          go_roundw
          case rel =>
            have hb3 := hk3.size
            rw [World.size_alloc] at hb3
            have hk4 : Keeps (fun j => j = w2.heap.size ∨ (Value.slice a6 (firesL now (D.take k) []).length p6).ownBlock = some j) wr w3 := (((((Keeps.refl (fun j => j = w2.heap.size) wr).alloc _).setBlock (.inl rfl) o).alloc _).mono (fun _ _ h => .inl h)).comp (hk3.mono (fun _ _ h => .inr h))
            refine ⟨k + 1, by simp, by have := HDN.out; omega, by rw [HT.out.2]; exact hr3, ?_, HH.out.2.2.1.trans hk4 (fun j hj h => ?_), fun g' hg' => ?_⟩
            · rw [HT.out.1]
              refine HH.out.2.1 _ ?_
              rw [hk3.block _ (by simp [setBlock_size]; omega) (fun h => by have := HH.out.2.2.2 _ h; omega), Below.heap_alloc _ _ _ (by simp [setBlock_size]; omega)]
              exact setBlock_same _ _ _ (by simp; omega)
            · rcases h with h | h
              · exact h
              · have := HH.out.2.2.2 j h; omega
            · rcases hf3 g' hg' with h | h
              · exact HH.out.2.2.2 g' h
              · have := HH.out.2.2.1.size
                simp [setBlock_size] at h this ⊢
                omega
          case measure => simp [intOf]; omega
        · have t2 : (x.kind == 2) = false := by simp [hk2]
          have ht3 : fireM (firesM (D.take k) []) x.th = firesM (D.take k) [] := by unfold fireM; rw [if_neg hov', if_neg (show ¬ x.th.kind = 2 from hk2)]
          have ht4 : fireOf now x.th = ⟨x.run, now, 12, x.id⟩ := by unfold fireOf; rw [if_neg (show ¬ x.th.kind = 2 from hk2)]; rfl
          rw [ht3] at ht1
          rw [ht4] at ht2
          have HH := Lib.hid (And.intro hF (And.intro hM (And.intro hK hf)))
          have HT := Lib.hid (And.intro ht1 ht2)
          clear hF hM hK hf ht1 ht2 ht3 ht4 hov hov' hk2
          go_wp2_with (at_builtin; refine wp_appW (α := Fr) elemFr rfl (.tmp 24) (.tmp 34) rfl ((HH.out.1.alloc _).alloc _) ⟨x.run, now, 12, x.id⟩ rfl rfl new2 (by omega) (by unfold maxLen; omega) ?_; intro a1 q1 w3 hr3 hk3 hf3)
          go_roundw
          case rel =>
            have hk4 : Keeps (fun j => (Value.slice a6 (firesL now (D.take k) []).length p6).ownBlock = some j) wr w3 := (((Keeps.refl _ wr).alloc _).alloc _).comp hk3
            refine ⟨k + 1, by simp, by have := HDN.out; omega, by rw [HT.out.2]; exact hr3, by rw [HT.out.1]; exact HH.out.2.1.keep hk4 (fun h => by have := HH.out.2.2.2 _ h; omega), HH.out.2.2.1.trans hk4 (fun j hj h => by have := HH.out.2.2.2 j h; omega), fun g' hg' => ?_⟩
            rcases hf3 g' hg' with h | h
            · exact HH.out.2.2.2 g' h
            · have := HH.out.2.2.1.size
              simp at h this ⊢
              omega
          case measure => simp [intOf]; omega
    · obtain rfl : k = ys.length := by omega
      rw [← HDN.out, List.take_length, HD.out.2] at hF
      rw [← HDN.out]
      obtain ⟨a6, p6, rfl⟩ := hF.slice
      have HH := Lib.hid (And.intro hF (And.intro hK hf))
      clear hF hM hK hf
      go_wp2_with fail
      go_ret
      exact ⟨_, rfl, HH.out.1, HQ2.out.2.trans ((((Keeps.refl (fun j => j = w2.heap.size) w2).alloc _).comp HH.out.2.1).below hb2 (fun j hj e => by omega)), fun g hg => by have := HH.out.2.2 g hg; omega⟩
--]]fires
end Go.Proofs.Ytkhphnidopbjjaa
