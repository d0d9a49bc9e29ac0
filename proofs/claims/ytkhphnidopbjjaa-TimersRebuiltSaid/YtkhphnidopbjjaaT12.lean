/- timers.Of, walked: the queue that some runs' histories make. -/
import Derived.Test.YtkhphnidopbjjaaT10
import Derived.Test.YtkhphnidopbjjaaTr
import Derived.Test.YtkhphnidopbjjaaLib6
import Derived.Test.YtkhphnidopbjjaaSo3
namespace Go.Hm
open Go.Own
instance : Cells Ev where
  sz := 11
  enc := fun e => (evCells e).toList
  len := fun _ => rfl
  one := by
    intro x v hv
    simp at hv
    rcases hv with rfl | rfl | rfl | rfl | rfl | rfl | rfl | rfl | rfl | rfl | rfl <;> rfl
end Go.Hm
namespace Go.Proofs.Ytkhphnidopbjjaa
open Go.RowKit Go.Own Go.Own.MapTy Go.Hm
open Go.Own.Cells (sz enc)
theorem row_ev {w : World} {e : TypeId} {xs : List Ev} {g off n cap : Nat} (h : RowAt w e (.slice (some ⟨g, off, none⟩) n cap) xs) {i : Nat} {v : Ev} (hx : xs[i]? = some v) :
    (w.cell? ⟨g, off + i * 11, none⟩ = some (.int .i64 v.id) ∧ w.cell? ⟨g, off + i * 11 + 1, none⟩ = some (.int .i64 v.time) ∧ w.cell? ⟨g, off + i * 11 + 2, none⟩ = some (.int .i64 v.kind) ∧ w.cell? ⟨g, off + i * 11 + 3, none⟩ = some (.int .i64 v.a) ∧
    w.cell? ⟨g, off + i * 11 + 4, none⟩ = some (.int .i64 v.b) ∧ w.cell? ⟨g, off + i * 11 + 5, none⟩ = some (.string v.nm)) ∧ w.cell? ⟨g, off + i * 11 + 6, none⟩ = some (.string v.tx) ∧ w.cell? ⟨g, off + i * 11 + 7, none⟩ = some (.int .i64 v.vk) ∧
    w.cell? ⟨g, off + i * 11 + 8, none⟩ = some (.int .i64 v.vn) ∧ w.cell? ⟨g, off + i * 11 + 9, none⟩ = some (.string v.vs) ∧ w.cell? ⟨g, off + i * 11 + 10, none⟩ = some (.slice v.la v.ln v.lc) :=
  ⟨⟨h.cell hx (j := 0) (by decide), h.cell hx (j := 1) (by decide), h.cell hx (j := 2) (by decide), h.cell hx (j := 3) (by decide), h.cell hx (j := 4) (by decide), h.cell hx (j := 5) (by decide)⟩, h.cell hx (j := 6) (by decide), h.cell hx (j := 7) (by decide), h.cell hx (j := 8) (by decide), h.cell hx (j := 9) (by decide), h.cell hx (j := 10) (by decide)⟩
theorem elemInt : ElemOf Int Try.prog 106 3 8 := elem_mk Try.underlying106 (z := .int .i64 0) (n := 1) (by kernel_rfl) rfl rfl
theorem elemEv : ElemOf Ev Try.prog 94 71 128 := elem_mk Try.underlying94 (z := .agg #[.int .i64 0, .int .i64 0, .int .i64 0, .int .i64 0, .int .i64 0, .string .empty, .string .empty, .int .i64 0, .int .i64 0, .string .empty, .slice none 0 0]) (n := 11) (by kernel_rfl) rfl rfl
abbrev RM : MapTy Int Value := IM Value id
theorem rmlaw : KLaw RM Try.prog 3 := IM.klaw Try.underlying3 (fun W em x => checkI 9999 em W x)
/-- the map's rows are the runs' histories -/
def Rows2 (w : World) (mv : List (Int × Value)) (m : List (Int × List Ev)) : Prop := mv.map (·.1) = m.map (·.1) ∧ ∀ r v, MapTy.get mv r = some v → ∃ E, MapTy.get m r = some E ∧ RowAt w 71 v E
theorem Rows2.below {w w' : World} {mv : List (Int × Value)} {m : List (Int × List Ev)} (h : Rows2 w mv m) (K : Below w.heap.size w w') : Rows2 w' mv m := ⟨h.1, fun r v hv => by obtain ⟨E, h1, h2⟩ := h.2 r v hv; exact ⟨E, h1, h2.below K⟩⟩
theorem RM.look {w : World} {b : Nat} {mv : List (Int × Value)} (h : MapAt RM w b mv) (r : Int) (v : Value) (hv : MapTy.get mv r = some v) (W : World) (hW : Same w b W) : (Instr.lookup 93 (.map (some b)) (.int .i64 r) false).run Try.prog W = .ok v W := by
  have := h.lookS rmlaw Try.underlying93 (z := .slice none 0 0) (fun W => by kernel_rfl) r false W hW
  rw [hv] at this
  exact this
theorem QM.applyW {w0 wr : World} {hb : Nat} {lv mv : Value} {s : Hp} {Z : List It} {l : List Th} {n : Nat} (h : QM w0 hb lv mv s Z l n wr) (hn : n ≤ 16000) (v : Ev) (run : Int) :
    Calls Try.prog 30 #[.pointer (some ⟨hb, 0, none⟩), .int .i64 run, .agg (evCells v)] wr (fun e w2 => ∃ lv' mv', ApRel w0 hb lv mv l n run v wr e w2 lv' mv') := by
  have h1 := h.s0
  have h2 := h.s1
  have h3 := h.len
  refine (apply_any v run hb lv mv _ s Z wr h.hv h.ref h1 (by omega) (by omega)).mono fun e w2 ⟨lv', mv', s', he, hV, hR, hq, hK, hF⟩ => ⟨lv', mv', ?_⟩
  obtain ⟨t1, t2⟩ := h.tr.apply s.seq run v
  have hz := applyZ_bounds s.seq Z run v
  refine ⟨by rw [t1]; exact he, ⟨s', _, ?_, hV, hR, t2, fun j hj => ?_, by rw [hq]; omega, by rw [hq]; omega, by omega⟩, hK, hF⟩
  · exact h.below.trans (hK.below h.below.size (fun j hj f => by have := h.fw j f; omega))
  · rcases hF j hj with f | f
    · exact h.fw j f
    · have := h.below.size; omega
theorem nodup_sub_len {α : Type} [DecidableEq α] : ∀ (vs ks : List α), vs.Nodup → (∀ k ∈ vs, k ∈ ks) → vs.length ≤ ks.length
  | [], _, _, _ => Nat.zero_le _
  | v :: vs, ks, h, hs => by
    have h' := List.nodup_cons.1 h
    have hv := hs v (by simp)
    have := nodup_sub_len vs (ks.erase v) h'.2 (fun k hk => by
      have hne : k ≠ v := fun e => h'.1 (e ▸ hk)
      exact (List.mem_erase_of_ne hne).2 (hs k (by simp [hk])))
    rw [List.length_erase_of_mem hv] at this
    have hp := List.length_pos_of_mem hv
    rw [List.length_cons]
    omega
theorem RangeAt.facts {w : World} {b r : Nat} {mv : List (Int × Value)} {vs : List Int} (h : RangeAt RM w b r mv vs) : vs.Nodup ∧ (∀ k ∈ vs, k ∈ mv.map (·.1)) ∧ vs.length ≤ mv.length := by
  obtain ⟨es, clock, since, seen, c0, h1, h2, h3, h4, h5, h6, h7, h8, h9, h10, h11⟩ := h
  exact ⟨h9, h10, by have := nodup_sub_len vs _ h9 h10; rwa [List.length_map] at this⟩
def O1Rel (w1 : World) (mb r : Nat) (mv : List (Int × Value)) (v5 : Value) (wr : World) : Prop :=
  ∃ vs : List Int, RangeAt RM wr mb r mv vs ∧ RowAt wr 3 v5 vs ∧ Keeps (fun j => j = r) w1 wr ∧ ∀ g, v5.ownBlock = some g → w1.heap.size ≤ g
def O2Rel (w : World) (hb : Nat) (m : List (Int × List Ev)) (v5 : Value) (ys : List Int) (v28 : Value) (wr : World) : Prop :=
  ∃ (k : Nat) (p : List Th) (lv mv : Value) (s : Hp) (Z : List It), v28 = .int .i64 k ∧ k ≤ ys.length ∧ QM w hb lv mv s Z p (k * 80) wr ∧ ReadL m (ys.take k) p ∧ RowAt wr 3 v5 ys ∧ Off hb lv mv v5
def O3Rel (w : World) (hb : Nat) (m : List (Int × List Ev)) (v5 : Value) (ys : List Int) (k : Nat) (r : Int) (n : Nat) (v36 : Value) (wr : World) : Prop :=
  ∃ (j : Nat) (p : List Th) (lv mv : Value) (s : Hp) (Z : List It), v36 = .int .i64 j ∧ j ≤ n ∧ QM w hb lv mv s Z p (k * 80 + j) wr ∧ Rebuilt m (ys.take k) r j p ∧ RowAt wr 3 v5 ys ∧ Off hb lv mv v5
set_option maxRecDepth 100000 in
set_option maxHeartbeats 16000000 in
theorem of_any (mb : Nat) (mv : List (Int × Value)) (m : List (Int × List Ev)) (l : List Th) (w : World) (HM : MapSt RM w mb mv) (HR : Rows2 w mv m) (HH : Hist l m) (hs : Srt l) (hml : mv.length ≤ 80) (hel : ∀ p ∈ m, p.2.length ≤ 80) :
    Calls Try.prog 40 #[.map (some mb)] w fun e w' => ∃ lv mq s Z, e = .returned (.tuple #[.pointer (some ⟨w.heap.size, 0, none⟩), .int .i64 0]) ∧ QM w w.heap.size lv mq s Z l 6400 w' := by
  have hmb := HM.at_.lt
  obtain ⟨o, hro, hra⟩ := RangeAt.start (P := Try.prog) (HM.frame (Below.heap_alloc w (.cells #[.slice none 0 0, .map none, .int .u64 0] 65) mb hmb)) Try.underlying93
  have HA := Lib.hid hra
  have HMM := Lib.hid (And.intro HM HR)
  have HHH := Lib.hid (And.intro HH (And.intro hs hel))
  clear HM HR HH hs hel hra
  go_enter Try.func40, Try.ntmps40
  go_wp2_with fail
  obtain ⟨w1, hw1⟩ : ∃ w1, w1 = (w.alloc (.cells #[.slice none 0 0, .map none, .int .u64 0] 65)).alloc o := ⟨_, rfl⟩
  rw [← hw1]
  have q1 := (QM.zero (Below.refl w.heap.size w)).old ((Below.refl _ _).alloc (Nat.le_refl _) o)
  rw [← hw1] at q1
  have hs1 : w1.heap.size = w.heap.size + 2 := by rw [hw1]; simp
  have HA1 := HA.out
  rw [← hw1, World.size_alloc] at HA1
  have HQ1 := Lib.hid q1
  have HRA := Lib.hid HA1
  have HS1 := Lib.hid hs1
  clear hw1 q1 HA HA1 hs1 hro
  go_loopw [5] (fun v5 wr => O1Rel w1 mb (w.heap.size + 1) mv v5 wr) (fun _ wr => wr.rangeLeft mb (w.heap.size + 1))
  case atStart => exact ⟨[], HRA.out, RowAt.nil _ _, Keeps.refl _ _, fun g h => by simp [Value.ownBlock] at h⟩
  case round =>
    obtain ⟨vs, hR, hv, hK, hf⟩ := hrel
    obtain ⟨f1, f2, f3⟩ := RangeAt.facts hR
    have hs1 := HS1.out
    rcases hR.next (P := Try.prog) 0 with ⟨hall, hrun⟩ | ⟨x, v, w2, hrun, hR2, hK2, hs2, hlt2, hen⟩
    rotate_left
    ·
      --[[more
      replace hrun : (Instr.next (.pointer (some ⟨w.heap.size + 1, 0, none⟩)) false 0).run Try.prog wr = .ok (.tuple #[.bool true, .int .i64 x, v]) w2 := hrun
      replace hen : ∀ W : World, blk W mb = blk w2 mb → blk W (w.heap.size + 1) = blk w2 (w.heap.size + 1) → (Instr.entry (.pointer (some ⟨w.heap.size + 1, 0, none⟩))).run Try.prog W = .ok (.tuple #[.int .i64 x, v]) W := hen
      have hv2 := hv.keep hK2 (fun g hg e => by have := hf g hg; omega)
      obtain ⟨a5, p5, rfl⟩ := hv2.slice
      have hl := hR2.lt
      have HX := Lib.hid (And.intro hv2 (And.intro hR2 (And.intro (hK.trans hK2 (fun j hj e => e)) (And.intro hf (And.intro hs2 hlt2)))))
      clear hR hv hK hf f1 f2 hv2 hR2 hK2 hs2 hlt2 hs1
      have hl1 := hl.1
      have hl2 := hl.2
      clear hl
      go_wp2_with (at_builtin; refine wp_appW (α := Int) elemInt rfl (.tmp 20) (.tmp 22) rfl (HX.out.1.alloc _) x rfl rfl (heap_alloc_new _ _) (by omega) (by unfold maxLen; omega) ?_; intro a6 q6 w6 hr6 hk6 hf6)
      have hs1 := HS1.out
      have KA : Keeps (fun j => (Value.slice a5 vs.length p5).ownBlock = some j) w2 w6 := ((Keeps.refl _ w2).alloc _).comp hk6
      obtain ⟨hR6, hl6⟩ := HX.out.2.1.keep KA (fun h => by have := HX.out.2.2.2.1 _ h; omega) (fun h => by have := HX.out.2.2.2.1 _ h; omega)
      have HY := Lib.hid (And.intro hr6 (And.intro hR6 (And.intro hl6 (And.intro (HX.out.2.2.1.trans KA (fun j hj h => by have := HX.out.2.2.2.1 j h; omega)) (app_fresh (w := w1) ((((Keeps.of_below (Below.refl _ w1)) : Keeps (fun _ => False) w1 w1))) ((Keeps.refl (fun j => (Value.slice a5 vs.length p5).ownBlock = some j) w1)) HX.out.2.2.2.1 (fun g hg => (hf6 g hg).imp id (fun h => Nat.le_trans (Nat.le_trans HX.out.2.2.1.size (by simp)) h))).2))))
      clear hs1 KA hR6 hl6 hr6 hk6 hf6
      go_wp2_with fail
      go_roundw
      case rel => exact ⟨vs ++ [x], HY.out.2.1, HY.out.1, HY.out.2.2.2.1, HY.out.2.2.2.2⟩
      case measure => have h1 := HY.out.2.2.1; have h2 := HX.out.2.2.2.2.2; omega
      --]]more
    ·
      --[[done
      replace hrun : (Instr.next (.pointer (some ⟨w.heap.size + 1, 0, none⟩)) false 0).run Try.prog wr = .ok (.tuple #[.bool false]) wr := hrun
      have hl80 : vs.length ≤ 80 := by omega
      obtain ⟨a5, p5, rfl⟩ := hv.slice
      have SI := Lib.hid (sort_ints _ vs wr hv (by omega))
      have q2 := HQ1.out.keep hK (fun j hj => by omega) (fun j hj e => by
        rcases hj with h | h | h
        · omega
        · simp [Value.ownBlock] at h
        · simp at h)
      have HX := Lib.hid (And.intro q2 (And.intro hK (And.intro hf (And.intro f1 (And.intro f2 hall)))))
      clear hR hv hK hf f1 f2 f3 hall q2 hs1
      obtain ⟨wo, rfl⟩ : ∃ wo : World, wo = wr := ⟨_, rfl⟩
      go_wp2_with fail
      refine SI.out.mono ?_
      rintro e w4 ⟨rfl, ys, hyp, hRy, hKy⟩
      have hf5 : ∀ g, (Value.slice a5 ys.length p5).ownBlock = some g → w1.heap.size ≤ g := fun g hg => HX.out.2.2.1 g (by cases a5 <;> exact hg)
      have hly : vs.length = ys.length := hyp.length_eq.symm
      rw [hly] at hRy ⊢
      have hs1 := HS1.out
      have q4 := HX.out.1.keep hKy (fun j hj => by have := HX.out.2.2.1 j hj; omega) (fun j hj e => by
        have := HX.out.2.2.1 j e
        rcases hj with h | h | h
        · omega
        · simp [Value.ownBlock] at h
        · simp at h)
      have hyl : ys.length ≤ 80 := by rw [hyp.length_eq]; exact hl80
      have hyn : ys.Nodup := hyp.nodup_iff.2 HX.out.2.2.2.1
      have hyk : ∀ k ∈ ys, k ∈ mv.map (·.1) := fun k hk => HX.out.2.2.2.2.1 k (hyp.mem_iff.1 hk)
      have hya : ∀ k ∈ mv.map (·.1), k ∈ ys := fun k hk => hyp.mem_iff.2 (HX.out.2.2.2.2.2 k hk)
      have hoff : Off w.heap.size (.slice none 0 0) (.map none) (.slice a5 ys.length p5) := fun g hg hj => by
        have := hf5 g hg
        rcases hj with h | h | h
        · omega
        · simp [Value.ownBlock] at h
        · simp at h
      have HY := Lib.hid (And.intro hyn (And.intro hyk hya))
      have ST := Lib.hid (show O2Rel w w.heap.size m (.slice a5 ys.length p5) ys (.int .i64 ((0 : Nat) : Int)) w4 from ⟨0, [], _, _, _, _, rfl, Nat.zero_le _, q4, ReadL.zero m, hRy, hoff⟩)
      clear hyp hRy hKy hs1 q4 hyn hyk hya hoff hf5 hly
      go_wp2_with fail
      go_loopw [28] (fun v28 wr => O2Rel w w.heap.size m (.slice a5 ys.length p5) ys v28 wr) (fun v28 _ => ys.length - (intOf v28).toNat)
      case atStart => exact ST.out
      case round =>
        obtain ⟨k, p, lv, mq, s, Z, rfl, hk, hq, hrd, hRy, hoff⟩ := hrel
        by_cases hkn : k < ys.length
        · obtain ⟨r, hr⟩ := elem_at hkn
          obtain ⟨gy, oy, rfl, hgy⟩ := hRy.addr hr
          have hy0 := row_int hRy hr
          have hrm : r ∈ mv.map (·.1) := HY.out.2.1 r (List.mem_of_getElem? hr)
          obtain ⟨v, hv⟩ : ∃ v, MapTy.get mv r = some v := by
            cases hg : MapTy.get mv r with
            | some v => exact ⟨v, rfl⟩
            | none =>
              obtain ⟨q, hq1, hq2⟩ := List.mem_map.1 hrm
              exact absurd hq2 (MapTy.get_none.1 hg q hq1)
          obtain ⟨E, hE, hRE⟩ := HMM.out.2.2 r v hv
          have hEl : E.length ≤ 80 := HHH.out.2.2 (r, E) (get_mem hE)
          obtain ⟨ae, pe, rfl⟩ := hRE.slice
          have hlk := RM.look (HMM.out.1.at_.keep (S := fun _ => False) (Keeps.of_below hq.below) (fun f => f)) r _ hv
          have hmbr : mb < wr.heap.size := Nat.lt_of_lt_of_le hmb hq.below.size
          have hrn : r ∉ ys.take k := by
            intro hm2
            obtain ⟨i, hi, hir⟩ := List.getElem_of_mem hm2
            have hik : i < k := by rw [List.length_take] at hi; omega
            have h1 : ys[i]? = some r := by rw [List.getElem_take] at hir; rw [← hir]; exact List.getElem?_eq_getElem _
            have := (List.getElem?_inj (by omega) HY.out.1).1 (h1.trans hr.symm)
            omega
          have hk0 : (0 : Int) ≤ (k : Int) := by omega
          have hk1 : (k : Int) < (ys.length : Int) := by omega
          have htk : ys.take (k + 1) = ys.take k ++ [r] := by rw [List.take_add_one, hr]; rfl
          have hgE : (MapTy.get m r).getD [] = E := by rw [hE]; rfl
          have ST2 := Lib.hid (show O3Rel w w.heap.size m (.slice (some ⟨gy, oy, none⟩) ys.length p5) ys k r E.length (.int .i64 ((0 : Nat) : Int)) wr from ⟨0, p, _, _, _, _, rfl, Nat.zero_le _, hq, hrd.into hrn, hRy, hoff⟩)
          have HE := Lib.hid (And.intro hRE (And.intro htk hgE))
          clear hr hrm hv hE hRE hrn hq hrd hRy hoff htk hgE
          obtain ⟨wp, rfl⟩ : ∃ wp : World, wp = wr := ⟨_, rfl⟩
          go_wp2_with fail
          go_loopw [36] (fun v36 wr => O3Rel w w.heap.size m (.slice (some ⟨gy, oy, none⟩) ys.length p5) ys k r E.length v36 wr) (fun v36 _ => E.length - (intOf v36).toNat)
          case atStart => exact ST2.out
          case round =>
            obtain ⟨j, p, lv, mq, s, Z, rfl, hj, hq, hrb, hRy, hoff⟩ := hrel
            have hb0 := hq.b0
            by_cases hjn : j < E.length
            · obtain ⟨ev, hev⟩ := elem_at hjn
              have hREr := HE.out.1.below hq.below
              obtain ⟨ge, oe, rfl, hge⟩ := hREr.addr hev
              obtain ⟨⟨c0, c1, c2, c3, c4, c5⟩, c6, c7, c8, c9, c10⟩ := row_ev hREr hev
              have hj0 : (0 : Int) ≤ (j : Int) := by omega
              have hj1 : (j : Int) < (E.length : Int) := by omega
              obtain ⟨hc0, hrb'⟩ := hrb.step HHH.out.1 (e := ev) (by rw [HE.out.2.2]; exact hev)
              have HZ := Lib.hid (And.intro hq (And.intro hrb' (And.intro hRy (And.intro hoff hc0))))
              clear hev hREr hq hrb hRy hoff hc0 hrb'
              go_wp2_with fail
              have BA : Below wr.heap.size wr (wr.alloc (.cells (evCells ev) 71)) := (Below.refl _ _).alloc (Nat.le_refl _) _
              refine ((HZ.out.1.old BA).applyW (by omega) ev r).mono ?_
              rintro e w6 ⟨lv', mq', hA⟩
              obtain ⟨hret, ⟨s', Z', hq6⟩, hK6, hF6⟩ := hA
              rw [HZ.out.2.2.2.2] at hret
              subst hret
              obtain ⟨ho6, hr6⟩ := HZ.out.2.2.2.1.step (HZ.out.2.2.1.below BA) hK6 hF6
              have HW := Lib.hid (And.intro hq6 (And.intro ho6 hr6))
              clear BA hq6 hK6 hF6 ho6 hr6 c0 c1 c2 c3 c4 c5 c6 c7 c8 c9 c10
              go_wp2_with fail
              go_roundw
              case rel => exact ⟨j + 1, _, lv', mq', s', Z', by simp, hjn, HW.out.1, HZ.out.2.1, HW.out.2.2, HW.out.2.1⟩
              case measure => simp [intOf]; omega
            · obtain rfl : j = E.length := by omega
              have HZ := Lib.hid (And.intro hq (And.intro hrb (And.intro hRy hoff)))
              clear hq hrb hRy hoff
              go_wp2_with fail
              go_roundw
              case rel =>
                refine ⟨k + 1, p, lv, mq, s, Z, by simp, hkn, HZ.out.1.more (by omega), ?_, HZ.out.2.2.1, HZ.out.2.2.2⟩
                rw [HE.out.2.1]
                have h := HZ.out.2.1
                rw [← HE.out.2.2] at h
                exact h.out
              case measure => simp [intOf]; omega
        · obtain rfl : k = ys.length := by omega
          rw [List.take_length] at hrd
          have hpl := hrd.last HHH.out.1 HHH.out.2.1 (fun r hr => HY.out.2.2 r (by rw [HMM.out.2.1]; exact hr))
          subst hpl
          have HZ := Lib.hid (hq.more (m := 6400) (by omega))
          clear hq hrd hRy hoff
          go_wp2_with fail
          go_ret2
          exact ⟨lv, mq, s, Z, rfl, HZ.out⟩
      --]]done
end Go.Proofs.Ytkhphnidopbjjaa
