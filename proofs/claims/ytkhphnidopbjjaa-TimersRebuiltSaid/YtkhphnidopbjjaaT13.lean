/- TimersRebuilt, walked. -/
import Derived.Test.YtkhphnidopbjjaaT12
namespace Go.Proofs.Ytkhphnidopbjjaa
open Go.RowKit Go.Own Go.Own.MapTy Go.Hm
open Go.Own.Cells (sz enc)
/-- the queue and the runs' histories side by side -/
structure RbM (w : World) (hb mb : Nat) (lv mq : Value) (s : Hp) (Z : List It) (l : List Th) (k : Nat) (mv : List (Int × Value)) (m : List (Int × List Ev)) (wr : World) : Prop where
  q : QM w hb lv mq s Z l k wr
  st : MapSt RM wr mb mv
  rows : Rows2 wr mv m
  off : ∀ r v, MapTy.get mv r = some v → ∀ g, v.ownBlock = some g → ¬ foot hb lv mq g ∧ g ≠ mb ∧ w.heap.size ≤ g ∧ ∀ r' v', MapTy.get mv r' = some v' → v'.ownBlock = some g → r' = r
  mbf : ¬ foot hb lv mq mb
  mbw : w.heap.size ≤ mb
  lenm : mv.length ≤ k
  lenE : ∀ p ∈ m, p.2.length ≤ k
section
variable {w wr w2 : World} {hb mb k : Nat} {lv mq : Value} {s : Hp} {Z : List It} {l : List Th} {mv : List (Int × Value)} {m : List (Int × List Ev)}
theorem RbM.old (h : RbM w hb mb lv mq s Z l k mv m wr) (K : Below wr.heap.size wr w2) : RbM w hb mb lv mq s Z l k mv m w2 :=
  ⟨h.q.old K, h.st.keep (S := fun _ => False) (Keeps.of_below K) (fun f => f), h.rows.below K, h.off, h.mbf, h.mbw, h.lenm, h.lenE⟩
theorem RbM.apply (h : RbM w hb mb lv mq s Z l k mv m wr) {run : Int} {v : Ev} {e : Ending} {lv' mq' : Value} (A : ApRel w hb lv mq l k run v wr e w2 lv' mq') :
    ∃ s' Z', RbM w hb mb lv' mq' s' Z' (applyL l run v).1 (k + 1) mv m w2 := by
  obtain ⟨s', Z', hq⟩ := A.q
  have hm : ∀ g, g < wr.heap.size → ¬ foot hb lv mq g → ¬ foot hb lv' mq' g := fun g hg hn f => by
    rcases A.foot g f with f | f
    · exact hn f
    · omega
  refine ⟨s', Z', hq, h.st.keep A.keep h.mbf, ⟨h.rows.1, fun r v hv => ?_⟩, fun r v hv g hg => ?_, hm mb h.st.at_.lt h.mbf, h.mbw, by have := h.lenm; omega, fun p hp => by have := h.lenE p hp; omega⟩
  · obtain ⟨E, h1, h2⟩ := h.rows.2 r v hv
    exact ⟨E, h1, h2.keep A.keep (fun g hg f => (h.off r v hv g hg).1 f)⟩
  · obtain ⟨E, h1, h2⟩ := h.rows.2 r v hv
    obtain ⟨a1, a2, a3, a4⟩ := h.off r v hv g hg
    exact ⟨hm g (h2.lt hg) a1, a2, a3, a4⟩
/-- what stands at a run -/
theorem RbM.at_ (h : RbM w hb mb lv mq s Z l k mv m wr) (r : Int) : ∃ v, (∀ W : World, Same wr mb W → (Instr.lookup 93 (.map (some mb)) (.int .i64 r) false).run Try.prog W = .ok v W) ∧ RowAt wr 71 v ((MapTy.get m r).getD []) ∧
    (MapTy.get mv r = some v ∨ MapTy.get mv r = none ∧ v = .slice none 0 0) := by
  have hl := fun W hW => h.st.at_.lookS rmlaw Try.underlying93 (z := .slice none 0 0) (fun W => by kernel_rfl) r false W hW
  cases hg : MapTy.get mv r with
  | some v =>
    obtain ⟨E, h1, h2⟩ := h.rows.2 r v hg
    refine ⟨v, fun W hW => ?_, by rw [h1]; exact h2, .inl rfl⟩
    have := hl W hW
    rw [hg] at this
    exact this
  | none =>
    have hm : MapTy.get m r = none := by
      refine MapTy.get_none.2 fun q hq e => ?_
      have : q.1 ∈ mv.map (·.1) := by rw [h.rows.1]; exact List.mem_map.2 ⟨q, hq, rfl⟩
      obtain ⟨p, hp, hpe⟩ := List.mem_map.1 this
      exact MapTy.get_none.1 hg p hp (hpe.trans e)
    refine ⟨.slice none 0 0, fun W hW => ?_, by rw [hm]; exact RowAt.nil _ _, .inr ⟨rfl, rfl⟩⟩
    have := hl W hW
    rw [hg] at this
    exact this
theorem upd_keys_eq {α β : Type} {a : List (Int × α)} {b : List (Int × β)} (h : a.map (·.1) = b.map (·.1)) (r : Int) (x : α) (y : β) : (upd a r x).map (·.1) = (upd b r y).map (·.1) := by
  have hi : (MapTy.get a r).isSome = (MapTy.get b r).isSome := by
    rw [Bool.eq_iff_iff]
    have key : ∀ {γ : Type} (c : List (Int × γ)), (MapTy.get c r).isSome = true ↔ r ∈ c.map (·.1) := fun c => by
      constructor
      · intro hc
        obtain ⟨z, hz⟩ := Option.isSome_iff_exists.1 hc
        exact List.mem_map.2 ⟨(r, z), get_mem hz, rfl⟩
      · intro hc
        obtain ⟨p, hp, e⟩ := List.mem_map.1 hc
        cases hg : MapTy.get c r with
        | some _ => rfl
        | none => exact absurd e (MapTy.get_none.1 hg p hp)
    rw [key a, key b, h]
  rw [upd_keys, upd_keys, hi, h]
theorem mem_upd {α : Type} {a : List (Int × α)} (hn : (a.map (·.1)).Nodup) {r : Int} {x : α} {p : Int × α} (hp : p ∈ upd a r x) : p = (r, x) ∨ p ∈ a := by
  have hg := get_of_mem (upd_nodup hn r x) (show (p.1, p.2) ∈ _ from hp)
  rw [get_upd] at hg
  split at hg
  · rename_i h
    left
    rw [← h, Option.some.inj hg]
  · exact .inr (get_mem hg)
/-- an event is added to a run's history -/
theorem RbM.put (h : RbM w hb mb lv mq s Z l k mv m wr) (hnd : (m.map (·.1)).Nodup) {r : Int} {v v1 : Value} {ev : Ev} {w5 W : World} (hv : MapTy.get mv r = some v ∨ MapTy.get mv r = none ∧ v = .slice none 0 0) (hE : ((MapTy.get m r).getD []).length + 1 ≤ k) (hmk : mv.length + 1 ≤ k ∨ (MapTy.get mv r).isSome = true)
    (K5 : Keeps (fun j => v.ownBlock = some j) wr w5) (R5 : RowAt w5 71 v1 (((MapTy.get m r).getD []) ++ [ev])) (F5 : ∀ g, v1.ownBlock = some g → v.ownBlock = some g ∨ wr.heap.size ≤ g)
    (KW : Keeps (fun j => j = mb) w5 W) (ST : MapSt RM W mb (upd mv r v1)) : RbM w hb mb lv mq s Z l k (upd mv r v1) (upd m r (((MapTy.get m r).getD []) ++ [ev])) W := by
  have hwr := h.q.below.size
  have ow : ∀ g, v.ownBlock = some g → ¬ foot hb lv mq g ∧ g ≠ mb ∧ w.heap.size ≤ g ∧ g < wr.heap.size ∧ ∀ r' v', MapTy.get mv r' = some v' → v'.ownBlock = some g → r' = r := fun g hg => by
    rcases hv with hv | ⟨_, rfl⟩
    · obtain ⟨E, _, h2⟩ := h.rows.2 r v hv
      obtain ⟨a1, a2, a3, a4⟩ := h.off r v hv g hg
      exact ⟨a1, a2, a3, h2.lt hg, a4⟩
    · simp [Value.ownBlock] at hg
  have K6 : Keeps (fun j => v.ownBlock = some j ∨ j = mb) wr W := (K5.mono (fun _ _ h => .inl h)).comp (KW.mono (fun _ _ h => .inr h))
  have hml := h.st.at_.lt
  have n1 : ∀ g, v1.ownBlock = some g → ¬ foot hb lv mq g ∧ g ≠ mb ∧ w.heap.size ≤ g := fun g hg => by
    rcases F5 g hg with h1 | h1
    · obtain ⟨a1, a2, a3, _⟩ := ow g h1
      exact ⟨a1, a2, a3⟩
    · exact ⟨fun f => by have := h.q.hv.lt f; omega, by omega, by omega⟩
  refine ⟨h.q.keep K6 (fun j hj => ?_) (fun j hj hj2 => ?_), ST, ⟨upd_keys_eq h.rows.1 _ _ _, fun s u hu => ?_⟩, fun s u hu g hg => ?_, h.mbf, h.mbw, ?_, fun p hp => ?_⟩
  · rcases hj with hj | rfl
    · exact (ow j hj).2.2.1
    · exact h.mbw
  · rcases hj2 with hj2 | rfl
    · exact (ow j hj2).1 hj
    · exact h.mbf hj
  · rw [get_upd] at hu ⊢
    by_cases hs : s = r
    · rw [if_pos hs] at hu ⊢
      cases hu
      exact ⟨_, rfl, R5.keep KW (fun g hg e => (n1 g hg).2.1 e)⟩
    · rw [if_neg hs] at hu ⊢
      obtain ⟨E, h1, h2⟩ := h.rows.2 s u hu
      refine ⟨E, h1, h2.keep K6 (fun g hg hj => ?_)⟩
      rcases hj with hj | hj
      · exact hs ((ow g hj).2.2.2.2 s u hu hg)
      · exact (h.off s u hu g hg).2.1 hj
  · rw [get_upd] at hu
    by_cases hs : s = r
    · rw [if_pos hs] at hu
      cases hu
      obtain ⟨a1, a2, a3⟩ := n1 g hg
      refine ⟨a1, a2, a3, fun r' v' hv' hg' => ?_⟩
      rw [get_upd] at hv'
      by_cases hr' : r' = r
      · rw [hr', hs]
      · rw [if_neg hr'] at hv'
        rcases F5 g hg with h1 | h1
        · exact absurd ((ow g h1).2.2.2.2 r' v' hv' hg') hr'
        · obtain ⟨E, _, h2⟩ := h.rows.2 r' v' hv'
          have := h2.lt hg'
          omega
    · rw [if_neg hs] at hu
      obtain ⟨a1, a2, a3, a4⟩ := h.off s u hu g hg
      refine ⟨a1, a2, a3, fun r' v' hv' hg' => ?_⟩
      rw [get_upd] at hv'
      by_cases hr' : r' = r
      · rw [if_pos hr'] at hv'
        cases hv'
        rcases F5 g hg' with h1 | h1
        · rw [hr']; exact ((ow g h1).2.2.2.2 s u hu hg).symm
        · obtain ⟨E, _, h2⟩ := h.rows.2 s u hu
          have := h2.lt hg
          omega
      · rw [if_neg hr'] at hv'
        exact a4 r' v' hv' hg'
  · rw [length_upd]
    have := h.lenm
    split
    · omega
    · rename_i hns
      rcases hmk with hmk | hmk
      · exact hmk
      · exact absurd hmk hns
  · rcases mem_upd hnd hp with rfl | hp
    · simpa using hE
    · exact h.lenE p hp
end
def TrRel (w : World) (hb mb n : Nat) (v19 : Value) (wr : World) : Prop :=
  ∃ (k : Nat) (l : List Th) (lv mq : Value) (s : Hp) (Z : List It) (mv : List (Int × Value)) (m : List (Int × List Ev)), v19 = .int .i64 k ∧ k ≤ n ∧ RbM w hb mb lv mq s Z l k mv m wr ∧ Hist l m
set_option maxRecDepth 100000 in
set_option maxHeartbeats 16000000 in
theorem trebuilt_walk (sc : List (Int × Ev)) (a : Option Addr) (cap : Nat) (now : Int) (w : World) (hd : ReadsSteps w a sc) (hmax : sc.length ≤ 9223372036854775807) :
    Calls Try.prog 11 #[.slice a sc.length cap, .int .i64 now] w fun e w' => e = .returned (.bool true) ∧ Below w.heap.size w w' := by
  have HD := Lib.hid hd
  clear hd
  by_cases hn : 80 < sc.length
  · go_enter Try.func11, Try.ntmps11
    go_wp2_with (go_at_call 29; refine (waits_true _).mono ?_; rintro e w1 ⟨rfl, hB1⟩)
    go_ret
    exact ⟨rfl, hB1⟩
  · have hn' : sc.length ≤ 80 := by omega
    have hmm := @run_makeMap Try.prog
    go_enter Try.func11, Try.ntmps11
    go_wp2_with (go_at_call 29; refine (waits_true _).mono ?_; rintro e w1 ⟨rfl, hB1⟩)
    go_loopw [19] (fun v19 wr => TrRel w w1.heap.size (w1.heap.size + 1) sc.length v19 wr) (fun v19 _ => sc.length - (intOf v19).toNat)
    case atStart =>
      --[[start
      have hb1 := hB1.size
      have q0 := QM.zero hB1
      have KA : Below (w1.alloc (.cells #[.slice none 0 0, .map none, .int .u64 0] 65)).heap.size (w1.alloc (.cells #[.slice none 0 0, .map none, .int .u64 0] 65)) ((w1.alloc (.cells #[.slice none 0 0, .map none, .int .u64 0] 65)).alloc (.map #[] 0)) := (Below.refl _ _).alloc (Nat.le_refl _) _
      have hst := MapSt.made (w1.alloc (.cells #[.slice none 0 0, .map none, .int .u64 0] 65)) RM
      rw [World.size_alloc] at hst
      refine ⟨0, [], _, _, _, _, [], [], rfl, Nat.zero_le _, ⟨q0.old KA, hst, ⟨rfl, fun r v hv => by simp [MapTy.get] at hv⟩, fun r v hv => by simp [MapTy.get] at hv, fun f => ?_, by omega, by simp, by simp⟩, Hist.zero⟩
      rcases f with h | h | h
      · omega
      · simp [Value.ownBlock] at h
      · simp at h
      --]]start
    case round =>
      obtain ⟨k, l, lv, mq, s, Z, mv, m, rfl, hk, hQ, hH⟩ := hrel
      have hb0 := hQ.q.b0
      have hmb := hQ.st.at_.lt
      generalize hhb : w1.heap.size = hbk at *
      by_cases hkn : k < sc.length
      · obtain ⟨⟨run, v⟩, hp⟩ := elem_at hkn
        obtain ⟨b, off, rfl, hbl, -, hcs⟩ := HD.out k _ hp
        obtain ⟨⟨c0, c1, c2, c3, c4, c5⟩, c6, c7, c8, c9, c10, c11⟩ := steps_at hQ.q.below hbl hcs
        have hblr : b < wr.heap.size := Nat.lt_of_lt_of_le hbl hQ.q.below.size
        have hk0 : (0 : Int) ≤ (k : Int) := by omega
        have hk1 : (k : Int) < (sc.length : Int) := by omega
        have HQ := Lib.hid (And.intro hQ hH)
        clear hp hcs hQ hH hhb
        go_wp2_with fail
        have BX := Lib.hid (heap_alloc_new wr (.cells (stCells run v) 73))
        have KA : Below wr.heap.size wr (wr.alloc (.cells (stCells run v) 73)) := (Below.refl _ _).alloc (Nat.le_refl _) _
        have hQA := HQ.out.1.old KA
        refine (hQA.q.apply (by omega) v run).mono ?_
        rintro e w2 ⟨lv', mq', hA⟩
        obtain ⟨s', Z', hQ2⟩ := hQA.apply hA
        have hret := hA.ret
        have bx2 : w2.heap[wr.heap.size]? = some (.cells (stCells run v) 73 (0, 0)) := (hA.keep.block _ (by simp) (fun f => by have := HQ.out.1.q.hv.lt f; omega)).trans BX.out
        have hmb2 := hQ2.st.at_.lt
        obtain ⟨c, hc⟩ : ∃ c, (applyL l run v).2 = c := ⟨_, rfl⟩
        rw [hc] at hret
        subst hret
        have HQ2 := Lib.hid (And.intro hQ2 (And.intro bx2 HQ.out.1.q.tr.sorted))
        clear hQA hA hQ2 bx2 KA c0 c1 c2 c3 c4 c5 c6 c7 c8 c9 c10 c11
        by_cases hc0 : c = 0
        ·
          --[[taken
          subst hc0
          have hnd := HQ.out.2.nd
          have hH2 := HQ.out.2.step HQ2.out.2.2 (r := run) (e := v) hc
          obtain ⟨v0, hlk, hrow, hv0⟩ := HQ2.out.1.at_ run
          have hEl : ((MapTy.get m run).getD []).length ≤ k := by
            cases hg : MapTy.get m run with
            | none => simp
            | some E => exact HQ.out.1.lenE (run, E) (get_mem hg)
          have hown : ∀ g, v0.ownBlock = some g → g ≠ hbk + 1 ∧ g < wr.heap.size := fun g hg => by
            rcases hv0 with h | ⟨_, rfl⟩
            · obtain ⟨E, _, h2⟩ := HQ.out.1.rows.2 run v0 h
              exact ⟨(HQ.out.1.off run v0 h g hg).2.1, h2.lt hg⟩
            · simp [Value.ownBlock] at hg
          obtain ⟨E0, hE0⟩ : ∃ E0, E0 = (MapTy.get m run).getD [] := ⟨_, rfl⟩
          rw [← hE0] at hrow hEl hH2
          obtain ⟨⟨x0, x1, x2, x3, x4, x5⟩, x6, x7, x8, x9, x10, x11, lx⟩ := box12 HQ2.out.2.1
          have HV := Lib.hid (And.intro hrow (And.intro hv0 (And.intro hown (And.intro hnd (And.intro hH2 hE0)))))
          have hne : ¬ wr.heap.size = hbk + 1 := by omega
          have hne2 : ¬ hbk + 1 = wr.heap.size := by omega
          clear hrow hv0 hown hnd hH2 hE0 hc
          go_wp2_with fail
          go_region_held3 (fun W => W.cell? ⟨wr.heap.size, 0, none⟩ = some (.int .i64 run) ∧ W.cell? ⟨wr.heap.size, 1, none⟩ = some (.int .i64 v.id) ∧ W.cell? ⟨wr.heap.size, 2, none⟩ = some (.int .i64 v.time) ∧ W.cell? ⟨wr.heap.size, 3, none⟩ = some (.int .i64 v.kind) ∧ W.cell? ⟨wr.heap.size, 4, none⟩ = some (.int .i64 v.a) ∧ W.cell? ⟨wr.heap.size, 5, none⟩ = some (.int .i64 v.b) ∧ W.cell? ⟨wr.heap.size, 6, none⟩ = some (.string v.nm) ∧ W.cell? ⟨wr.heap.size, 7, none⟩ = some (.string v.tx) ∧ W.cell? ⟨wr.heap.size, 8, none⟩ = some (.int .i64 v.vk) ∧ W.cell? ⟨wr.heap.size, 9, none⟩ = some (.int .i64 v.vn) ∧ W.cell? ⟨wr.heap.size, 10, none⟩ = some (.string v.vs) ∧ W.cell? ⟨wr.heap.size, 11, none⟩ = some (.slice v.la v.ln v.lc)) (first | go_keep | exact ⟨y0, y1, y2, y3, y4, y5, y6, y7, y8, y9, y10, y11⟩ | go_simp)
            ((refine step_apps (o := ⟨some 39, _, _, _, _, _⟩) elemEv (by rfl) (.tmp 35) (.tmp 38) (by rfl) (by rfl) (by rfl) ((HV.out.1.drew).alloc _) (RowAt.lit (α := Ev) (y := v) (heap_alloc_new _ _)) (by simp; omega) (by unfold maxLen; simp; omega) (E0.length + 1) rfl ?_; intro a5 q5 w5 hr5 hk5 hf5; have K5 : Keeps (fun j => v0.ownBlock = some j) w2 w5 := ((((Keeps.refl _ w2).drew).alloc _).comp hk5); have st5 := HQ2.out.1.st.keep K5 (fun h => (HV.out.2.2.1 _ h).1 rfl); obtain ⟨o, hup, hmap⟩ := MapSt.store st5 rmlaw Try.underlying93 run (.slice a5 (E0.length + 1) q5); replace hup : ∀ W : World, blk W (hbk + 1) = blk w5 (hbk + 1) → (Instr.mapUpdate 93 (.map (some (hbk + 1))) (.int .i64 run) (.slice a5 (E0.length + 1) q5)).run Try.prog W = .ok () (setBlock W (hbk + 1) o) := hup; obtain ⟨⟨y0, y1, y2, y3, y4, y5⟩, y6, y7, y8, y9, y10, y11, ly⟩ := box12 ((K5.block _ lx (fun h => by have := (HV.out.2.2.1 _ h).2; omega)).trans HQ2.out.2.1)))
          all_goals
            have HP := Lib.hid (And.intro K5 (And.intro hr5 (And.intro hf5 (And.intro hmap st5.at_.lt))))
            clear x0 x1 x2 x3 x4 x5 x6 x7 x8 x9 x10 x11 y0 y1 y2 y3 y4 y5 y6 y7 y8 y9 y10 y11 K5 hr5 hf5 hmap st5 hk5 hlk
            go_wp2_with fail
            go_roundw
            case rel =>
              have F5 : ∀ g, (Value.slice a5 (E0.length + 1) q5).ownBlock = some g → v0.ownBlock = some g ∨ w2.heap.size ≤ g := fun g hg => (HP.out.2.2.1 g hg).imp id (fun h => Nat.le_trans (by simp) h)
              have KW : Keeps (fun j => j = hbk + 1) w5 (setBlock w5 (hbk + 1) o) := (Keeps.refl (fun j => j = hbk + 1) w5).setBlock (.inl rfl) o
              have R5 : RowAt w5 71 (.slice a5 (E0.length + 1) q5) (((MapTy.get m run).getD []) ++ [v]) := by rw [← HV.out.2.2.2.2.2]; exact HP.out.2.1
              have hst := HP.out.2.2.2.1 _ (setBlock_same w5 _ o HP.out.2.2.2.2)
              have := HQ2.out.1.put HV.out.2.2.2.1 HV.out.2.1 (by rw [← HV.out.2.2.2.2.2]; omega) (.inl (by have := HQ.out.1.lenm; omega)) HP.out.1 R5 F5 KW hst
              exact ⟨k + 1, _, lv', mq', s', Z', _, _, by simp, hkn, this, by rw [← HV.out.2.2.2.2.2]; exact HV.out.2.2.2.2.1⟩
            case measure => simp [intOf]; omega
          --]]taken
        ·
          --[[refused
          have hc1 : (c == 0) = false := by simp [hc0]
          have hH2 := HQ.out.2.same (r := run) (e := v) (by rw [hc]; exact hc0)
          have HH2 := Lib.hid hH2
          clear hH2 hc hc0
          go_wp2_with fail
          go_roundw
          case rel => exact ⟨k + 1, _, lv', mq', s', Z', mv, m, by simp, hkn, HQ2.out.1, HH2.out⟩
          case measure => simp [intOf]; omega
          --]]refused
      · obtain rfl : k = sc.length := by omega
        --[[last
        have hs := hQ.q.tr.sorted
        have hll : l.length ≤ 80 := by have := hQ.q.hl; omega
        have OF := Lib.hid (of_any (hbk + 1) mv m l wr hQ.st hQ.rows hH hs (by have := hQ.lenm; omega) (fun p hp => by have := hQ.lenE p hp; omega))
        have HQ := Lib.hid hQ.q
        clear hQ hH hs hhb
        go_wp2_with fail
        refine OF.out.mono ?_
        rintro e w5 ⟨lp, mp, sp, Zp, rfl, qp⟩
        have q5 := HQ.out.old qp.below
        have SQ := Lib.hid (fun (W : World) (K : Below w5.heap.size w5 W) => sameQ_true _ _ _ _ _ _ _ _ _ _ _ _ _ W (qp.old K).hv (qp.old K).ref (qp.old K).tr (q5.old K).hv (q5.old K).ref (q5.old K).tr (by omega))
        have SR := Lib.hid (fun (W : World) (K : Below w5.heap.size w5 W) => sameQ_true _ _ _ _ _ _ _ _ _ _ _ _ _ W (q5.old K).hv (q5.old K).ref (q5.old K).tr (qp.old K).hv (qp.old K).ref (qp.old K).tr (by omega))
        have FP := Lib.hid (fun (W : World) (K : Below w5.heap.size w5 W) => fires_any now _ _ _ _ _ _ _ W (qp.old K).hv (qp.old K).ref (qp.old K).tr (by have := qp.len; omega))
        have FQ := Lib.hid (fun (W : World) (K : Below w5.heap.size w5 W) => fires_any now _ _ _ _ _ _ _ W (q5.old K).hv (q5.old K).ref (q5.old K).tr (by have := q5.len; omega))
        have hfl : (firesL now (dueTh now l) []).length ≤ 16384 := by
          have h1 := firesL_len now (dueTh now l) []
          have h2 := List.length_filter_le (fun x : Th => decide (x.due ≤ now)) l
          unfold dueTh at *
          omega
        have H5 := Lib.hid q5.below
        clear q5 qp
        go_wp2_with fail
        refine (SQ.out _ (Below.refl _ _)).mono ?_
        rintro e w6 ⟨rfl, hB6⟩
        have H6 := Lib.hid hB6
        clear hB6
        go_wp2_with fail
        refine (SR.out _ H6.out).mono ?_
        rintro e w7 ⟨rfl, hB7⟩
        have H7 := Lib.hid (H6.out.trans (hB7.mono H6.out.size))
        clear hB7
        go_wp2_with fail
        refine (FP.out _ H7.out).mono ?_
        rintro e w8 ⟨v8, rfl, hR8, hB8, -⟩
        have H8 := Lib.hid (And.intro (H7.out.trans (hB8.mono H7.out.size)) hR8)
        clear hB8 hR8
        go_wp2_with fail
        refine (FQ.out _ H8.out.1).mono ?_
        rintro e w9 ⟨v9, rfl, hR9, hB9, -⟩
        have H9 := Lib.hid (And.intro (H8.out.1.trans (hB9.mono H8.out.1.size)) (And.intro (H8.out.2.below hB9) hR9))
        clear hB9 hR9
        go_wp2_with fail
        refine (sameF_true _ _ _ _ H9.out.2.1 H9.out.2.2 hfl).mono ?_
        rintro e w10 ⟨rfl, hB10⟩
        have H10 := Lib.hid (H9.out.1.trans (hB10.mono H9.out.1.size))
        clear hB10
        go_wp2_with fail
        go_ret
        exact ⟨rfl, H5.out.trans (H10.out.mono H5.out.size)⟩
        --]]last
end Go.Proofs.Ytkhphnidopbjjaa
