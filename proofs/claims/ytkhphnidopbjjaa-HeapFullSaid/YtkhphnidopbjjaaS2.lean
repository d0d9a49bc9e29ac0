/- HeapFull, walked: as many things as may be are put, one more isn't; what is taken makes room. -/
import Derived.Test.YtkhphnidopbjjaaH8
import Derived.Test.YtkhphnidopbjjaaLib2
import Derived.Test.YtkhphnidopbjjaaHm3
namespace Go.Proofs.Ytkhphnidopbjjaa
open Go.RowKit Go.Own Go.Own.MapTy Go.Hm
open Go.Own.Cells (sz enc)

def fitem (i : Nat) : It := ⟨0, 0, i, ((i % 7 : Nat) : Int), i + 1⟩

structure FOk (k : Nat) (s : Hp) : Prop where
  good : Hm.Good s
  len : s.L.length = k
  seq : s.seq = k
  all : ∀ y ∈ s.L, ∃ i, i < k ∧ y = fitem i
  has : 0 < k → fitem 0 ∈ s.L

theorem FOk.absent {s : Hp} {k : Nat} (h : FOk k s) : (MapTy.get s.M ⟨0, 0, (k : Int)⟩).isSome = false := by
  cases h' : MapTy.get s.M ⟨0, 0, (k : Int)⟩ with
  | none => rfl
  | some v =>
    obtain ⟨j, y, _, h2, h3⟩ := h.good.idx.only _ _ h'
    obtain ⟨i, hi, rfl⟩ := h.all y (List.mem_of_getElem? h2)
    simp only [fitem, It.key] at h3
    injection h3 with _ _ h4
    omega
theorem FOk.other {s : Hp} {k : Nat} (h : FOk k s) (r c : Int) (hr : r ≠ 0) : (MapTy.get s.M ⟨r, 0, c⟩).isSome = false := by
  cases h' : MapTy.get s.M ⟨r, 0, c⟩ with
  | none => rfl
  | some v =>
    obtain ⟨j, y, _, h2, h3⟩ := h.good.idx.only _ _ h'
    obtain ⟨i, hi, rfl⟩ := h.all y (List.mem_of_getElem? h2)
    simp only [fitem, It.key] at h3
    injection h3 with h4 _ _
    omega
theorem FOk.zero : FOk 0 hp0 := ⟨Hm.Good.zero, rfl, rfl, by simp [hp0], fun h => by omega⟩
theorem FOk.step {s : Hp} {k : Nat} (h : FOk k s) (hk : k < 16384) : ∃ s', s.put ⟨0, 0, k⟩ ((k % 7 : Nat) : Int) = (s', 0) ∧ FOk (k + 1) s' := by
  obtain ⟨g1, g2, g3, g4⟩ := h.good.put (k := ⟨0, 0, (k : Int)⟩) (due := ((k % 7 : Nat) : Int)) h.absent (by have := h.len; omega)
  refine ⟨_, Prod.ext rfl g4, g1, ?_, ?_, ?_, ?_⟩
  · have e1 := g2.length_eq
    have e2 := h.len
    rw [e1, List.length_append, e2]
    rfl
  · rw [g3, h.seq]; simp
  · intro y hy
    rcases List.mem_append.1 (g2.mem_iff.1 hy) with h' | h'
    · obtain ⟨i, hi, e⟩ := h.all y h'
      exact ⟨i, by omega, e⟩
    · simp at h'
      refine ⟨k, by omega, ?_⟩
      rw [h', h.seq]
      simp [fitem]
  · intro _
    refine g2.mem_iff.2 ?_
    rcases Nat.eq_zero_or_pos k with h0 | h0
    · subst h0
      refine List.mem_append.2 (.inr ?_)
      rw [h.seq]
      simp [fitem]
    · exact List.mem_append.2 (.inl (h.has h0))
theorem FOk.full {s : Hp} (h : FOk 16384 s) (c : Int) : s.put ⟨1, 0, c⟩ 0 = (s, 3) := put_full (h.other 1 c (by omega)) (by have := h.len; omega)
theorem FOk.top {s : Hp} (h : FOk 16384 s) : s.L[0]? = some ⟨0, 0, 0, 0, 1⟩ := by
  have hp : 0 < s.L.length := by have := h.len; omega
  have hx : s.L[0]? = some s.L[0] := by simp [hp]
  rw [hx]
  obtain ⟨i, hi, e⟩ := h.all _ (List.mem_of_getElem? hx)
  obtain ⟨j, hj, hyj⟩ := List.getElem_of_mem (h.has (by omega))
  have := h.good.heap.min hx j (fitem 0) (by rw [List.getElem?_eq_getElem hj, hyj])
  rw [e] at this ⊢
  unfold Hm.le at this
  simp only [fitem] at this
  have : i = 0 := by omega
  subst this
  simp [fitem]
theorem FOk.last {s : Hp} (h : FOk 16384 s) : ∃ s', (s.take 0).put ⟨2, 0, 0⟩ 1 = (s', 0) ∧ s'.L.length = 16384 ∧ (s.take 0).seq = 16384 := by
  obtain ⟨g1, g2, g3⟩ := h.good.take h.top
  have hl : (s.take 0).L.length = 16383 := by rw [take_len, h.len]
  have ha : (MapTy.get (s.take 0).M ⟨2, 0, 0⟩).isSome = false := by
    cases h' : MapTy.get (s.take 0).M ⟨2, 0, 0⟩ with
    | none => rfl
    | some v =>
      obtain ⟨j, y, _, h2, h3⟩ := g1.idx.only _ _ h'
      obtain ⟨i, hi, rfl⟩ := h.all y (g2.mem_iff.1 (List.mem_cons_of_mem _ (List.mem_of_getElem? h2)))
      simp only [fitem, It.key] at h3
      injection h3 with h4 _ _
      omega
  obtain ⟨k1, k2, k3, k4⟩ := g1.put (k := ⟨2, 0, 0⟩) (due := 1) ha (by omega)
  refine ⟨_, Prod.ext rfl k4, ?_, by rw [g3, h.seq]; rfl⟩
  have e1 := k2.length_eq
  rw [e1, List.length_append, hl]
  rfl

/-- between two rounds: the heap has its first k things -/
def F1Rel (w : World) (hb : Nat) (v : Value) (wr : World) : Prop :=
  ∃ (k : Nat) (s : Hp) (lv mv : Value), v = .int .i64 k ∧ k ≤ 16384 ∧ HV wr hb lv mv 28 s ∧ FOk k s ∧ Below w.heap.size w wr ∧ ∀ j, foot hb lv mv j → w.heap.size ≤ j
def F2Rel (w : World) (hb : Nat) (more : Int) (v : Value) (wr : World) : Prop :=
  ∃ (k : Nat) (s : Hp) (lv mv : Value), v = .int .i64 k ∧ k ≤ more ∧ HV wr hb lv mv 28 s ∧ FOk 16384 s ∧ Below w.heap.size w wr ∧ ∀ j, foot hb lv mv j → w.heap.size ≤ j

set_option maxRecDepth 100000 in
set_option maxHeartbeats 2000000 in
theorem full_walk (more : Int) (w : World) :
    Calls Try.prog 4 #[.int .i64 more] w fun e w' => e = .returned (.bool true) ∧ Below w.heap.size w w' := by
  by_cases hn : more < 0 ∨ 5 < more
  · rcases hn with h1 | h1
    · go_enter Try.func4, Try.ntmps4
      go_wp2_with (go_at_call 12; refine (keeps_true _).mono ?_; rintro e w1 ⟨rfl, hB1⟩)
      all_goals
        go_ret
        exact ⟨rfl, hB1⟩
    · have h2 : ¬ more < 0 := by omega
      go_enter Try.func4, Try.ntmps4
      go_wp2_with (go_at_call 12; refine (keeps_true _).mono ?_; rintro e w1 ⟨rfl, hB1⟩)
      all_goals
        go_ret
        exact ⟨rfl, hB1⟩
  · have hm0 : 0 ≤ more := by omega
    have hm5 : more ≤ 5 := by omega
    have hlt : ¬ more < 0 := by omega
    go_enter Try.func4, Try.ntmps4
    go_wp2_with (go_at_call 12; refine (keeps_true _).mono ?_; rintro e w1 ⟨rfl, hB1⟩)
    go_loopw [16] (fun v wr => F1Rel w w1.heap.size v wr) (fun v _ => 16384 - (intOf v).toNat)
    case atStart =>
      refine ⟨0, hp0, .slice none 0 0, .map none, rfl, Nat.zero_le _, HV.zero w1 _, FOk.zero, hB1.alloc hB1.size _, ?_⟩
      have := hB1.size
      rintro j (h | h | h)
      · omega
      · simp [Value.ownBlock] at h
      · simp at h
    case round =>
      obtain ⟨k, s, lv, mv, rfl, hk, hV, hF, hB, hf⟩ := hrel
      by_cases hkn : k < 16384
      · obtain ⟨s', hput, hF'⟩ := hF.step hkn
        have hrem : Int.tmod (k : Int) 7 = ((k % 7 : Nat) : Int) := by rw [Int.tmod_eq_emod_of_nonneg (by omega)]; simp
        have PT := Lib.hid (putTo_mk (hb := w1.heap.size) hput (by have := hF.seq; omega))
        have FV := Lib.hid hV
        have FF := Lib.hid hF'
        clear hV hF hput hF'
        go_wp2_with (go_at_call 13; refine (PT.out _ _ _ FV.out).mono ?_; rintro e w2 ⟨lv', mv', rfl, hV2, hK2, hF2⟩)
        go_roundw
        case rel =>
          have hw := hB.size
          refine ⟨k + 1, s', lv', mv', rfl, hkn, hV2, FF.out, hB.trans (hK2.below hw (fun j hj h => by have := hf j h; omega)), fun j hj => ?_⟩
          rcases hF2 j hj with h | h
          · exact hf j h
          · omega
        case measure => simp [intOf]; omega
      · have hk1 : k = 16384 := by omega
        have FV := Lib.hid hV
        rw [hk1] at hF
        have FF := Lib.hid hF
        clear hV hF hk1
        obtain ⟨kk, rfl⟩ : ∃ kk : Nat, kk = k := ⟨_, rfl⟩
        obtain ⟨wo, rfl⟩ : ∃ wo : World, wo = wr := ⟨_, rfl⟩
        go_wp2_with fail
        go_loopw [27] (fun v wx => F2Rel w w1.heap.size more v wx) (fun v _ => more.toNat - (intOf v).toNat)
        case atStart => exact ⟨0, s, lv, mv, rfl, hm0, FV.out, FF.out, hB, hf⟩
        case round =>
          obtain ⟨k, s2, lv2, mv2, rfl, hk2, hV2, hO, hB2, hf2⟩ := hrel
          by_cases hkn2 : (k : Int) < more
          · have PT := Lib.hid (putTo_mk (hb := w1.heap.size) (hO.full k) (by have := hO.seq; omega))
            have FV2 := Lib.hid hV2
            have FF2 := Lib.hid hO
            clear hV2 hO
            go_wp2_with (go_at_call 13; refine (PT.out _ _ _ FV2.out).mono ?_; rintro e w2 ⟨lv', mv', rfl, hV3, hK3, hF3⟩)
            go_roundw
            case rel =>
              have hw := hB2.size
              refine ⟨k + 1, s2, lv', mv', rfl, hkn2, hV3, FF2.out, hB2.trans (hK3.below hw (fun j hj h => by have := hf2 j h; omega)), fun j hj => ?_⟩
              rcases hF3 j hj with h | h
              · exact hf2 j h
              · omega
            case measure => simp [intOf]; omega
          · have hkm : (k : Int) = more := by omega
            obtain ⟨s3, hput3, hl3, hq3⟩ := hO.last
            have PP := Lib.hid (pop_some ⟨0, 0, 0, 0, 1⟩ w1.heap.size lv2 mv2 28 s2 wr hV2 hO.top (hO.good.M_ne hO.top) (by have := hO.len; omega))
            have PT := Lib.hid (putTo_mk (hb := w1.heap.size) hput3 (by omega))
            have HL := Lib.hid hl3
            clear hV2 hO hput3 hl3 hq3
            go_wp2_with fail
            refine PP.out.mono ?_
            rintro e w3 ⟨lv3, rfl, hV3, hK3, hown⟩
            have KK3 := Lib.hid hK3
            have HV3 := Lib.hid hV3
            clear hK3 hV3
            go_wp2_with fail
            have hA : HV (w3.alloc (.cells #[.int .i64 0, .int .i64 0, .int .i64 0, .int .i64 0, .int .u64 1] 35)) w1.heap.size lv3 mv2 28 (s2.take 0) := HV3.out.keep ((Keeps.refl (fun _ => False) w3).alloc _) (fun _ _ h => h)
            refine (PT.out _ _ _ hA).mono ?_
            rintro e w4 ⟨lv4, mv4, rfl, hV4, hK4, hF4⟩
            go_wp2_with (go_at_call 15; refine (len_any w1.heap.size _ _ 28 s3 _ hV4).mono ?_; rintro e w5 ⟨rfl, rfl⟩)
            go_ret
            refine ⟨by rw [HL.out]; rfl, ?_⟩
            have hw := hB2.size
            have hw3 := KK3.out.size
            have hb3 := hB2.trans (KK3.out.below hw (fun j hj h => by have := hf2 j h; omega))
            refine (hb3.alloc hb3.size _).trans (hK4.below ?_ (fun j hj h => ?_))
            · have := hb3.size; simp; omega
            · have h' : foot w1.heap.size lv2 mv2 j := by
                rcases h with h | h | h
                · exact .inl h
                · exact .inr (.inl (by rw [← hown]; exact h))
                · exact .inr (.inr h)
              have := hf2 j h'
              omega
end Go.Proofs.Ytkhphnidopbjjaa
