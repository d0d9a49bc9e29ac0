/- HeapApart, walked: what is done with somebody's things turns nothing of others'. -/
import Derived.Test.YtkhphnidopbjjaaH10
import Derived.Test.YtkhphnidopbjjaaH12
import Derived.Test.YtkhphnidopbjjaaHm5
import Derived.Test.YtkhphnidopbjjaaS1
namespace Go.Proofs.Ytkhphnidopbjjaa
open Go.RowKit Go.Own Go.Own.MapTy Go.Hm
open Go.Own.Cells (sz enc)

def aKey (i : Nat) : Ky := ⟨((i % 3 : Nat) : Int), ((i % 2 : Nat) : Int), i⟩
def aDue (dues : List Int) (i : Nat) : Int := dues[i]?.getD 0
def aKeep (run : Int) (i : Nat) : Bool := !(((i % 3 : Nat) : Int) == run)
abbrev aA (dues : List Int) : Nat → It := iA aKey (aDue dues)
abbrev aB (dues : List Int) (run : Int) : Nat → It := iB aKey (aDue dues) (aKeep run)

def A1Rel (w : World) (ha hb : Nat) (dues : List Int) (run : Int) (v21 v7 : Value) (wr : World) : Prop :=
  ∃ (k : Nat) (sa sb : Hp) (la ma lb mb : Value), v21 = .int .i64 k ∧ v7 = .int .i64 ((k - cnt (aKeep run) k : Nat) : Int) ∧ k ≤ dues.length ∧ Two w ha hb la ma lb mb sa sb wr ∧ Has (aA dues) (List.range k) sa ∧ sa.seq = k ∧ Has (aB dues run) ((List.range k).filter (aKeep run)) sb ∧ sb.seq = cnt (aKeep run) k

theorem aKey_ne {i k : Nat} (h : i < k) : aKey i ≠ aKey k := by
  intro e
  unfold aKey at e
  injection e with _ _ e3
  omega
theorem aA_put {dues : List Int} {k : Nat} {sa : Hp} (h : Has (aA dues) (List.range k) sa) (hq : sa.seq = k) (hk : k < 16384) {d : Int} (hd : dues[k]? = some d) :
    ∃ s', sa.put (aKey k) d = (s', 0) ∧ Has (aA dues) (List.range (k + 1)) s' ∧ s'.seq = (k + 1 : Nat) := by
  obtain ⟨s', h1, h2, h3⟩ := h.put (k := aKey k) (d := d) (n := k) (fun i hi => aKey_ne (List.mem_range.1 hi)) (by simpa using hk) (by simp [aA, iA, aDue, hd, hq])
  exact ⟨s', h1, by rw [List.range_succ]; exact h2, by rw [h3, hq]; simp⟩
theorem aB_put {dues : List Int} {run : Int} {k : Nat} {sb : Hp} (h : Has (aB dues run) ((List.range k).filter (aKeep run)) sb) (hq : sb.seq = cnt (aKeep run) k) (hk : k < 16384) {d : Int} (hd : dues[k]? = some d) (hkeep : aKeep run k = true) :
    ∃ s', sb.put (aKey k) d = (s', 0) ∧ Has (aB dues run) ((List.range (k + 1)).filter (aKeep run)) s' ∧ s'.seq = cnt (aKeep run) (k + 1) := by
  obtain ⟨s', h1, h2, h3⟩ := h.put (k := aKey k) (d := d) (n := k) (fun i hi => aKey_ne (List.mem_range.1 (List.mem_filter.1 hi).1)) (by have := cnt_le (aKeep run) k; unfold cnt at this; omega) (by simp [aB, iB, aDue, hd, hq])
  refine ⟨s', h1, ?_, by rw [h3, hq, cnt_succ, if_pos hkeep]; simp⟩
  rw [List.range_succ, List.filter_append]
  simpa [hkeep] using h2
theorem aB_skip {dues : List Int} {run : Int} {k : Nat} {sb : Hp} (h : Has (aB dues run) ((List.range k).filter (aKeep run)) sb) (hq : sb.seq = cnt (aKeep run) k) (hkeep : aKeep run k = false) :
    Has (aB dues run) ((List.range (k + 1)).filter (aKeep run)) sb ∧ sb.seq = cnt (aKeep run) (k + 1) := by
  refine ⟨?_, by rw [hq, cnt_succ, if_neg (by simp [hkeep])]; simp⟩
  rw [List.range_succ, List.filter_append]
  simpa [hkeep] using h
theorem a_filter (dues : List Int) (run : Int) (I : List Nat) : (I.map (aA dues)).filter (fun x => !(x.run == run)) = (I.filter (aKeep run)).map (aA dues) := by
  rw [List.filter_map]
  rfl
theorem a_mine {dues : List Int} {run : Int} {I : List Nat} {s : Hp} (h : Has (aA dues) I s) : (mine s run).length = I.length - (I.filter (aKeep run)).length := by
  have h1 := (List.filter_append_perm (fun x : It => x.run == run) s.L).length_eq
  have h2 := (h.perm.filter (fun x : It => !(x.run == run))).length_eq
  rw [a_filter, List.length_map] at h2
  rw [List.length_append, h.len] at h1
  unfold mine
  omega
theorem a_drop {dues : List Int} {run : Int} {I : List Nat} {s s' : Hp} (h : Has (aA dues) I s) (hg : Hm.Good s') (hp : s'.L.Perm (s.L.filter (fun x => !(x.run == run)))) : Has (aA dues) (I.filter (aKeep run)) s' :=
  ⟨hg, hp.trans (by rw [← a_filter]; exact h.perm.filter _)⟩
theorem a_same {dues : List Int} {run : Int} {I : List Nat} (hk : ∀ i ∈ I, aKeep run i = true) {a b : Hp} (ha : Has (aA dues) I a) (hb : Has (aB dues run) I b) {xs ys : List It} (hx : xs.Perm a.L) (hy : ys.Perm b.L) (sx : xs.Pairwise Hm.le) (sy : ys.Pairwise Hm.le) :
    ∃ J : List Nat, J.length = I.length ∧ xs = J.map (aA dues) ∧ ys = J.map (aB dues run) := by
  obtain ⟨J, h1, h2, h3⟩ := same_order aKey (aDue dues) (aKeep run) (idx := fun x => x.id.toNat) (fun i => by simp [iA, aKey]) (fun i => by simp [iB, aKey]) hk (hx.trans ha.perm) (hy.trans hb.perm) sx sy
  exact ⟨J, h1.length_eq, h2, h3⟩

set_option maxRecDepth 100000 in
set_option maxHeartbeats 4000000 in
theorem apart_walk (dues : List Int) (run : Int) (a : Option Addr) (cap : Nat) (w : World) (hd : ReadsInts w a dues) (hmax : dues.length ≤ 9223372036854775807) :
    Calls Try.prog 6 #[.slice a dues.length cap, .int .i64 run] w fun e w' => e = .returned (.bool true) ∧ Below w.heap.size w w' := by
  have HD := Lib.hid hd
  clear hd
  by_cases hn : 100 < dues.length
  · go_enter Try.func6, Try.ntmps6
    go_wp2_with (go_at_call 12; refine (keeps_true _).mono ?_; rintro e w1 ⟨rfl, hB1⟩)
    all_goals
      go_ret
      exact ⟨rfl, hB1⟩
  · have hn' : dues.length ≤ 100 := by omega
    go_enter Try.func6, Try.ntmps6
    go_wp2_with (go_at_call 12; refine (keeps_true _).mono ?_; rintro e w1 ⟨rfl, hB1⟩)
    go_loopw [21, 7] (fun v21 v7 wr => A1Rel w w1.heap.size (w1.heap.size + 1) dues run v21 v7 wr) (fun v21 _ _ => dues.length - (intOf v21).toNat)
    case atStart =>
      exact ⟨0, hp0, hp0, _, _, _, _, rfl, rfl, Nat.zero_le _, Two.start hB1, ⟨Hm.Good.zero, by simp [hp0]⟩, rfl, ⟨Hm.Good.zero, by simp [hp0]⟩, rfl⟩
    case round =>
      obtain ⟨k, sa, sb, la, ma, lb, mb, rfl, rfl, hk, hT, hA, hqa, hBB, hqb⟩ := hrel
      have hcl := cnt_le (aKeep run) k
      by_cases hkn : k < dues.length
      · have hx : dues[k]? = some dues[k] := by simp [hkn]
        generalize dues[k] = d at hx
        obtain ⟨b, off, rfl, hc0, hb⟩ := HD.out k d hx
        have hc := (hT.below.cell (p := ⟨b, off + k, none⟩) hb).trans hc0
        have hbr : b < wr.heap.size := Nat.lt_of_lt_of_le hb hT.below.size
        obtain ⟨p, hp⟩ : ∃ p : Int, p = ((k % 3 : Nat) : Int) := ⟨_, rfl⟩
        obtain ⟨q, hq⟩ : ∃ q : Int, q = ((k % 2 : Nat) : Int) := ⟨_, rfl⟩
        have hrem3 : Int.tmod (k : Int) 3 = p := by rw [hp, Int.tmod_eq_emod_of_nonneg (by omega)]; simp
        have hrem2 : Int.tmod (k : Int) 2 = q := by rw [hq, Int.tmod_eq_emod_of_nonneg (by omega)]; simp
        have hak : aKey k = ⟨p, q, k⟩ := by rw [hp, hq]; rfl
        have p0 : 0 ≤ p ∧ p < 3 := by omega
        have q0 : 0 ≤ q ∧ q < 2 := by omega
        have hkp : aKeep run k = !(p == run) := by rw [hp]; rfl
        obtain ⟨sa', hpa, hA', hqa'⟩ := aA_put hA hqa (by omega) hx
        rw [hak] at hpa
        have PA := Lib.hid (putTo_mk (hb := w1.heap.size) hpa (by omega))
        have HTT := Lib.hid hT
        have FA := Lib.hid (And.intro hA' hqa')
        clear hp hq
        by_cases hr : p = run
        · have hkeep : aKeep run k = false := by rw [hkp]; simp [hr]
          have FB := Lib.hid (aB_skip hBB hqb hkeep)
          have hcs : cnt (aKeep run) (k + 1) = cnt (aKeep run) k := by rw [cnt_succ, if_neg (by simp [hkeep])]; rfl
          have HCS := Lib.hid hcs
          clear hT hA hqa hBB hqb hx hpa hA' hqa' hcs hkeep hkp hak
          subst hr
          have hwn : IntKind.i64.wrap (((k - cnt (aKeep p) k : Nat) : Int) + 1) = ((k + 1 - cnt (aKeep p) (k + 1) : Nat) : Int) := by
            rw [IntWalk.i64_in _ (by omega), HCS.out]
            omega
          go_wp2_with fail
          have KA : Below wr.heap.size wr (wr.alloc (.cells #[.int .i64 p, .int .i64 q, .int .i64 k] 32)) := (Below.refl _ _).alloc (Nat.le_refl _) _
          have hT1 := HTT.out.old KA
          refine (PA.out _ _ _ hT1.A).mono ?_
          rintro e w2 ⟨la', ma', rfl, hV2, hK2, hF2⟩
          have hT2 := Lib.hid (hT1.stepA hV2 hK2 hF2)
          have hbox : w2.cell? ⟨wr.heap.size, 0, none⟩ = some (.int .i64 p) := by
            refine (hK2.cell (p := ⟨wr.heap.size, 0, none⟩) (by simp) (fun h => Nat.lt_irrefl _ (HTT.out.A.lt h))).trans ?_
            rw [cell_of_heap (heap_alloc_new wr _)]
            rfl
          clear hV2 hK2 hF2 hT1 KA
          go_wp2_with fail
          go_roundw
          case rel => exact ⟨k + 1, sa', sb, _, _, _, _, by simp, rfl, hkn, hT2.out, FA.out.1, FA.out.2, FB.out.1, FB.out.2⟩
          case measure => simp [intOf]; omega
        · have hkeep : aKeep run k = true := by rw [hkp]; simp [hr]
          obtain ⟨sb', hpb, hB', hqb'⟩ := aB_put hBB hqb (by omega) hx hkeep
          rw [hak] at hpb
          have PB := Lib.hid (putTo_mk (hb := w1.heap.size + 1) hpb (by omega))
          have FB := Lib.hid (And.intro hB' hqb')
          have hcs : cnt (aKeep run) (k + 1) = cnt (aKeep run) k + 1 := by rw [cnt_succ, if_pos hkeep]
          have hwn : ((k - cnt (aKeep run) k : Nat) : Int) = ((k + 1 - cnt (aKeep run) (k + 1) : Nat) : Int) := by omega
          have HWN := Lib.hid hwn
          clear hT hA hqa hBB hqb hx hpa hA' hqa' hcs hkeep hkp hak hpb hB' hqb' hwn
          go_wp2_with fail
          have KA : Below wr.heap.size wr (wr.alloc (.cells #[.int .i64 p, .int .i64 q, .int .i64 k] 32)) := (Below.refl _ _).alloc (Nat.le_refl _) _
          have hT1 := HTT.out.old KA
          refine (PA.out _ _ _ hT1.A).mono ?_
          rintro e w2 ⟨la', ma', rfl, hV2, hK2, hF2⟩
          have hT2 := Lib.hid (hT1.stepA hV2 hK2 hF2)
          have hbx : ∀ j u, (wr.alloc (.cells #[.int .i64 p, .int .i64 q, .int .i64 k] 32)).cell? ⟨wr.heap.size, j, none⟩ = some u → w2.cell? ⟨wr.heap.size, j, none⟩ = some u := fun j u hu => (hK2.cell (p := ⟨wr.heap.size, j, none⟩) (by simp) (fun h => Nat.lt_irrefl _ (HTT.out.A.lt h))).trans hu
          have x0 := hbx 0 (.int .i64 p) (by rw [cell_of_heap (heap_alloc_new wr _)]; rfl)
          have x1 := hbx 1 (.int .i64 q) (by rw [cell_of_heap (heap_alloc_new wr _)]; rfl)
          have x2 := hbx 2 (.int .i64 k) (by rw [cell_of_heap (heap_alloc_new wr _)]; rfl)
          clear hV2 hK2 hF2 hT1 KA hbx
          go_wp2_with fail
          refine (PB.out _ _ _ hT2.out.B).mono ?_
          rintro e w3 ⟨lb', mb', rfl, hV3, hK3, hF3⟩
          have hT3 := hT2.out.stepB hV3 hK3 hF3
          go_wp2_with fail
          go_roundw
          case rel => exact ⟨k + 1, sa', sb', _, _, _, _, by simp, by rw [HWN.out], hkn, hT3, FA.out.1, FA.out.2, FB.out.1, FB.out.2⟩
          case measure => simp [intOf]; omega
      · have hke : k = dues.length := by omega
        have hm := a_mine (run := run) hA
        rw [List.length_range] at hm
        obtain ⟨nn, hnn⟩ : ∃ nn : Nat, nn = k - cnt (aKeep run) k := ⟨_, rfl⟩
        have hm' : (mine sa run).length = nn := by rw [hm, hnn]; rfl
        rw [← hnn]
        have DR := Lib.hid (drop_any run w1.heap.size la ma 28 sa wr hT.A hA.good (by rw [hA.len, List.length_range]; omega))
        have HTT := Lib.hid hT
        have FA := Lib.hid (And.intro hA (And.intro hBB hm'))
        clear hT hA hqa hBB hqb hm hnn hm' hcl
        go_wp2_with fail
        refine DR.out.mono ?_
        rintro e w2 ⟨sa2, la2, rfl, hV2, hG2, hp2, hq2, hown2, hK2⟩
        have hA2 := a_drop FA.out.1 hG2 hp2
        have hT2 := HTT.out.stepA hV2 hK2 (take_foot hown2)
        rw [FA.out.2.2]
        have hm2 := a_mine (run := run) hA2
        rw [List.filter_filter] at hm2
        simp only [Bool.and_self, Nat.sub_self] at hm2
        have DR2 := Lib.hid (drop_any run w1.heap.size la2 ma 28 sa2 w2 hT2.A hG2 (by rw [hA2.len]; have := List.length_filter_le (aKeep run) (List.range k); simp at this; omega))
        have HT2 := Lib.hid hT2
        have FA2 := Lib.hid (And.intro hA2 hm2)
        clear hV2 hG2 hp2 hq2 hown2 hK2 hA2 hT2 hm2
        go_wp2_with fail
        refine DR2.out.mono ?_
        rintro e w3 ⟨sa3, la3, rfl, hV3, hG3, hp3, hq3, hown3, hK3⟩
        have hA3 := a_drop FA2.out.1 hG3 hp3
        rw [List.filter_filter] at hA3
        simp only [Bool.and_self] at hA3
        replace hA3 : Has (aA dues) ((List.range k).filter (aKeep run)) sa3 := hA3
        have HT3 := Lib.hid (HT2.out.stepA hV3 hK3 (take_foot hown3))
        rw [FA2.out.2]
        have hI : ((List.range k).filter (aKeep run)).length ≤ 100 := by
          have := List.length_filter_le (aKeep run) (List.range k)
          simp only [List.length_range] at this
          omega
        have hlb : sb.L.length ≤ 16384 := by rw [FA.out.2.1.len]; omega
        have hla : sa3.L.length ≤ 16384 := by rw [hA3.len]; omega
        have FA3 := Lib.hid hA3
        have HI := Lib.hid hI
        clear hV3 hG3 hp3 hq3 hown3 hK3 hA3 DR DR2 HTT HT2 FA2 hI
        have hz : ((0 : Nat) : Int) = 0 := rfl
        go_wp2_with fail
        refine (all_any w1.heap.size la3 ma 28 sa3 w3 HT3.out.A hla).mono ?_
        rintro e w4 ⟨vx, xs, rfl, hpx, hsx, hRx, hB4, hfx⟩
        have HT4 := Lib.hid (HT3.out.old hB4)
        have FX := Lib.hid (And.intro hpx (And.intro hsx (And.intro hRx hfx)))
        clear hpx hsx hRx hfx hB4
        go_wp2_with fail
        refine (all_any (w1.heap.size + 1) lb mb 28 sb w4 HT4.out.B hlb).mono ?_
        rintro e w5 ⟨vy, ys, rfl, hpy, hsy, hRy, hB5, hfy⟩
        have HT5 := Lib.hid (HT4.out.old hB5)
        obtain ⟨J, hJl, hxs, hys⟩ := a_same (fun i hi => (List.mem_filter.1 hi).2) FA3.out FA.out.2.1 FX.out.1 hpy FX.out.2.1 hsy
        have hRx5 := FX.out.2.2.1.keep (Keeps.of_below hB5) (fun _ _ h => h)
        rw [hxs] at hRx5
        rw [hys] at hRy
        obtain ⟨ax, px, rfl⟩ := hRx5.slice
        obtain ⟨ay, py, rfl⟩ := hRy.slice
        simp only [List.length_map] at hRx5 hRy ⊢
        have RR := Lib.hid (And.intro hRx5 hRy)
        have hJ : J.length ≤ 100 := by rw [hJl]; exact HI.out
        clear hpy hsy hRy hB5 hfy hxs hys hRx5 FX hJl HT4
        go_wp2_with fail
        obtain ⟨wp, rfl⟩ : ∃ wp : World, wp = wr := ⟨_, rfl⟩
        obtain ⟨kk, rfl⟩ : ∃ kk : Nat, kk = k := ⟨_, rfl⟩
        go_loopw [63] (fun v wx => ∃ k : Nat, v = .int .i64 k ∧ k ≤ J.length ∧ Below w5.heap.size w5 wx) (fun v _ => J.length - (intOf v).toNat)
        case atStart => exact ⟨0, rfl, Nat.zero_le _, Below.refl _ _⟩
        case round =>
          obtain ⟨k, rfl, hk2, hBk⟩ := hrel
          by_cases hkn2 : k < J.length
          · have hj : J[k]? = some J[k] := by simp [hkn2]
            generalize J[k] = i at hj
            have R1 := RR.out.1.keep (Keeps.of_below hBk) (fun _ _ h => h)
            have R2 := RR.out.2.keep (Keeps.of_below hBk) (fun _ _ h => h)
            have hx1 : (J.map (aA dues))[k]? = some (aA dues i) := by rw [List.getElem?_map, hj]; rfl
            have hx2 : (J.map (aB dues run))[k]? = some (aB dues run i) := by rw [List.getElem?_map, hj]; rfl
            obtain ⟨gx, ox, rfl⟩ : ∃ gx ox, ax = some ⟨gx, ox, none⟩ := by
              rcases R1 with ⟨_, h⟩ | ⟨g, off, cap', _, h, _⟩
              · rw [h] at hx1; simp at hx1
              · simp only [Value.slice.injEq] at h; exact ⟨g, off, h.1⟩
            obtain ⟨gy, oy, rfl⟩ : ∃ gy oy, ay = some ⟨gy, oy, none⟩ := by
              rcases R2 with ⟨_, h⟩ | ⟨g, off, cap', _, h, _⟩
              · rw [h] at hx2; simp at hx2
              · simp only [Value.slice.injEq] at h; exact ⟨g, off, h.1⟩
            obtain ⟨x0, x1, x2, x3, _⟩ := row_cells R1 hx1
            obtain ⟨y0, y1, y2, y3, _⟩ := row_cells R2 hx2
            replace x0 : wr.cell? ⟨gx, ox + k * 5, none⟩ = some (.int .i64 (aKey i).run) := x0
            replace x1 : wr.cell? ⟨gx, ox + k * 5 + 1, none⟩ = some (.int .i64 (aKey i).kind) := x1
            replace x2 : wr.cell? ⟨gx, ox + k * 5 + 2, none⟩ = some (.int .i64 (aKey i).id) := x2
            replace x3 : wr.cell? ⟨gx, ox + k * 5 + 3, none⟩ = some (.int .i64 (aDue dues i)) := x3
            replace y0 : wr.cell? ⟨gy, oy + k * 5, none⟩ = some (.int .i64 (aKey i).run) := y0
            replace y1 : wr.cell? ⟨gy, oy + k * 5 + 1, none⟩ = some (.int .i64 (aKey i).kind) := y1
            replace y2 : wr.cell? ⟨gy, oy + k * 5 + 2, none⟩ = some (.int .i64 (aKey i).id) := y2
            replace y3 : wr.cell? ⟨gy, oy + k * 5 + 3, none⟩ = some (.int .i64 (aDue dues i)) := y3
            have hk0 : (0 : Int) ≤ (k : Int) := by omega
            have hkI : (k : Int) < (J.length : Int) := by omega
            generalize (aKey i).run = q0 at x0 y0
            generalize (aKey i).kind = q1 at x1 y1
            generalize (aKey i).id = q2 at x2 y2
            generalize aDue dues i = q3 at x3 y3
            clear hj hx1 hx2 R1 R2
            go_wp2_with fail
            go_region
            all_goals
              go_wp2_with fail
              go_roundw
              case rel => exact ⟨k + 1, by simp, hkn2, hBk.drew⟩
              case measure => simp [intOf]; omega
          · obtain rfl : k = J.length := by omega
            have hT6 := HT5.out.old hBk
            go_wp2_with fail
            refine (right_any w1.heap.size la3 ma 28 sa3 _ hT6.A FA3.out.good hla).mono ?_
            rintro e w6 ⟨rfl, hB6⟩
            go_wp2_with fail
            go_ret
            exact ⟨rfl, (hT6.old hB6).below⟩
end Go.Proofs.Ytkhphnidopbjjaa
