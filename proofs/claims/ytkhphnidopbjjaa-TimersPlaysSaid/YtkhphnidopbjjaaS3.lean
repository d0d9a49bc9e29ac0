/- HeapCancels, walked: of things of which some are canceled the others come out as if those had never been put. -/
import Derived.Test.YtkhphnidopbjjaaH10
import Derived.Test.YtkhphnidopbjjaaS1
namespace Go.Proofs.Ytkhphnidopbjjaa
open Go.RowKit Go.Own Go.Own.MapTy Go.Hm
open Go.Own.Cells (sz enc)

def ReadsBools (w : World) (a : Option Addr) (bs : List Bool) : Prop :=
  ∀ (k : Nat) z, bs[k]? = some z → ∃ b off, a = some ⟨b, off, none⟩ ∧ w.cell? ⟨b, off + k, none⟩ = some (.bool z) ∧ b < w.heap.size
theorem ReadsBools.keep {w w' : World} {a : Option Addr} {bs : List Bool} (h : ReadsBools w a bs) (hB : Below w.heap.size w w') : ReadsBools w' a bs := by
  intro k z hz
  obtain ⟨b, off, h1, h2, h3⟩ := h k z hz
  exact ⟨b, off, h1, (hB.cell h3).trans h2, Nat.lt_of_lt_of_le h3 hB.size⟩

def cKey (i : Nat) : Ky := ⟨0, 0, i⟩
def cDue (dues : List Int) (i : Nat) : Int := dues[i]?.getD 0
def cKeep (gone : List Bool) (i : Nat) : Bool := !(gone[i]?.getD false)
abbrev cA (dues : List Int) : Nat → It := iA cKey (cDue dues)
abbrev cB (dues : List Int) (gone : List Bool) : Nat → It := iB cKey (cDue dues) (cKeep gone)

def C1Rel (w : World) (ha hb : Nat) (dues : List Int) (gone : List Bool) (v : Value) (wr : World) : Prop :=
  ∃ (k : Nat) (sa sb : Hp) (la ma lb mb : Value), v = .int .i64 k ∧ k ≤ dues.length ∧ Two w ha hb la ma lb mb sa sb wr ∧ Has (cA dues) (List.range k) sa ∧ sa.seq = k ∧ Has (cB dues gone) ((List.range k).filter (cKeep gone)) sb ∧ sb.seq = cnt (cKeep gone) k
def C2Rel (w : World) (ha hb : Nat) (dues : List Int) (gone : List Bool) (v : Value) (wr : World) : Prop :=
  ∃ (k : Nat) (sa sb : Hp) (la ma lb mb : Value), v = .int .i64 k ∧ k ≤ dues.length ∧ Two w ha hb la ma lb mb sa sb wr ∧ Has (cA dues) ((List.range dues.length).filter (fun i => cKeep gone i || decide (k ≤ i))) sa ∧ Has (cB dues gone) ((List.range dues.length).filter (cKeep gone)) sb
def C3Rel (w : World) (ha hb : Nat) (dues : List Int) (gone : List Bool) (n : Nat) (wr : World) : Prop :=
  ∃ (I : List Nat) (sa sb : Hp) (la ma lb mb : Value), I.length = n ∧ n ≤ 150 ∧ (∀ i ∈ I, cKeep gone i = true) ∧ Two w ha hb la ma lb mb sa sb wr ∧ Has (cA dues) I sa ∧ Has (cB dues gone) I sb

theorem cA_put {dues : List Int} {k : Nat} {sa : Hp} (h : Has (cA dues) (List.range k) sa) (hq : sa.seq = k) (hk : k < 16384) {d : Int} (hd : dues[k]? = some d) :
    ∃ s', sa.put ⟨0, 0, k⟩ d = (s', 0) ∧ Has (cA dues) (List.range (k + 1)) s' ∧ s'.seq = (k + 1 : Nat) := by
  obtain ⟨s', h1, h2, h3⟩ := h.put (k := ⟨0, 0, k⟩) (d := d) (n := k) (fun i hi e => by
    have hi' := List.mem_range.1 hi
    have e' : cKey i = ⟨0, 0, k⟩ := e
    unfold cKey at e'
    injection e' with _ _ e3
    omega) (by simpa using hk) (by simp [cA, iA, cKey, cDue, hd, hq])
  exact ⟨s', h1, by rw [List.range_succ]; exact h2, by rw [h3, hq]; simp⟩
theorem cB_put {dues : List Int} {gone : List Bool} {k : Nat} {sb : Hp} (h : Has (cB dues gone) ((List.range k).filter (cKeep gone)) sb) (hq : sb.seq = cnt (cKeep gone) k) (hk : k < 16384) {d : Int} (hd : dues[k]? = some d) (hg : gone[k]? = some false) :
    ∃ s', sb.put ⟨0, 0, k⟩ d = (s', 0) ∧ Has (cB dues gone) ((List.range (k + 1)).filter (cKeep gone)) s' ∧ s'.seq = cnt (cKeep gone) (k + 1) := by
  have hkeep : cKeep gone k = true := by simp [cKeep, hg]
  obtain ⟨s', h1, h2, h3⟩ := h.put (k := ⟨0, 0, k⟩) (d := d) (n := k) (fun i hi e => by
    have hi' := List.mem_range.1 (List.mem_filter.1 hi).1
    have e' : cKey i = ⟨0, 0, k⟩ := e
    unfold cKey at e'
    injection e' with _ _ e3
    omega) (by have := cnt_le (cKeep gone) k; unfold cnt at this; omega) (by simp [cB, iB, cKey, cDue, hd, hq])
  refine ⟨s', h1, ?_, by rw [h3, hq, cnt_succ, if_pos hkeep]; simp⟩
  rw [List.range_succ, List.filter_append]
  simpa [hkeep] using h2
theorem cB_skip {dues : List Int} {gone : List Bool} {k : Nat} {sb : Hp} (h : Has (cB dues gone) ((List.range k).filter (cKeep gone)) sb) (hq : sb.seq = cnt (cKeep gone) k) (hg : gone[k]? = some true) :
    Has (cB dues gone) ((List.range (k + 1)).filter (cKeep gone)) sb ∧ sb.seq = cnt (cKeep gone) (k + 1) := by
  have hkeep : cKeep gone k = false := by simp [cKeep, hg]
  refine ⟨?_, by rw [hq, cnt_succ, if_neg (by simp [hkeep])]; simp⟩
  rw [List.range_succ, List.filter_append]
  simpa [hkeep] using h
/-- what is left of the first heap in the second loop -/
def leftI (gone : List Bool) (n k : Nat) : List Nat := (List.range n).filter (fun i => cKeep gone i || decide (k ≤ i))
theorem left_keep {gone : List Bool} {n k : Nat} (h : gone[k]? = some false) : leftI gone n k = leftI gone n (k + 1) := by
  have hkeep : cKeep gone k = true := by simp [cKeep, h]
  refine List.filter_congr fun i _ => ?_
  by_cases e : i = k
  · subst e; simp [hkeep]
  · have : (k ≤ i) ↔ (k + 1 ≤ i) := by omega
    simp [this]
theorem erase_filter (p q : Nat → Bool) (k : Nat) (hk : q k = false) (hpq : ∀ i, i ≠ k → p i = q i) : ∀ l : List Nat, l.Nodup → (l.filter p).erase k = l.filter q := by
  intro l
  induction l with
  | nil => intro _; rfl
  | cons a l ih =>
    intro hn
    have hn' := List.nodup_cons.1 hn
    by_cases e : a = k
    · subst e
      have hl : l.filter p = l.filter q := List.filter_congr fun i hi => hpq i (fun e => hn'.1 (e ▸ hi))
      have hne : ¬ a ∈ l.filter q := fun hm => hn'.1 (List.mem_filter.1 hm).1
      by_cases hp : p a = true
      · simp [hp, hk, hl]
      · simp [hp, hk, hl, List.erase_of_not_mem hne]
    · by_cases hq : q a = true
      · have hp : p a = true := by rw [hpq a e, hq]
        simp [hp, hq, List.erase_cons_tail (show ¬ (a == k) = true by simpa using e), ih hn'.2]
      · have hp : ¬ p a = true := by rw [hpq a e]; exact hq
        simp [hp, hq, ih hn'.2]
theorem left_gone {gone : List Bool} {n k : Nat} (hn : k < n) (h : gone[k]? = some true) : k ∈ leftI gone n k ∧ (leftI gone n k).erase k = leftI gone n (k + 1) := by
  have hkeep : cKeep gone k = false := by simp [cKeep, h]
  refine ⟨List.mem_filter.2 ⟨List.mem_range.2 hn, by simp⟩, erase_filter _ _ k (by simp [hkeep]) (fun i hi => ?_) _ List.nodup_range⟩
  have : (k ≤ i) ↔ (k + 1 ≤ i) := by omega
  simp [this]
theorem left_end {gone : List Bool} {n : Nat} : leftI gone n n = (List.range n).filter (cKeep gone) := by
  refine List.filter_congr fun i hi => ?_
  have := List.mem_range.1 hi
  have h : decide (n ≤ i) = false := decide_eq_false (by omega)
  simp [h]
theorem left_start {gone : List Bool} {n : Nat} : leftI gone n 0 = List.range n := by
  unfold leftI
  rw [List.filter_eq_self]
  intro i _
  simp

set_option maxRecDepth 100000 in
set_option maxHeartbeats 4000000 in
theorem cancels_walk (dues : List Int) (gone : List Bool) (a ga : Option Addr) (cap gcap : Nat) (w : World) (hd : ReadsInts w a dues) (hg : ReadsBools w ga gone) (hmax : dues.length ≤ 9223372036854775807) (gmax : gone.length ≤ 9223372036854775807) :
    Calls Try.prog 5 #[.slice a dues.length cap, .slice ga gone.length gcap] w fun e w' => e = .returned (.bool true) ∧ Below w.heap.size w w' := by
  have HD := Lib.hid hd
  have HG := Lib.hid hg
  clear hd hg
  by_cases hn : 150 < dues.length
  · have hnd : decide ((150 : Int) < (dues.length : Int)) = true := decide_eq_true (by omega)
    go_enter Try.func5, Try.ntmps5
    go_wp2_with (go_at_call 12; refine (keeps_true _).mono ?_; rintro e w1 ⟨rfl, hB1⟩)
    all_goals
      go_ret
      exact ⟨rfl, hB1⟩
  by_cases hn2 : gone.length < dues.length
  · have hn1 : ¬ 150 < dues.length := hn
    go_enter Try.func5, Try.ntmps5
    go_wp2_with (go_at_call 12; refine (keeps_true _).mono ?_; rintro e w1 ⟨rfl, hB1⟩)
    all_goals
      go_ret
      exact ⟨rfl, hB1⟩
  · have hn' : dues.length ≤ 150 := by omega
    have hg' : dues.length ≤ gone.length := by omega
    go_enter Try.func5, Try.ntmps5
    go_wp2_with (go_at_call 12; refine (keeps_true _).mono ?_; rintro e w1 ⟨rfl, hB1⟩)
    go_loopw [30] (fun v wr => C1Rel w w1.heap.size (w1.heap.size + 1) dues gone v wr) (fun v _ => dues.length - (intOf v).toNat)
    case atStart =>
      exact ⟨0, hp0, hp0, _, _, _, _, rfl, Nat.zero_le _, Two.start hB1, ⟨Hm.Good.zero, by simp [hp0]⟩, rfl, ⟨Hm.Good.zero, by simp [hp0]⟩, rfl⟩
    case round =>
      obtain ⟨k, sa, sb, la, ma, lb, mb, rfl, hk, hT, hA, hqa, hBB, hqb⟩ := hrel
      by_cases hkn : k < dues.length
      · have hx : dues[k]? = some dues[k] := by simp [hkn]
        generalize dues[k] = d at hx
        have hgl : k < gone.length := by omega
        have hy : gone[k]? = some gone[k] := by simp [hgl]
        generalize gone[k] = q at hy
        obtain ⟨b, off, rfl, hc0, hb⟩ := HD.out k d hx
        obtain ⟨gb, goff, rfl, gc0, gbl⟩ := HG.out k q hy
        have hc := (hT.below.cell (p := ⟨b, off + k, none⟩) hb).trans hc0
        have hbr : b < wr.heap.size := Nat.lt_of_lt_of_le hb hT.below.size
        obtain ⟨sa', hpa, hA', hqa'⟩ := cA_put hA hqa (by omega) hx
        have PA := Lib.hid (putTo_mk (hb := w1.heap.size) hpa (by omega))
        have HTT := Lib.hid hT
        have FA := Lib.hid (And.intro hA' hqa')
        cases q with
        | false =>
          obtain ⟨sb', hpb, hB', hqb'⟩ := cB_put hBB hqb (by omega) hx hy
          have PB := Lib.hid (putTo_mk (hb := w1.heap.size + 1) hpb (by have := cnt_le (cKeep gone) k; omega))
          have FB := Lib.hid (And.intro hB' hqb')
          clear hT hA hqa hBB hqb hx hy hpa hA' hqa' hpb hB' hqb'
          go_wp2_with fail
          refine (PA.out _ _ _ HTT.out.A).mono ?_
          rintro e w2 ⟨la', ma', rfl, hV2, hK2, hF2⟩
          have hT2 := HTT.out.stepA hV2 hK2 hF2
          have HT2 := Lib.hid hT2
          have gc := (hT2.below.cell (p := ⟨gb, goff + k, none⟩) gbl).trans gc0
          have gbr : gb < w2.heap.size := Nat.lt_of_lt_of_le gbl hT2.below.size
          clear hV2 hK2 hF2 hT2
          go_wp2_with fail
          refine (PB.out _ _ _ HT2.out.B).mono ?_
          rintro e w3 ⟨lb', mb', rfl, hV3, hK3, hF3⟩
          have hT3 := HT2.out.stepB hV3 hK3 hF3
          go_wp2_with fail
          go_roundw
          case rel => exact ⟨k + 1, sa', sb', _, _, _, _, rfl, hkn, hT3, FA.out.1, FA.out.2, FB.out.1, FB.out.2⟩
          case measure => simp [intOf]; omega
        | true =>
          have FB := Lib.hid (cB_skip hBB hqb hy)
          clear hT hA hqa hBB hqb hx hy hpa hA' hqa'
          go_wp2_with fail
          refine (PA.out _ _ _ HTT.out.A).mono ?_
          rintro e w2 ⟨la', ma', rfl, hV2, hK2, hF2⟩
          have hT2 := HTT.out.stepA hV2 hK2 hF2
          have HT2 := Lib.hid hT2
          have gc := (hT2.below.cell (p := ⟨gb, goff + k, none⟩) gbl).trans gc0
          have gbr : gb < w2.heap.size := Nat.lt_of_lt_of_le gbl hT2.below.size
          clear hV2 hK2 hF2 hT2
          go_wp2_with fail
          go_roundw
          case rel => exact ⟨k + 1, sa', sb, _, _, _, _, rfl, hkn, HT2.out, FA.out.1, FA.out.2, FB.out.1, FB.out.2⟩
          case measure => simp [intOf]; omega
      · have hke : k = dues.length := by omega
        have hA2 : Has (cA dues) (leftI gone dues.length 0) sa := by rw [left_start, ← hke]; exact hA
        have hB2 : Has (cB dues gone) ((List.range dues.length).filter (cKeep gone)) sb := by rw [← hke]; exact hBB
        have HTT := Lib.hid hT
        have FA := Lib.hid (And.intro hA2 hB2)
        clear hT hA hqa hBB hqb hA2 hB2 hke
        obtain ⟨kk, rfl⟩ : ∃ kk : Nat, kk = k := ⟨_, rfl⟩
        obtain ⟨wo, rfl⟩ : ∃ wo : World, wo = wr := ⟨_, rfl⟩
        go_wp2_with fail
        go_loopw [51] (fun v wx => C2Rel w w1.heap.size (w1.heap.size + 1) dues gone v wx) (fun v _ => dues.length - (intOf v).toNat)
        case atStart => exact ⟨0, sa, sb, la, ma, lb, mb, rfl, Nat.zero_le _, HTT.out, FA.out.1, FA.out.2⟩
        case round =>
          obtain ⟨k, sa2, sb2, la2, ma2, lb2, mb2, rfl, hk2, hT2, hA2, hB2⟩ := hrel
          clear HTT FA
          by_cases hkn2 : k < dues.length
          · have hx : dues[k]? = some dues[k] := by simp [hkn2]
            generalize dues[k] = d at hx
            have hgl : k < gone.length := by omega
            have hy : gone[k]? = some gone[k] := by simp [hgl]
            generalize gone[k] = q at hy
            obtain ⟨b, off, rfl, hc0, hb⟩ := HD.out k d hx
            obtain ⟨gb, goff, rfl, gc0, gbl⟩ := HG.out k q hy
            have gc := (hT2.below.cell (p := ⟨gb, goff + k, none⟩) gbl).trans gc0
            have gbr : gb < wr.heap.size := Nat.lt_of_lt_of_le gbl hT2.below.size
            have HTT := Lib.hid hT2
            cases q with
            | false =>
              have FA := Lib.hid (And.intro (left_keep (n := dues.length) hy ▸ hA2 : Has (cA dues) (leftI gone dues.length (k + 1)) sa2) hB2)
              clear hT2 hA2 hB2 hx hy
              go_wp2_with fail
              go_roundw
              case rel => exact ⟨k + 1, sa2, sb2, _, _, _, _, rfl, hkn2, HTT.out, FA.out.1, FA.out.2⟩
              case measure => simp [intOf]; omega
            | true =>
              obtain ⟨hmem, her⟩ := left_gone (n := dues.length) hkn2 hy
              have hmem' : k ∈ (List.range dues.length).filter (fun i => cKeep gone i || decide (k ≤ i)) := hmem
              obtain ⟨j, hj1, hj2⟩ := hA2.find hmem'
              have hxe : cA dues k = ⟨0, 0, k, d, k + 1⟩ := by simp [cA, iA, cKey, cDue, hx]
              have hA3 := hA2.take hmem' hj2
              have hA3' : Has (cA dues) (leftI gone dues.length (k + 1)) (sa2.take j) := by rw [← her]; exact hA3
              have hlen3 : sa2.L.length ≤ 16384 := by
                rw [hA2.len]
                have := List.length_filter_le (fun i => cKeep gone i || decide (k ≤ i)) (List.range dues.length)
                simp only [List.length_range] at this
                omega
              rw [hxe] at hj1 hj2
              have CN := Lib.hid (cancel_some ⟨0, 0, k⟩ ⟨0, 0, k, d, k + 1⟩ j w1.heap.size la2 ma2 28 sa2 wr hT2.A hj1 hj2 hlen3)
              have FA := Lib.hid (And.intro hA3' hB2)
              have hlen4 : Hid ((sa2.take j).L.length ≤ 16384) := Lib.hid (by rw [take_len]; omega)
              clear hT2 hA2 hB2 hx hy hmem hmem' hj1 hj2 hA3 hA3' hlen3 hxe her
              go_wp2_with fail
              refine CN.out.mono ?_
              rintro e w3 ⟨la3, rfl, hV3, hK3, hown⟩
              have hT3 := HTT.out.stepA hV3 hK3 (take_foot hown)
              have hc := (hT3.below.cell (p := ⟨b, off + k, none⟩) hb).trans hc0
              have hbr : b < w3.heap.size := Nat.lt_of_lt_of_le hb hT3.below.size
              have HT3 := Lib.hid hT3
              clear hV3 hK3 hown hT3
              go_wp2_with fail
              obtain ⟨w4, hw4⟩ : ∃ w4, w4 = w3.alloc (.cells #[.int .i64 0, .int .i64 0, .int .i64 k, .int .i64 d, .int .u64 (k + 1)] 35) := ⟨_, rfl⟩
              rw [← hw4]
              have hT4 := HT3.out.old (w2 := w4) (by rw [hw4]; exact (Below.refl w3.heap.size w3).alloc (Nat.le_refl _) _)
              have x3 : w4.cell? ⟨w3.heap.size, 3, none⟩ = some (.int .i64 d) := by rw [hw4, cell_of_heap (heap_alloc_new w3 _)]; rfl
              have xb : w3.heap.size < w4.heap.size := by rw [hw4]; simp
              have c4 := (hT4.below.cell (p := ⟨b, off + k, none⟩) hb).trans hc0
              have hb4 : b < w4.heap.size := Nat.lt_of_lt_of_le hb hT4.below.size
              have HT4 := Lib.hid hT4
              clear hw4 hc hbr hT4
              go_region_held3 (fun W => W.cell? ⟨w3.heap.size, 3, none⟩ = some (.int .i64 d) ∧ W.cell? ⟨b, off + k, none⟩ = some (.int .i64 d))
                (first | exact ⟨x3, c4⟩ | exact ⟨(hb5.cell xb).trans x3, (hb5.cell hb4).trans c4⟩)
                ((go_at_call 17; refine (right_any w1.heap.size la3 ma2 28 (sa2.take j) _ (HT4.out.A.keep ((Keeps.refl (fun _ => False) w4).drew) (fun _ _ h => h)) FA.out.1.good hlen4.out).mono ?_; rintro e w5 ⟨rfl, hb5⟩))
              have HT5 := Lib.hid (HT4.out.old (w2 := w5) ((Below.refl w4.heap.size w4).drew.trans hb5))
              go_wp2_with fail
              go_roundw
              case rel => exact ⟨k + 1, sa2.take j, sb2, _, _, _, _, rfl, hkn2, HT5.out, FA.out.1, FA.out.2⟩
              case measure => simp [intOf]; omega
          · have hke : k = dues.length := by omega
            have hA3 : Has (cA dues) ((List.range dues.length).filter (cKeep gone)) sa2 := by rw [← left_end, ← hke, hke]; rw [hke] at hA2; exact hA2
            have hll : sa2.L.length = sb2.L.length := by rw [hA3.len, hB2.len]
            have HL := Lib.hid hll
            have HTT := Lib.hid hT2
            have FA := Lib.hid (And.intro hA3 hB2)
            clear hT2 hA2 hB2 hA3 hke
            obtain ⟨k2, rfl⟩ : ∃ k2 : Nat, k2 = k := ⟨_, rfl⟩
            obtain ⟨wp, rfl⟩ : ∃ wp : World, wp = wr := ⟨_, rfl⟩
            go_wp2_with fail
            refine (len_any w1.heap.size _ _ 28 sa2 _ HTT.out.A).mono ?_
            rintro e w2 ⟨rfl, rfl⟩
            go_wp2_with fail
            refine (len_any (w1.heap.size + 1) _ _ 28 sb2 _ HTT.out.B).mono ?_
            rintro e w2 ⟨rfl, rfl⟩
            go_wp2_with fail
            go_loopg [13] ((List.range dues.length).filter (cKeep gone)).length (fun gk v13 wx => C3Rel w w1.heap.size (w1.heap.size + 1) dues gone gk wx)
            case atStart =>
              refine ⟨_, sa2, sb2, la2, ma2, lb2, mb2, rfl, ?_, fun i hi => (List.mem_filter.1 hi).2, HTT.out, FA.out.1, FA.out.2⟩
              have := List.length_filter_le (cKeep gone) (List.range dues.length)
              simp only [List.length_range] at this
              omega
            case round =>
              clear HTT FA
              obtain ⟨I, sa3, sb3, la3, ma3, lb3, mb3, hIl, hI1, hIk, hT3, hA3, hB3⟩ := hrel
              have hla := hA3.len
              have hlb := hB3.len
              cases I with
              | nil =>
                have HTT := Lib.hid hT3
                have HL0 := Lib.hid hla
                clear hT3 hA3 hB3 hla hlb
                go_wp2_with fail
                refine (len_any w1.heap.size _ _ 28 sa3 _ HTT.out.A).mono ?_
                rintro e w2 ⟨rfl, rfl⟩
                have hl0 : sa3.L.length = 0 := HL0.out
                go_wp2_with fail
                go_ret
                exact ⟨rfl, HTT.out.below⟩
              | cons i0 I' =>
                obtain ⟨i, hi, t1, t2⟩ := same_top cKey (cDue dues) (cKeep gone) hA3 hB3 (by simp) hIk
                have hAn := hA3.take hi t1
                have hBn := hB3.take hi t2
                have hIn : ((i0 :: I').erase i).length = I'.length := by rw [List.length_erase_of_mem hi]; rfl
                have t1' : sa3.L[0]? = some ⟨0, 0, i, cDue dues i, i + 1⟩ := t1
                have t2' : sb3.L[0]? = some ⟨0, 0, i, cDue dues i, cnt (cKeep gone) i + 1⟩ := t2
                generalize cDue dues i = d at t1' t2'
                generalize ((cnt (cKeep gone) i : Nat) : Int) + 1 = c at t2'
                have P1 := Lib.hid (pop_some ⟨0, 0, i, d, i + 1⟩ w1.heap.size la3 ma3 28 sa3 wr hT3.A t1' (hA3.good.M_ne t1) (by rw [hla]; omega))
                have P2 := Lib.hid (fun (W : World) (la4 : Value) (H : Two w w1.heap.size (w1.heap.size + 1) la4 ma3 lb3 mb3 (sa3.take 0) sb3 W) => pop_some ⟨0, 0, i, d, c⟩ (w1.heap.size + 1) lb3 mb3 28 sb3 W H.B t2' (hB3.good.M_ne t2) (by rw [hlb]; omega))
                have hpos : Hid (0 < sa3.L.length) := Lib.hid (by rw [hla]; simp)
                have HTT := Lib.hid hT3
                have FA := Lib.hid (And.intro hAn (And.intro hBn (And.intro hIn (fun j (hj : j ∈ (i0 :: I').erase i) => hIk j (List.mem_of_mem_erase hj)))))
                clear hT3 hA3 hB3 hla hlb t1 t2 t1' t2' hAn hBn hIk hIn
                go_wp2_with fail
                refine (len_any w1.heap.size _ _ 28 sa3 _ HTT.out.A).mono ?_
                rintro e w2 ⟨rfl, rfl⟩
                have hp : 0 < sa3.L.length := hpos.out
                go_wp2_with fail
                refine P1.out.mono ?_
                rintro e w2 ⟨la4, rfl, hV2, hK2, hown2⟩
                have HT2 := Lib.hid (HTT.out.stepA hV2 hK2 (take_foot hown2))
                clear hV2 hK2 hown2
                go_wp2_with fail
                obtain ⟨w3, hw3⟩ : ∃ w3, w3 = w2.alloc (.cells #[.int .i64 0, .int .i64 0, .int .i64 i, .int .i64 d, .int .u64 (i + 1)] 35) := ⟨_, rfl⟩
                rw [← hw3]
                have hT3 := HT2.out.old (w2 := w3) (by rw [hw3]; exact (Below.refl w2.heap.size w2).alloc (Nat.le_refl _) _)
                have x3 : ItAt w3 w2.heap.size ⟨0, 0, i, d, i + 1⟩ := ⟨_, by rw [hw3]; exact heap_alloc_new w2 _⟩
                have hnf : Hid (∀ j, foot (w1.heap.size + 1) lb3 mb3 j → j ≠ w2.heap.size) := Lib.hid (fun j hj e => by have := HT2.out.B.lt hj; omega)
                have HT3 := Lib.hid hT3
                have X3 := Lib.hid x3
                clear hw3 hT3 x3
                refine (P2.out _ _ HT3.out).mono ?_
                rintro e w4 ⟨lb4, rfl, hV4, hK4, hown4⟩
                have HT4 := Lib.hid (HT3.out.stepB hV4 hK4 (take_foot hown4))
                have x4 := X3.out.keep hK4 (fun h => hnf.out _ h rfl)
                obtain ⟨x0, x1, x2, x3, x4, xb⟩ := x4.facts
                clear hV4 hK4 hown4
                go_wp2_with fail
                go_roundg I'.length
                case measure => simp at hIl; omega
                case rel =>
                  have hT5 := HT4.out.old (w2 := w4.alloc (.cells #[.int .i64 0, .int .i64 0, .int .i64 i, .int .i64 d, .int .u64 c] 35)) ((Below.refl w4.heap.size w4).alloc (Nat.le_refl _) _)
                  exact ⟨_, _, _, _, _, _, _, FA.out.2.2.1, by simp at hIl; omega, FA.out.2.2.2, hT5, FA.out.1, FA.out.2.1⟩
end Go.Proofs.Ytkhphnidopbjjaa
