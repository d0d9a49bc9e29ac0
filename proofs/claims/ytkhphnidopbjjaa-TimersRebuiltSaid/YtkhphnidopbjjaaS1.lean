/- HeapSorts, walked. -/
import Derived.Test.YtkhphnidopbjjaaH8
import Derived.Test.YtkhphnidopbjjaaLib2
import Derived.Test.YtkhphnidopbjjaaHm3
namespace Go.Proofs.Ytkhphnidopbjjaa
open Go.RowKit Go.Own Go.Own.MapTy Go.Hm
open Go.Own.Cells (sz enc)

def ReadsInts (w : World) (a : Option Addr) (dues : List Int) : Prop :=
  ∀ (k : Nat) z, dues[k]? = some z → ∃ b off, a = some ⟨b, off, none⟩ ∧ w.cell? ⟨b, off + k, none⟩ = some (.int .i64 z) ∧ b < w.heap.size
theorem ReadsInts.keep {w w' : World} {a : Option Addr} {dues : List Int} (h : ReadsInts w a dues) (hB : Below w.heap.size w w') : ReadsInts w' a dues := by
  intro k z hz
  obtain ⟨b, off, h1, h2, h3⟩ := h k z hz
  exact ⟨b, off, h1, (hB.cell h3).trans h2, Nat.lt_of_lt_of_le h3 hB.size⟩

theorem info4 : (Try.prog.info? 4).map (fun i => (i.zero, i.size, i.bytes)) = some (some (.bool false), 1, 1) := by kernel_rfl
def item (dues : List Int) (i : Nat) : It := ⟨0, 0, i, dues[i]?.getD 0, i + 1⟩

/-- between two rounds of the first loop -/
def S1Rel (w : World) (hb : Nat) (dues : List Int) (v : Value) (wr : World) : Prop :=
  ∃ (k : Nat) (s : Hp) (lv mv : Value), v = .int .i64 k ∧ k ≤ dues.length ∧ HV wr hb lv mv 28 s ∧ Hm.Good s ∧ s.L.length = k ∧ s.seq = k ∧ (∀ y ∈ s.L, ∃ i, i < k ∧ y = item dues i) ∧ Below w.heap.size w wr ∧ ∀ j, foot hb lv mv j → w.heap.size ≤ j

theorem s1_absent {s : Hp} {dues : List Int} {k : Nat} (hg : Hm.Good s) (hL : ∀ y ∈ s.L, ∃ i, i < k ∧ y = item dues i) : (MapTy.get s.M ⟨0, 0, (k : Int)⟩).isSome = false := by
  cases h : MapTy.get s.M ⟨0, 0, (k : Int)⟩ with
  | none => rfl
  | some v =>
    obtain ⟨j, y, _, h2, h3⟩ := hg.idx.only _ _ h
    obtain ⟨i, hi, rfl⟩ := hL y (List.mem_of_getElem? h2)
    simp only [item, It.key] at h3
    injection h3 with _ _ h4
    omega

theorem s1_step {w wr w1 : World} {hb k : Nat} {dues : List Int} {s s' : Hp} {lv mv lv' mv' : Value} {d : Int} (hk : k < dues.length) (hn : dues.length ≤ 200) (hd : dues[k]? = some d) (hg : Hm.Good s) (hl : s.L.length = k) (hq : s.seq = k) (hL : ∀ y ∈ s.L, ∃ i, i < k ∧ y = item dues i)
    (hB : Below w.heap.size w wr) (hf : ∀ j, foot hb lv mv j → w.heap.size ≤ j) (hs : s' = (s.put ⟨0, 0, k⟩ d).1) (hV : HV w1 hb lv' mv' 28 s') (hK : Keeps (foot hb lv mv) wr w1) (hF : ∀ j, foot hb lv' mv' j → foot hb lv mv j ∨ (wr.heap.size ≤ j ∧ j < w1.heap.size)) :
    S1Rel w hb dues (.int .i64 ((k + 1 : Nat) : Int)) w1 := by
  have hw := hB.size
  obtain ⟨g1, g2, g3, g4⟩ := hg.put (k := ⟨0, 0, (k : Int)⟩) (due := d) (s1_absent hg hL) (by omega)
  rw [← hs] at g1 g2 g3
  refine ⟨k + 1, s', lv', mv', rfl, hk, hV, g1, ?_, ?_, ?_, hB.trans (hK.below hw (fun j hj h => by have := hf j h; omega)), ?_⟩
  · have := g2.length_eq; simp at this; omega
  · rw [g3, hq]; simp
  · intro y hy
    rcases List.mem_append.1 (g2.mem_iff.1 hy) with h | h
    · obtain ⟨i, hi, e⟩ := hL y h
      exact ⟨i, by omega, e⟩
    · simp at h
      refine ⟨k, by omega, ?_⟩
      rw [h, hq]
      simp [item, hd]
  · intro j hj
    rcases hF j hj with h | h
    · exact hf j h
    · omega

theorem ItAt.stored {w : World} {b : Nat} {x : It} (h : ItAt w b x) (y : It) : ItAt (w.setCells b 0 (itEnc y)) b y := by
  obtain ⟨T, h⟩ := h
  obtain ⟨cur', h1, h2, h3, _⟩ := setCells_same b T (0, 0) (itEnc y) 0 w _ h
  refine ⟨T, ?_⟩
  rw [h1]
  have : cur' = (itEnc y).toArray := by
    refine Array.ext (by simpa [itEnc] using h2) fun j hj _ => ?_
    have hj' : j < (itEnc y).length := by rw [h2] at hj; simpa [itEnc] using hj
    have := h3 j _ (List.getElem?_eq_getElem hj') (by rw [h2] at hj; omega)
    rw [Nat.zero_add] at this
    have := (Array.getElem?_eq_some_iff.1 this).2
    simpa using this
  rw [this]
  rfl
theorem s2_world {w4 : World} {sb n i m : Nat} {seen : List Bool} {last y : It} (hR : RowAt w4 4 (.slice (some ⟨sb, 0, none⟩) n n) seen) (hL : ItAt w4 (sb + 1) last) (hi : i < seen.length) :
    Keeps (fun j => j = sb ∨ j = sb + 1) w4 (((w4.drewN m).setCells sb i [.bool true]).setCells (sb + 1) 0 (itEnc y)) ∧ RowAt (((w4.drewN m).setCells sb i [.bool true]).setCells (sb + 1) 0 (itEnc y)) 4 (.slice (some ⟨sb, 0, none⟩) n n) (seen.set i true) ∧
    ItAt (((w4.drewN m).setCells sb i [.bool true]).setCells (sb + 1) 0 (itEnc y)) (sb + 1) y := by
  have hR1 : RowAt (w4.drewN m) 4 (.slice (some ⟨sb, 0, none⟩) n n) seen := hR.keep ((Keeps.refl (fun _ => False) w4).drewN m) (fun _ _ h => h)
  have h1 := hR1.set hi true
  rw [show 0 + i * sz Bool = i from by simp [sz]] at h1
  have k1 : Keeps (fun j => j = sb) w4 ((w4.drewN m).setCells sb i [.bool true]) := ((Keeps.refl (fun j => j = sb) w4).drewN m).setCells (.inl rfl) _ _
  have hL1 := hL.keep k1 (by omega)
  have k2 : Keeps (fun j => j = sb + 1) ((w4.drewN m).setCells sb i [.bool true]) (((w4.drewN m).setCells sb i [.bool true]).setCells (sb + 1) 0 (itEnc y)) := (Keeps.refl (fun j => j = sb + 1) _).setCells (.inl rfl) _ _
  exact ⟨(k1.mono (fun _ _ h => .inl h)).comp (k2.mono (fun _ _ h => .inr h)), h1.keep k2 (fun g h => by cases h; show ¬ (sb = sb + 1); omega), hL1.stored y⟩
/-- what is left in the second loop -/
structure S2Ok (dues : List Int) (k : Nat) (s : Hp) (seen : List Bool) (last : It) : Prop where
  good : Hm.Good s
  len : s.L.length + k = dues.length
  slen : seen.length = dues.length
  all : ∀ y ∈ s.L, ∃ i, i < dues.length ∧ y = item dues i ∧ seen[i]? = some false
  last : 0 < k → (∃ j, j < dues.length ∧ last = item dues j) ∧ ∀ y ∈ s.L, Hm.le last y
/-- between two rounds of the second loop -/
def S2Rel (w : World) (hb sb : Nat) (dues : List Int) (v : Value) (wr : World) : Prop :=
  ∃ (k : Nat) (s : Hp) (lv mv : Value) (seen : List Bool) (last : It), v = .int .i64 k ∧ k ≤ dues.length ∧ HV wr hb lv mv 28 s ∧ S2Ok dues k s seen last ∧
    RowAt wr 4 (.slice (some ⟨sb, 0, none⟩) dues.length dues.length) seen ∧ ItAt wr (sb + 1) last ∧ Below w.heap.size w wr ∧ ∀ j, foot hb lv mv j → w.heap.size ≤ j ∧ j ≠ sb ∧ j ≠ sb + 1

theorem S2Ok.step {dues : List Int} {k : Nat} {s : Hp} {seen : List Bool} {last x : It} (h : S2Ok dues k s seen last) (hx : s.L[0]? = some x) :
    ∃ i, i < dues.length ∧ x = item dues i ∧ seen[i]? = some false ∧ S2Ok dues (k + 1) (s.take 0) (seen.set i true) x := by
  obtain ⟨i, hi, he, hsn⟩ := h.all x (List.mem_of_getElem? hx)
  obtain ⟨g1, g2, g3⟩ := h.good.take hx
  refine ⟨i, hi, he, hsn, g1, ?_, by simpa using h.slen, fun y hy => ?_, fun _ => ⟨⟨i, hi, he⟩, fun y hy => ?_⟩⟩
  · have := g2.length_eq
    have := h.len
    simp at *
    omega
  · obtain ⟨j, hj, hye, hjs⟩ := h.all y (g2.mem_iff.1 (List.mem_cons_of_mem _ hy))
    refine ⟨j, hj, hye, ?_⟩
    have hne : i ≠ j := by
      intro e
      have hn := (g2.map It.key).nodup_iff.2 h.good.idx.nodup
      simp only [List.map_cons, List.nodup_cons] at hn
      exact hn.1 (List.mem_map.2 ⟨y, hy, by rw [hye, he, e]⟩)
    rw [List.getElem?_set_ne hne]
    exact hjs
  · obtain ⟨j, hj, hyj⟩ := List.getElem_of_mem (g2.mem_iff.1 (List.mem_cons_of_mem _ hy))
    exact h.good.heap.min hx j y (by rw [List.getElem?_eq_getElem hj, hyj])

set_option maxRecDepth 100000 in
set_option maxHeartbeats 2000000 in
theorem sorts_walk (dues : List Int) (a : Option Addr) (cap : Nat) (w : World) (hd : ReadsInts w a dues) (hmax : dues.length ≤ 9223372036854775807) :
    Calls Try.prog 3 #[.slice a dues.length cap] w fun e w' => e = .returned (.bool true) ∧ Below w.heap.size w w' := by
  obtain ⟨i4, hi4, hz4, hs4, hb4⟩ := info_parts info4
  have HI := Lib.hid (And.intro hi4 (And.intro hz4 (And.intro hs4 hb4)))
  clear hi4 hz4 hs4 hb4
  have HD := Lib.hid hd
  clear hd
  by_cases hn : 200 < dues.length
  · go_enter Try.func3, Try.ntmps3
    go_wp2_with (go_at_call 12; refine (keeps_true _).mono ?_; rintro e w1 ⟨rfl, hB1⟩)
    go_ret
    exact ⟨rfl, hB1⟩
  · have hn' : dues.length ≤ 200 := by omega
    go_enter Try.func3, Try.ntmps3
    go_wp2_with (go_at_call 12; refine (keeps_true _).mono ?_; rintro e w1 ⟨rfl, hB1⟩)
    go_loopw [20] (fun v wr => S1Rel w w1.heap.size dues v wr) (fun v _ => dues.length - (intOf v).toNat)
    case atStart =>
      refine ⟨0, hp0, .slice none 0 0, .map none, rfl, Nat.zero_le _, HV.zero w1 _, Hm.Good.zero, rfl, rfl, by simp [hp0], hB1.alloc hB1.size _, ?_⟩
      have := hB1.size
      rintro j (h | h | h)
      · omega
      · simp [Value.ownBlock] at h
      · simp at h
    case round =>
      obtain ⟨k, s, lv, mv, rfl, hk, hV, hG, hl, hq, hL, hB, hf⟩ := hrel
      by_cases hkn : k < dues.length
      · have hx : dues[k]? = some dues[k] := by simp [hkn]
        generalize dues[k] = d at hx
        obtain ⟨b, off, rfl, hc, hb⟩ := HD.out.keep hB k d hx
        obtain ⟨s', hs'⟩ : ∃ s', s' = (s.put ⟨0, 0, k⟩ d).1 := ⟨_, rfl⟩
        have hput : s.put ⟨0, 0, k⟩ d = (s', 0) := by
          obtain ⟨_, _, _, h4⟩ := hG.put (k := ⟨0, 0, (k : Int)⟩) (due := d) (s1_absent hG hL) (by omega)
          exact Prod.ext hs'.symm h4
        have PT := Lib.hid (putTo_mk (hb := w1.heap.size) hput (by omega))
        have FV := Lib.hid hV
        have FG := Lib.hid (And.intro hG (And.intro hl (And.intro hq hL)))
        have FX := Lib.hid hx
        have FS := Lib.hid hs'
        clear hV hG hl hq hL hx hs' hput
        go_wp2_with (go_at_call 13; refine (PT.out _ _ _ FV.out).mono ?_; rintro e w2 ⟨lv', mv', rfl, hV2, hK2, hF2⟩)
        go_roundw
        case rel => exact s1_step hkn hn' FX.out FG.out.1 FG.out.2.1 FG.out.2.2.1 FG.out.2.2.2 hB hf FS.out hV2 hK2 hF2
        case measure => simp [intOf]; omega
      · obtain rfl : k = dues.length := by omega
        obtain ⟨cs, hmk, hcs⟩ := run_make_bools (P := Try.prog) (t := 33) Try.underlying33 HI.out.1 HI.out.2.1 HI.out.2.2.1 HI.out.2.2.2 dues.length (by omega)
        have HCS := Lib.hid hcs
        have FV := Lib.hid hV
        have FG := Lib.hid (And.intro hG (And.intro hl (And.intro hq hL)))
        clear hcs hV hG hl hq hL
        obtain ⟨wo, rfl⟩ : ∃ wo : World, wo = wr := ⟨_, rfl⟩
        have hw1 := hB1.size
        have hwr := hB.size
        have hhb : w1.heap.size < wo.heap.size := lt_of_heap FV.out.h
        go_wp2_with fail
        go_loopw [37] (fun v wx => S2Rel w w1.heap.size wo.heap.size dues v wx) (fun v _ => dues.length - (intOf v).toNat)
        case atStart =>
          have kA : Keeps (fun _ => False) wo (wo.alloc (.cells cs 4)) := (Keeps.refl _ wo).alloc _
          have kB : Keeps (fun _ => False) wo ((wo.alloc (.cells cs 4)).alloc (.cells #[.int .i64 0, .int .i64 0, .int .i64 0, .int .i64 0, .int .u64 0] 35)) := kA.alloc _
          refine ⟨0, s, lv, mv, List.replicate dues.length false, ItZ, rfl, Nat.zero_le _, FV.out.keep kB (fun _ _ h => h), ⟨FG.out.1, by rw [FG.out.2.1]; rfl, by simp, fun y hy => ?_, fun h => by omega⟩, ?_, ⟨_, alloc_at (by simp)⟩, hB.trans (kB.below hwr (fun _ _ h => h)), fun j hj => ⟨hf j hj, by have := FV.out.lt hj; omega, by have := FV.out.lt hj; omega⟩⟩
          · obtain ⟨i, hi, e⟩ := FG.out.2.2.2 y hy
            exact ⟨i, hi, e, by simp [hi]⟩
          · exact RowAt.frame (w := wo.alloc (.cells cs 4)) (RowAt.made (heap_alloc_new wo _) HCS.out (by simp) (by unfold maxLen; omega)) (fun g h => by cases h; exact Below.heap_alloc _ _ _ (by simp))
        case round =>
          clear hmk
          obtain ⟨k, s2, lv2, mv2, seen, last, rfl, hk2, hV2, hO, hR, hLst, hB2, hf2⟩ := hrel
          by_cases hkn2 : k < dues.length
          · have hpos : 0 < s2.L.length := by have := hO.len; omega
            have hx : s2.L[0]? = some s2.L[0] := by simp [hpos]
            generalize s2.L[0] = x at hx
            obtain ⟨i, hi, hxe, hsn, hO'⟩ := hO.step hx
            have hdi : dues[i]? = some dues[i] := by simp [hi]
            have hxe' : x = ⟨0, 0, i, dues[i], i + 1⟩ := by rw [hxe]; simp [item, hdi]
            generalize dues[i] = d at hdi hxe'
            subst hxe'
            have hlast : k = 0 ∨ (0 < k ∧ last.due < d) ∨ (0 < k ∧ last.due = d ∧ last.id ≤ i) := by
              rcases Nat.eq_zero_or_pos k with h | h
              · exact .inl h
              · obtain ⟨⟨j, hj, hl⟩, hle⟩ := hO.last h
                rcases hle _ (List.mem_of_getElem? hx) with h' | ⟨h', h''⟩
                · exact .inr (.inl ⟨h, h'⟩)
                · refine .inr (.inr ⟨h, h', ?_⟩)
                  rw [hl] at h'' ⊢
                  simp only [item] at h'' ⊢
                  omega
            have PP := Lib.hid (pop_some ⟨0, 0, i, d, i + 1⟩ w1.heap.size lv2 mv2 28 s2 wr hV2 hx (hO.good.M_ne hx) (by have := hO.len; omega))
            obtain ⟨b, off, rfl, hc0, hb⟩ := HD.out i d hdi
            have hc := (hB2.cell (p := ⟨b, off + i, none⟩) hb).trans hc0
            have hbr : b < wr.heap.size := Nat.lt_of_lt_of_le hb hB2.size
            have hO2 := Lib.hid hO'
            have hVV := Lib.hid hV2
            have hRR := Lib.hid hR
            have hsn' := Lib.hid hsn
            have hsl : Hid (i < seen.length) := by rw [hO.slen]; exact hi
            clear hx hxe hdi hO hO' hV2 hR hsn hc0
            go_wp2_with fail
            refine PP.out.mono ?_
            rintro e w3 ⟨lv3, rfl, hV3, hK3, hown⟩
            have hfoot : ∀ j, foot w1.heap.size lv2 mv2 j → w.heap.size ≤ j ∧ j ≠ wo.heap.size ∧ j ≠ wo.heap.size + 1 := hf2
            have hR3 := hRR.out.keep hK3 (fun g h e => by cases h; exact (hf2 _ e).2.1 rfl)
            have hL3 := hLst.keep hK3 (fun e => (hf2 _ e).2.2 rfl)
            have hc3 := (hK3.cell (p := ⟨b, off + i, none⟩) hbr (fun e => by have : w.heap.size ≤ b := (hf2 _ e).1; omega)).trans hc
            have hs3 := hK3.size
            have hsb3 : wo.heap.size + 1 < w3.heap.size := hL3.facts.2.2.2.2.2
            go_wp2_with fail
            obtain ⟨w4, hw4⟩ : ∃ w4, w4 = w3.alloc (.cells #[.int .i64 0, .int .i64 0, .int .i64 i, .int .i64 d, .int .u64 ((i : Int) + 1)] 35) := ⟨_, rfl⟩
            rw [← hw4]
            have k4 : Keeps (fun _ => False) w3 w4 := by rw [hw4]; exact (Keeps.refl _ w3).alloc _
            have hX4 : ItAt w4 w3.heap.size ⟨0, 0, i, d, i + 1⟩ := ⟨_, by rw [hw4]; exact heap_alloc_new w3 _⟩
            have hV4 := Lib.hid (hV3.keep k4 (fun _ _ h => h))
            have hR4 := hR3.keep k4 (fun _ _ h => h)
            have hL4 := hL3.keep k4 (fun h => h)
            have hc4 := (k4.cell (p := ⟨b, off + i, none⟩) (by show b < _; omega) (fun h => h)).trans hc3
            have hs4 : w4.heap.size = w3.heap.size + 1 := by rw [hw4]; simp
            have HS4 := Lib.hid hs4
            have sn := row_bool hR4 (i := i) hsn'.out
            rw [Nat.zero_add] at sn
            have hBB := Lib.hid ((hB2.trans (hK3.below (B := w.heap.size) hB2.size (fun j hj h => by have := (hf2 _ h).1; omega))).trans (k4.below (B := w.heap.size) (Nat.le_trans hB2.size hs3) (fun _ _ h => h)))
            have HLA := Lib.hid hL4
            have HRR4 := Lib.hid hR4
            obtain ⟨x0, x1, x2, x3, x4, xb⟩ := hX4.facts
            obtain ⟨l0, l1, l2, l3, l4, lb⟩ := hL4.facts
            have lf := hL4.froz
            have sf : ∀ o, w4.frozen? ⟨wo.heap.size, o, none⟩ = false := fun o => hR4.frozen o
            clear hw4 k4 hV3 hR3 hL3 hc3 hs4 hB2 hc hK3 hfoot
            have p1 : ((i : Int) < 0) = False := by simp
            have p2 : decide ((i : Int) < 0) = false := by simp
            have p3 : decide ((dues.length : Int) ≤ (i : Int)) = false := decide_eq_false (by omega)
            go_quiet (fail)
            clear p1 p2 p3 hc4
            have hlb : k ≤ 0 ∨ (0 < k ∧ decide (d < last.due) = false ∧ ((d == last.due) = false ∨ ((d == last.due) = true ∧ decide ((i : Int) < last.id) = false))) := by
              rcases hlast with h | ⟨h1, h2⟩ | ⟨h1, h2, h3⟩
              · left; omega
              · right; refine ⟨h1, by simp; omega, .inl ?_⟩
                exact beq_eq_false_iff_ne.2 (by omega)
              · right; refine ⟨h1, by simp; omega, .inr ⟨?_, by simp; omega⟩⟩
                exact beq_iff_eq.2 h2.symm
            clear hlast
            have STEP : ∀ W, Keeps (fun j => j = wo.heap.size ∨ j = wo.heap.size + 1) w4 W → RowAt W 4 (.slice (some ⟨wo.heap.size, 0, none⟩) dues.length dues.length) (seen.set i true) → ItAt W (wo.heap.size + 1) ⟨0, 0, i, d, i + 1⟩ → S2Rel w w1.heap.size wo.heap.size dues (.int .i64 ((k + 1 : Nat) : Int)) W := by
              intro W hK hR hI
              refine ⟨k + 1, s2.take 0, lv3, mv2, seen.set i true, ⟨0, 0, i, d, i + 1⟩, rfl, by omega, hV4.out.keep hK ?_, hO2.out, hR, hI, ?_, ?_⟩
              · rintro j hj h
                have := hf2 j (by rcases hj with hj | hj | hj; exact .inl hj; exact .inr (.inl (by rw [← hown]; exact hj)); exact .inr (.inr hj))
                rcases h with h | h
                · exact this.2.1 h
                · exact this.2.2 h
              · exact hBB.out.trans (hK.below hBB.out.size (fun j hj h => by rcases h with h | h <;> omega))
              · intro j hj
                exact hf2 j (by rcases hj with hj | hj | hj; exact .inl hj; exact .inr (.inl (by rw [← hown]; exact hj)); exact .inr (.inr hj))
            have SS := Lib.hid STEP
            clear STEP
            rcases hlb with q1 | ⟨q1, q2, q3 | ⟨q3, q4⟩⟩
            all_goals
              go_wp2_with fail
              go_region
              all_goals
                go_wp2_with fail
                go_roundw
                case rel =>
                  obtain ⟨z1, z2, z3⟩ := s2_world (m := nq + 1) (y := ⟨0, 0, i, d, i + 1⟩) HRR4.out HLA.out hsl.out
                  exact SS.out _ z1 z2 z3
                case measure => simp [intOf]; omega
          · obtain rfl : k = dues.length := by omega
            have hnil : s2.L = [] := List.eq_nil_of_length_eq_zero (by have := hO.len; omega)
            have PN := Lib.hid (pop_none w1.heap.size lv2 mv2 28 s2 wr hV2 hnil)
            have VV := Lib.hid hV2
            have NL := Lib.hid hnil
            clear hV2 hnil hO hR hLst
            go_wp2_with fail
            refine PN.out.mono ?_
            rintro e w3 ⟨rfl, hB3⟩
            have k3 : Keeps (fun _ => False) wr w3 := Keeps.of_below hB3
            go_wp2_with (go_at_call 15; refine (len_any w1.heap.size _ _ 28 s2 _ (VV.out.keep (k3.alloc _) (fun _ _ h => h))).mono ?_; rintro e w4 ⟨rfl, rfl⟩)
            go_ret
            have hz := hB2.size
            exact ⟨by rw [NL.out]; rfl, (hB2.trans (hB3.mono hz)).alloc (by have := hB3.size; omega) _⟩
end Go.Proofs.Ytkhphnidopbjjaa
