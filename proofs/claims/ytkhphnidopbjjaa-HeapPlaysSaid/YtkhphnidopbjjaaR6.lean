/- HeapPlays, walked: the heap and the document's queue side by side. -/
import Derived.Test.YtkhphnidopbjjaaR5
import Derived.Test.YtkhphnidopbjjaaLib4
import Derived.Test.YtkhphnidopbjjaaH12
import Derived.Test.YtkhphnidopbjjaaS1
import Derived.Deep.CutBlock
namespace Go.Proofs.Ytkhphnidopbjjaa
open Go.RowKit Go.Own Go.Own.MapTy Go.Hm
open Go.Own.Cells (sz enc)

/-- the heap at block hb (things s) and the queue at block qb (list q), apart -/
structure PlM (w : World) (hb qb : Nat) (lv mv qv : Value) (s : Hp) (q : List RIt) (sq : Int) (wr : World) : Prop where
  below : Below w.heap.size w wr
  hv : HV wr hb lv mv 28 s
  fw : ∀ j, foot hb lv mv j → w.heap.size ≤ j
  qbox : wr.heap[qb]? = some (.cells #[qv, .int .i64 sq] 49 (0, 0))
  qrow : RowAt wr 57 qv q
  qw : w.heap.size ≤ qb
  qfoot : ¬ foot hb lv mv qb
  qsep : ∀ g, qv.ownBlock = some g → ¬ foot hb lv mv g ∧ g ≠ qb ∧ w.heap.size ≤ g
section
variable {w wr w2 : World} {hb qb : Nat} {lv mv qv lv' mv' qv' : Value} {s s' : Hp} {q q' : List RIt} {sq sq' : Int}
theorem PlM.old (h : PlM w hb qb lv mv qv s q sq wr) (K : Below wr.heap.size wr w2) : PlM w hb qb lv mv qv s q sq w2 :=
  ⟨h.below.trans (K.mono h.below.size), h.hv.keep (Keeps.of_below K) (fun _ _ f => f), h.fw, (K.block _ (lt_of_heap h.qbox)).trans h.qbox, h.qrow.keep (Keeps.of_below K) (fun _ _ f => f), h.qw, h.qfoot, h.qsep⟩
theorem PlM.stepH (h : PlM w hb qb lv mv qv s q sq wr) (H : HV w2 hb lv' mv' 28 s') (K : Keeps (foot hb lv mv) wr w2) (F : ∀ j, foot hb lv' mv' j → foot hb lv mv j ∨ (wr.heap.size ≤ j ∧ j < w2.heap.size)) : PlM w hb qb lv' mv' qv s' q sq w2 := by
  have hq := lt_of_heap h.qbox
  have hb' := h.below.size
  refine ⟨h.below.trans (K.below hb' (fun j hj f => by have := h.fw j f; omega)), H, fun j hj => ?_, (K.block _ hq h.qfoot).trans h.qbox, h.qrow.keep K (fun g hg => (h.qsep g hg).1), h.qw, fun hj => ?_, fun g hg => ⟨fun hj => ?_, (h.qsep g hg).2⟩⟩
  · rcases F j hj with f | f
    · exact h.fw j f
    · omega
  · rcases F _ hj with f | f
    · exact h.qfoot f
    · omega
  · rcases F _ hj with f | f
    · exact (h.qsep g hg).1 f
    · have := h.qrow.lt hg; omega
theorem PlM.stepQ (h : PlM w hb qb lv mv qv s q sq wr) (K : Below wr.heap.size wr w2) (R : RowAt w2 57 qv' q') (F : ∀ g, qv'.ownBlock = some g → wr.heap.size ≤ g ∨ qv.ownBlock = some g) :
    PlM w hb qb lv mv qv' s q' sq' ((w2.setCell ⟨qb, 0, none⟩ qv').setCell ⟨qb, 1, none⟩ (.int .i64 sq')) := by
  have h2 := h.old K
  have hq := lt_of_heap h.qbox
  have hb' := h.below.size
  have KS : Keeps (fun j => j = qb) w2 ((w2.setCell ⟨qb, 0, none⟩ qv').setCell ⟨qb, 1, none⟩ (.int .i64 sq')) :=
    ((Keeps.refl (fun j => j = qb) w2).setCell (p := ⟨qb, 0, none⟩) (.inl rfl) _).setCell (p := ⟨qb, 1, none⟩) (.inl rfl) _
  have hsep : ∀ g, qv'.ownBlock = some g → ¬ foot hb lv mv g ∧ g ≠ qb ∧ w.heap.size ≤ g := fun g hg => by
    rcases F g hg with f | f
    · exact ⟨fun hj => by have := h.hv.lt hj; omega, by omega, by omega⟩
    · exact h.qsep g f
  refine ⟨h2.below.trans (KS.below h2.below.size (fun j hj e => by have := h.qw; omega)), h2.hv.keep KS (fun j hj e => by subst e; exact h.qfoot hj), h.fw, ?_, R.keep KS (fun g hg e => (hsep g hg).2.1 e), h.qw, h.qfoot, hsep⟩
  simp [World.setCell, Array.getElem?_modify, h2.qbox]
end
theorem box5 {W : World} {b : Nat} {c0 c1 c2 c3 c4 : Value} {T : TypeId} (h : W.heap[b]? = some (.cells #[c0, c1, c2, c3, c4] T (0, 0))) :
    (W.cell? ⟨b, 0, none⟩ = some c0 ∧ W.cell? ⟨b, 1, none⟩ = some c1 ∧ W.cell? ⟨b, 2, none⟩ = some c2 ∧ W.cell? ⟨b, 3, none⟩ = some c3 ∧ W.cell? ⟨b, 4, none⟩ = some c4) ∧
    (W.frozen? ⟨b, 0, none⟩ = false ∧ W.frozen? ⟨b, 1, none⟩ = false ∧ W.frozen? ⟨b, 2, none⟩ = false ∧ W.frozen? ⟨b, 3, none⟩ = false ∧ W.frozen? ⟨b, 4, none⟩ = false) ∧ b < W.heap.size := by
  refine ⟨⟨?_, ?_, ?_, ?_, ?_⟩, ⟨?_, ?_, ?_, ?_, ?_⟩, lt_of_heap h⟩
  all_goals first | (rw [cell_of_heap h]; rfl) | (simp [World.frozen?, h])
/-- an operation as it stands in the script -/
structure Opn where
  kind : Int
  run : Int
  sort : Int
  id : Int
  due : Int
def ReadsOps (w : World) (a : Option Addr) (l : List Opn) : Prop := ∀ (k : Nat) (o : Opn), l[k]? = some o → ∃ b off, a = some ⟨b, off, none⟩ ∧ b < w.heap.size ∧
  w.cell? ⟨b, off + k * 5, none⟩ = some (.int .i64 o.kind) ∧ w.cell? ⟨b, off + k * 5 + 1, none⟩ = some (.int .i64 o.run) ∧ w.cell? ⟨b, off + k * 5 + 2, none⟩ = some (.int .i64 o.sort) ∧ w.cell? ⟨b, off + k * 5 + 3, none⟩ = some (.int .i64 o.id) ∧ w.cell? ⟨b, off + k * 5 + 4, none⟩ = some (.int .i64 o.due)
/-- in a round: B is the operation's box, behind it the key's -/
structure Rd (w : World) (hb qb : Nat) (lv mv qv : Value) (s : Hp) (q : List RIt) (sq : Int) (B : Nat) (ki ru so id du : Int) (wr : World) : Prop where
  m : PlM w hb qb lv mv qv s q sq wr
  bo : wr.heap[B]? = some (.cells #[.int .i64 ki, .int .i64 ru, .int .i64 so, .int .i64 id, .int .i64 du] 51 (0, 0))
  bk : wr.heap[B + 1]? = some (.cells #[.int .i64 ru, .int .i64 so, .int .i64 id] 32 (0, 0))
  nf : ∀ j, foot hb lv mv j → j ≠ B ∧ j ≠ B + 1
  qB : qb < B
section
variable {w wr w2 : World} {hb qb B : Nat} {lv mv qv lv' mv' qv' : Value} {s s' : Hp} {q q' : List RIt} {sq sq' ki ru so id du : Int}
theorem Rd.old (h : Rd w hb qb lv mv qv s q sq B ki ru so id du wr) (K : Below wr.heap.size wr w2) : Rd w hb qb lv mv qv s q sq B ki ru so id du w2 :=
  ⟨h.m.old K, (K.block _ (lt_of_heap h.bo)).trans h.bo, (K.block _ (lt_of_heap h.bk)).trans h.bk, h.nf, h.qB⟩
theorem Rd.stepH (h : Rd w hb qb lv mv qv s q sq B ki ru so id du wr) (H : HV w2 hb lv' mv' 28 s') (K : Keeps (foot hb lv mv) wr w2) (F : ∀ j, foot hb lv' mv' j → foot hb lv mv j ∨ (wr.heap.size ≤ j ∧ j < w2.heap.size)) : Rd w hb qb lv' mv' qv s' q sq B ki ru so id du w2 := by
  have h1 := lt_of_heap h.bo
  have h2 := lt_of_heap h.bk
  refine ⟨h.m.stepH H K F, (K.block _ h1 (fun f => (h.nf _ f).1 rfl)).trans h.bo, (K.block _ h2 (fun f => (h.nf _ f).2 rfl)).trans h.bk, fun j hj => ?_, h.qB⟩
  rcases F j hj with f | f
  · exact h.nf j f
  · omega
theorem Rd.stepQ (h : Rd w hb qb lv mv qv s q sq B ki ru so id du wr) (K : Below wr.heap.size wr w2) (R : RowAt w2 57 qv' q') (F : ∀ g, qv'.ownBlock = some g → wr.heap.size ≤ g ∨ qv.ownBlock = some g) :
    Rd w hb qb lv mv qv' s q' sq' B ki ru so id du ((w2.setCell ⟨qb, 0, none⟩ qv').setCell ⟨qb, 1, none⟩ (.int .i64 sq')) := by
  have h2 := h.old K
  refine ⟨h.m.stepQ K R F, ?_, ?_, h.nf, h.qB⟩
  · rw [Below.heap_setCell _ _ _ _ (by have := h.qB; simp; omega), Below.heap_setCell _ _ _ _ (by have := h.qB; simp; omega)]; exact h2.bo
  · rw [Below.heap_setCell _ _ _ _ (by have := h.qB; simp; omega), Below.heap_setCell _ _ _ _ (by have := h.qB; simp; omega)]; exact h2.bk
theorem Rd.keep {S : Nat → Prop} (h : Rd w hb qb lv mv qv s q sq B ki ru so id du wr) (K : Keeps S wr w2) (hS : ∀ j, S j → B + 1 < j ∧ w.heap.size ≤ j ∧ ¬ foot hb lv mv j ∧ qv.ownBlock ≠ some j) : Rd w hb qb lv mv qv s q sq B ki ru so id du w2 := by
  have hq := h.qB
  refine ⟨⟨h.m.below.trans (K.below h.m.below.size (fun j hj f => by have := (hS j f).2.1; omega)), h.m.hv.keep K (fun j hj f => (hS j f).2.2.1 hj), h.m.fw, (K.block _ (lt_of_heap h.m.qbox) (fun f => by have := (hS _ f).1; omega)).trans h.m.qbox,
    h.m.qrow.keep K (fun g hg f => (hS g f).2.2.2 hg), h.m.qw, h.m.qfoot, h.m.qsep⟩, (K.block _ (lt_of_heap h.bo) (fun f => by have := (hS _ f).1; omega)).trans h.bo, (K.block _ (lt_of_heap h.bk) (fun f => by have := (hS _ f).1; omega)).trans h.bk, h.nf, h.qB⟩
theorem Rd.facts (h : Rd w hb qb lv mv qv s q sq B ki ru so id du wr) :
    (wr.cell? ⟨B, 0, none⟩ = some (.int .i64 ki) ∧ wr.cell? ⟨B, 1, none⟩ = some (.int .i64 ru) ∧ wr.cell? ⟨B, 2, none⟩ = some (.int .i64 so) ∧ wr.cell? ⟨B, 3, none⟩ = some (.int .i64 id) ∧ wr.cell? ⟨B, 4, none⟩ = some (.int .i64 du)) ∧
    (wr.cell? ⟨B + 1, 0, none⟩ = some (.int .i64 ru) ∧ wr.cell? ⟨B + 1, 1, none⟩ = some (.int .i64 so) ∧ wr.cell? ⟨B + 1, 2, none⟩ = some (.int .i64 id)) ∧
    (wr.cell? ⟨qb, 0, none⟩ = some qv ∧ wr.cell? ⟨qb, 1, none⟩ = some (.int .i64 sq)) ∧ (wr.frozen? ⟨qb, 0, none⟩ = false ∧ wr.frozen? ⟨qb, 1, none⟩ = false) ∧ (qb < wr.heap.size ∧ B < wr.heap.size ∧ B + 1 < wr.heap.size) := by
  refine ⟨⟨?_, ?_, ?_, ?_, ?_⟩, ⟨?_, ?_, ?_⟩, ⟨?_, ?_⟩, ⟨?_, ?_⟩, lt_of_heap h.m.qbox, lt_of_heap h.bo, lt_of_heap h.bk⟩
  all_goals first | (rw [cell_of_heap h.bo]; rfl) | (rw [cell_of_heap h.bk]; rfl) | (rw [cell_of_heap h.m.qbox]; rfl) | (simp [World.frozen?, h.m.qbox])
end
theorem sortTo_ref {s : Hp} {Z : List It} (h : Ref s Z) (now : Int) (hl : s.L.length ≤ 16384) : SortTo 44 (dueL s now) (Z.take (dueN now Z)) := fun a cap W hr =>
  (sort_items (.slice a (dueL s now).length cap) (dueL s now) W hr (by have := (dueL_perm h.good.heap now).length_eq; have h2 := List.length_filter_le (fun x : It => decide (x.due ≤ now)) s.L; omega)).mono fun _ _ ⟨he, _, hp, hs, hR, hK⟩ => ⟨he, by rw [← h.due hp hs]; exact hR, hK⟩
/-- between two rounds, and behind the switch -/
def PlRel (w : World) (hb qb : Nat) (k : Nat) (wr : World) : Prop :=
  ∃ (lv mv qv : Value) (s : Hp) (Z : List It), PlM w hb qb lv mv qv s (Z.map toR) s.seq wr ∧ Ref s Z ∧ (∀ x ∈ Z, 0 ≤ x.seq) ∧ 0 ≤ s.seq ∧ s.seq ≤ k ∧ Z.length ≤ k

set_option maxRecDepth 100000 in
set_option maxHeartbeats 40000000 in
theorem plays_walk (l : List Opn) (a : Option Addr) (cap : Nat) (w : World) (hd : ReadsOps w a l) (hmax : l.length ≤ 9223372036854775807) :
    Calls Try.prog 7 #[.slice a l.length cap] w fun e w' => e = .returned (.bool true) ∧ Below w.heap.size w w' := by
  have HD := Lib.hid hd
  clear hd
  by_cases hn : 100 < l.length
  · go_enter Try.func7, Try.ntmps7
    go_wp2_with (go_at_call 12; refine (keeps_true _).mono ?_; rintro e w1 ⟨rfl, hB1⟩)
    all_goals
      go_ret
      exact ⟨rfl, hB1⟩
  · have hn' : l.length ≤ 100 := by omega
    go_enter Try.func7, Try.ntmps7
    go_wp2_with (go_at_call 12; refine (keeps_true _).mono ?_; rintro e w1 ⟨rfl, hB1⟩)
    go_loopw [26] (fun v wr => ∃ k : Nat, v = .int .i64 k ∧ k ≤ l.length ∧ PlRel w w1.heap.size (w1.heap.size + 1) k wr) (fun v _ => l.length - (intOf v).toNat)
    case atStart =>
      have H0 := (HV.zero w1 28).keep ((Keeps.refl (fun _ => False) _).alloc (.cells #[.slice none 0 0, .int .i64 0] 49)) (fun _ _ f => f)
      have hf : ∀ j, foot w1.heap.size (.slice none 0 0) (.map none) j → j = w1.heap.size := by
        rintro j (h | h | h)
        · exact h
        · simp [Value.ownBlock] at h
        · simp at h
      have hb := hB1.size
      refine ⟨0, rfl, Nat.zero_le _, .slice none 0 0, .map none, .slice none 0 0, hp0, [], ⟨?_, H0, fun j hj => by have := hf j hj; omega, ?_, RowAt.nil _ _, by omega, fun hj => by have := hf _ hj; omega, fun g h => by simp [Value.ownBlock] at h⟩, Ref.zero, by simp, Int.le_refl _, Int.le_refl _, Nat.le_refl _⟩
      · exact (hB1.alloc hb _).alloc (by simp; omega) _
      · rw [show w1.heap.size + 1 = (w1.alloc (.cells #[.slice none 0 0, .map none, .int .u64 0] 28)).heap.size by simp]
        exact heap_alloc_new _ _
    case round =>
      obtain ⟨k, rfl, hk, lv, mv, qv, s, Z, hM, hRf, hZ0, hs0, hsk, hZk⟩ := hrel
      by_cases hkn : k < l.length
      · obtain ⟨o, ho⟩ := elem_at hkn
        obtain ⟨b, off, rfl, hbl, o0, o1, o2, o3, o4⟩ := HD.out k o ho
        obtain ⟨ki, ru, so, id, du⟩ := o
        obtain ⟨hcw, _⟩ := bcell hM.below
        have p0 := (hcw b (off + k * 5) hbl).trans o0
        have p1 := (hcw b (off + k * 5 + 1) hbl).trans o1
        have p2 := (hcw b (off + k * 5 + 2) hbl).trans o2
        have p3 := (hcw b (off + k * 5 + 3) hbl).trans o3
        have p4 := (hcw b (off + k * 5 + 4) hbl).trans o4
        clear o0 o1 o2 o3 o4 hcw ho
        have hbw := hM.below.size
        obtain ⟨aq, cq, rfl⟩ := hM.qrow.slice
        rw [List.length_map] at hM
        have q0 : wr.cell? ⟨w1.heap.size + 1, 0, none⟩ = some (.slice aq Z.length cq) := by rw [cell_of_heap hM.qbox]; rfl
        have q1 : wr.cell? ⟨w1.heap.size + 1, 1, none⟩ = some (.int .i64 s.seq) := by rw [cell_of_heap hM.qbox]; rfl
        have ql := lt_of_heap hM.qbox
        have ql0 : w1.heap.size < wr.heap.size := by omega
        have HM := Lib.hid (And.intro hM (And.intro hRf hZ0))
        clear hM hRf hZ0
        have hk0 : (0 : Int) ≤ (k : Int) := by omega
        have hkI : (k : Int) < (l.length : Int) := by omega
        go_wp2_with fail
        obtain ⟨w2, hw2⟩ : ∃ w2, w2 = (wr.alloc (.cells #[.int .i64 ki, .int .i64 ru, .int .i64 so, .int .i64 id, .int .i64 du] 51)).alloc (.cells #[.int .i64 ru, .int .i64 so, .int .i64 id] 32) := ⟨_, rfl⟩
        rw [← hw2]
        have hR2 : Rd w w1.heap.size (w1.heap.size + 1) lv mv (.slice aq Z.length cq) s (Z.map toR) s.seq wr.heap.size ki ru so id du w2 := by
          have hB2 : Below wr.heap.size wr w2 := by rw [hw2]; exact ((Below.refl _ _).alloc (Nat.le_refl _) _).alloc (by simp) _
          refine ⟨HM.out.1.old hB2, ?_, ?_, fun j hj => by have := HM.out.1.hv.lt hj; omega, ql⟩
          · rw [hw2, Below.heap_alloc _ _ _ (by simp)]; exact heap_alloc_new wr _
          · rw [hw2, show wr.heap.size + 1 = (wr.alloc (.cells #[.int .i64 ki, .int .i64 ru, .int .i64 so, .int .i64 id, .int .i64 du] 51)).heap.size by simp]
            exact heap_alloc_new _ _
        clear hw2 p0 p1 p2 p3 p4 q0 q1
        refine (find_any ru so id _ (Z.map toR) s.seq w2 hR2.m.qrow (by rw [List.length_map]; omega)).mono ?_
        rintro e w3 ⟨r, rfl, hF, hB3⟩
        have hR3 := hR2.old hB3
        have hFF := HM.out.2.1.find hF
        have hRf := HM.out.2.1
        have hZ0 := HM.out.2.2
        clear hR2 hF hB3 HM ql ql0
        generalize hB : wr.heap.size = B at hR3 ⊢
        generalize hqb : w1.heap.size + 1 = qb at hR3 ⊢
        have HR3 := Lib.hid hR3
        have HFF := Lib.hid (And.intro hFF (And.intro hRf hZ0))
        have HQ := Lib.hid hqb
        clear hB hR3 hFF hRf hZ0 hqb
        obtain ⟨⟨p0, p1, p2, p3, p4⟩, _⟩ := HR3.out.facts
        go_upto_block 2 with (fail)
        clear p0 p1 p2 p3 p4
        go_cut [] (fun wx => PlRel w w1.heap.size qb (k + 1) wx)
        case first =>
          by_cases k0 : ki = 0
          · subst k0
            --[[a0
            as_aux_lemma =>
              rcases HFF.out.1 with ⟨i, j, x, rfl, hx, hkx, hg, hj⟩ | ⟨rfl, hg, hno⟩
              · have PT := Lib.hid (putTo_mk (hb := w1.heap.size) (put_there (d := du) hg) ⟨hs0, by omega⟩)
                have HI := Lib.hid (show ∃ (i : Nat) (y : RIt), (Z.map toR)[i]? = some y ∧ y.is ru so id from ⟨i, toR x, by simp [hx], (is_toR x ru so id).2 hkx⟩)
                clear hx hkx hg hj
                obtain ⟨⟨p0, p1, p2, p3, p4⟩, ⟨x0, x1, x2⟩, ⟨q0, q1⟩, ⟨f0, f1⟩, ⟨l0, l1, l2⟩⟩ := HR3.out.facts
                go_wp2_with fail
                refine (PT.out _ _ _ HR3.out.m.hv).mono ?_
                rintro e w4 ⟨lv', mv', rfl, hV, hK, hF⟩
                have HR4 := Lib.hid (HR3.out.stepH hV hK hF)
                clear p0 p1 p2 p3 p4 x0 x1 x2 q0 q1 f0 f1 l0 l1 l2 hV hK hF
                obtain ⟨⟨p0, p1, p2, p3, p4⟩, ⟨x0, x1, x2⟩, ⟨q0, q1⟩, ⟨f0, f1⟩, ⟨l0, l1, l2⟩⟩ := HR4.out.facts
                go_wp2_with fail
                refine (rput_old ru so id du (.slice aq Z.length cq) (Z.map toR) s.seq w4 HR4.out.m.qrow (by rw [List.length_map]; omega) HI.out).mono ?_
                rintro e w5 ⟨rfl, hB5⟩
                have HR5 := Lib.hid (HR4.out.old hB5)
                have HB5 := Lib.hid hB5
                clear p0 p1 p2 p3 p4 x0 x1 x2 q0 q1 f0 f1 l0 l1 l2 hB5
                obtain ⟨⟨p0, p1, p2, p3, p4⟩, ⟨x0, x1, x2⟩, ⟨q0, q1⟩, ⟨f0, f1⟩, ⟨l0, l1, l2⟩⟩ := HR5.out.facts
                go_wp2_with fail
                go_meet
                case rel => exact ⟨_, _, _, s, Z, (HR4.out.stepQ HB5.out HR5.out.m.qrow (fun g h => .inr h)).m, HFF.out.2.1, HFF.out.2.2, hs0, by omega, by omega⟩
              · obtain ⟨s', hput, hRef', hseq'⟩ := HFF.out.2.1.put (k := ⟨ru, so, id⟩) (d := du) hg (by omega)
                have PT := Lib.hid (putTo_mk (hb := w1.heap.size) hput ⟨hs0, by omega⟩)
                have HI := Lib.hid hno
                have HS := Lib.hid (And.intro hRef' hseq')
                clear hg hno hput hRef' hseq'
                obtain ⟨⟨p0, p1, p2, p3, p4⟩, ⟨x0, x1, x2⟩, ⟨q0, q1⟩, ⟨f0, f1⟩, ⟨l0, l1, l2⟩⟩ := HR3.out.facts
                go_wp2_with fail
                refine (PT.out _ _ _ HR3.out.m.hv).mono ?_
                rintro e w4 ⟨lv', mv', rfl, hV, hK, hF⟩
                have HR4 := Lib.hid (HR3.out.stepH hV hK hF)
                clear p0 p1 p2 p3 p4 x0 x1 x2 q0 q1 f0 f1 l0 l1 l2 hV hK hF
                obtain ⟨⟨p0, p1, p2, p3, p4⟩, ⟨x0, x1, x2⟩, ⟨q0, q1⟩, ⟨f0, f1⟩, ⟨l0, l1, l2⟩⟩ := HR4.out.facts
                go_wp2_with fail
                refine ((rput_new (toR ⟨ru, so, id, du, s.seq + 1⟩) (.slice aq Z.length cq) (Z.map toR) s.seq w4 HR4.out.m.qrow (by rw [List.length_map]; omega) HI.out rfl hs0 (by omega)).mono (R' := fun e w' => ∃ a' c', e = .returned (.tuple #[.agg #[.slice a' ((insIt ⟨ru, so, id, du, s.seq + 1⟩ Z).map toR).length c', .int .i64 (s.seq + 1)], .int .i64 0]) ∧ RowAt w' 57 (.slice a' ((insIt ⟨ru, so, id, du, s.seq + 1⟩ Z).map toR).length c') ((insIt ⟨ru, so, id, du, s.seq + 1⟩ Z).map toR) ∧ Below w4.heap.size w4 w' ∧ ∀ g, (Value.slice a' ((insIt ⟨ru, so, id, du, s.seq + 1⟩ Z).map toR).length c').ownBlock = some g → w4.heap.size ≤ g) fun e w' ⟨v', h1, h2, h3, h4⟩ => by
                  rw [← insIt_map] at h2
                  obtain ⟨a', c', rfl⟩ := h2.slice
                  exact ⟨a', c', h1, h2, h3, h4⟩).mono ?_
                rintro e w5 ⟨a', c', rfl, hR5, hB5, hf5⟩
                generalize hnl : ((insIt ⟨ru, so, id, du, s.seq + 1⟩ Z).map toR).length = nl at hR5 hf5 ⊢
                have HR5 := Lib.hid (HR4.out.old hB5)
                have HB5 := Lib.hid (And.intro hB5 (And.intro hR5 hf5))
                clear p0 p1 p2 p3 p4 x0 x1 x2 q0 q1 f0 f1 l0 l1 l2 hB5 hR5 hf5 hnl
                obtain ⟨⟨p0, p1, p2, p3, p4⟩, ⟨x0, x1, x2⟩, ⟨q0, q1⟩, ⟨f0, f1⟩, ⟨l0, l1, l2⟩⟩ := HR5.out.facts
                go_wp2_with fail
                go_meet
                case rel =>
                  refine ⟨lv', mv', .slice a' nl c', s', insIt ⟨ru, so, id, du, s.seq + 1⟩ Z, ?_, HS.out.1, fun y hy => ?_, by rw [HS.out.2]; omega, by rw [HS.out.2]; omega, ?_⟩
                  · rw [HS.out.2]; exact (HR4.out.stepQ HB5.out.1 HB5.out.2.1 (fun g h => .inl (HB5.out.2.2 g h))).m
                  · rcases List.mem_cons.1 ((insIt_perm _ Z).mem_iff.1 hy) with rfl | hy
                    · show 0 ≤ s.seq + 1; omega
                    · exact HFF.out.2.2 y hy
                  · have := (insIt_perm ⟨ru, so, id, du, s.seq + 1⟩ Z).length_eq
                    rw [this, List.length_cons]; omega
            --]]a0
          by_cases k1 : ki = 1
          · subst k1
            --[[a1
            as_aux_lemma =>
              rcases HFF.out.1 with ⟨i, j, x, rfl, hx, hkx, hg, hj⟩ | ⟨rfl, hg, hno⟩
              · have GT := Lib.hid (get_some ⟨ru, so, id⟩ x j w1.heap.size lv mv _ s w3 HR3.out.m.hv hg hj)
                obtain ⟨g, off', rfl, hgl⟩ := HR3.out.m.qrow.addr (x := toR x) (i := i) (by simp [hx])
                obtain ⟨hil, _⟩ := List.getElem?_eq_some_iff.1 hx
                have RX := fun (W : World) (h : RowAt W 57 (.slice (some ⟨g, off', none⟩) Z.length cq) (Z.map toR)) => row_rit h (x := toR x) (i := i) (by simp [hx])
                simp only [toR] at RX
                have HRX := Lib.hid RX
                have LT := Lib.hid (fun W => like_true x W (HFF.out.2.2 x (List.mem_of_getElem? hx)) (by have := HFF.out.2.1.seq x (List.mem_of_getElem? hx); omega))
                have hTK := HFF.out.2.1.take hx hj
                have HS := Lib.hid (And.intro hTK.1 (And.intro hTK.2 (And.intro hg hj)))
                have hi0 : (0 : Int) ≤ (i : Int) := by omega
                have hi1 : (i : Int) < (Z.length : Int) := by omega
                clear hx hkx hg hj hTK RX
                obtain ⟨⟨p0, p1, p2, p3, p4⟩, ⟨x0, x1, x2⟩, ⟨q0, q1⟩, ⟨f0, f1⟩, ⟨l0, l1, l2⟩⟩ := HR3.out.facts
                go_wp2_with fail
                refine GT.out.mono ?_
                rintro e w4 ⟨rfl, hB4⟩
                have HR4 := Lib.hid (HR3.out.old hB4)
                clear p0 p1 p2 p3 p4 x0 x1 x2 q0 q1 f0 f1 l0 l1 l2 hB4
                obtain ⟨⟨p0, p1, p2, p3, p4⟩, ⟨x0, x1, x2⟩, ⟨q0, q1⟩, ⟨f0, f1⟩, ⟨l0, l1, l2⟩⟩ := HR4.out.facts
                go_wp2_with fail
                have KA : Below w4.heap.size w4 (w4.alloc (.cells #[.int .i64 x.run, .int .i64 x.kind, .int .i64 x.id, .int .i64 x.due, .int .u64 x.seq] 35)) := (Below.refl _ _).alloc (Nat.le_refl _) _
                have hR4a := HR4.out.old KA
                refine (cancel_some ⟨ru, so, id⟩ x j w1.heap.size lv mv _ s _ hR4a.m.hv HS.out.2.2.1 HS.out.2.2.2 (by rw [← HFF.out.2.1.len]; omega)).mono ?_
                rintro e w5 ⟨lv', rfl, hV, hK, hlv⟩
                have bi : w5.heap[w4.heap.size]? = some (.cells #[.int .i64 x.run, .int .i64 x.kind, .int .i64 x.id, .int .i64 x.due, .int .u64 x.seq] 35 (0, 0)) := by
                  rw [hK.block _ (by simp) (fun f => by have := HR4.out.m.hv.lt f; omega)]
                  exact heap_alloc_new w4 _
                have HR5 := Lib.hid (hR4a.stepH hV hK (take_foot hlv))
                have hgl5 : g < w5.heap.size := HR5.out.m.qrow.lt rfl
                have hgq := HR5.out.m.qsep g rfl
                have hgn : g < w4.heap.size := HR4.out.m.qrow.lt rfl
                obtain ⟨⟨i0, i1, i2, i3, i4⟩, ⟨j0, j1, j2, j3, j4⟩, l5⟩ := box5 bi
                obtain ⟨z0, z1, z2, z3, z4⟩ := HRX.out _ HR5.out.m.qrow
                have HBI := Lib.hid bi
                have HNF := Lib.hid (show ∀ jj, foot w1.heap.size lv' mv jj → jj ≠ w4.heap.size from fun jj f e => by
                  subst e
                  have h1 := take_foot (hb := w1.heap.size) (mv := mv) hlv (w := w4) (w2 := w4) _ f
                  rcases h1 with h1 | h1
                  · have := HR4.out.m.hv.lt h1; omega
                  · omega)
                have l4a : B < w4.heap.size := l1
                have l4b : qb < w4.heap.size := l0
                have l4c : B + 1 < w4.heap.size := l2
                clear p0 p1 p2 p3 p4 x0 x1 x2 q0 q1 f0 f1 l0 l1 l2 hV hK hlv KA hR4a bi hgq
                obtain ⟨⟨p0, p1, p2, p3, p4⟩, ⟨x0, x1, x2⟩, ⟨q0, q1⟩, ⟨f0, f1⟩, ⟨l0, l1, l2⟩⟩ := HR5.out.facts
                go_wp2_with fail
                obtain ⟨w6, hw6⟩ : ∃ w6, w6 = ((((w5.setCell ⟨w4.heap.size, 0, none⟩ (.int .i64 x.run)).setCell ⟨w4.heap.size, 1, none⟩ (.int .i64 x.kind)).setCell ⟨w4.heap.size, 2, none⟩ (.int .i64 x.id)).setCell ⟨w4.heap.size, 3, none⟩ (.int .i64 x.due)).setCell ⟨w4.heap.size, 4, none⟩ (.int .u64 x.seq) := ⟨_, rfl⟩
                rw [← hw6]
                have K6 : Keeps (fun j => j = w4.heap.size) w5 w6 := by
                  rw [hw6]
                  exact (((((Keeps.refl (fun j => j = w4.heap.size) w5).setCell (p := ⟨w4.heap.size, 0, none⟩) (.inl rfl) _).setCell (p := ⟨w4.heap.size, 1, none⟩) (.inl rfl) _).setCell (p := ⟨w4.heap.size, 2, none⟩) (.inl rfl) _).setCell (p := ⟨w4.heap.size, 3, none⟩) (.inl rfl) _).setCell (p := ⟨w4.heap.size, 4, none⟩) (.inl rfl) _
                have bi6 : w6.heap[w4.heap.size]? = some (.cells #[.int .i64 x.run, .int .i64 x.kind, .int .i64 x.id, .int .i64 x.due, .int .u64 x.seq] 35 (0, 0)) := by
                  rw [hw6]; simp [World.setCell, Array.getElem?_modify, HBI.out]
                have HR6 := Lib.hid (HR5.out.keep K6 (fun j e => by
                  subst e
                  exact ⟨l4c, HR4.out.m.below.size, fun f => HNF.out _ f rfl, fun f => by cases f; exact Nat.lt_irrefl _ hgn⟩))
                clear i0 i1 i2 i3 i4 j0 j1 j2 j3 j4 l5 z0 z1 z2 z3 z4 hw6 K6 hgl5
                clear p0 p1 p2 p3 p4 x0 x1 x2 q0 q1 f0 f1 l0 l1 l2
                obtain ⟨⟨i0, i1, i2, i3, i4⟩, _, l6⟩ := box5 bi6
                obtain ⟨z0, z1, z2, z3, z4⟩ := HRX.out _ HR6.out.m.qrow
                have hgl6 : g < w6.heap.size := HR6.out.m.qrow.lt rfl
                clear bi6
                obtain ⟨⟨p0, p1, p2, p3, p4⟩, ⟨x0, x1, x2⟩, ⟨q0, q1⟩, ⟨f0, f1⟩, ⟨l0, l1, l2⟩⟩ := HR6.out.facts
                refine wp_region_ext (by kernel_rfl) (by kernel_rfl) ?_
                repeat (go_big_quiet_step ((go_at_call 23; exact ext_call (LT.out _))))
                refine wpQuiet_nil ?_
                intro w7 hB7
                have HR7 := Lib.hid (HR6.out.old hB7)
                clear i0 i1 i2 i3 i4 l6 z0 z1 z2 z3 z4 hgl6 hB7
                clear p0 p1 p2 p3 p4 x0 x1 x2 q0 q1 f0 f1 l0 l1 l2
                obtain ⟨⟨p0, p1, p2, p3, p4⟩, ⟨x0, x1, x2⟩, ⟨q0, q1⟩, ⟨f0, f1⟩, ⟨l0, l1, l2⟩⟩ := HR7.out.facts
                go_wp2_with fail
                refine ((without_any (i : Int) (.slice (some ⟨g, off', none⟩) Z.length cq) (Z.map toR) s.seq w7 HR7.out.m.qrow (by rw [List.length_map]; omega)).mono (R' := fun e w' => ∃ a' c', e = .returned (.agg #[.slice a' ((Z.eraseIdx i).map toR).length c', .int .i64 s.seq]) ∧ RowAt w' 57 (.slice a' ((Z.eraseIdx i).map toR).length c') ((Z.eraseIdx i).map toR) ∧ Below w7.heap.size w7 w' ∧ ∀ g, (Value.slice a' ((Z.eraseIdx i).map toR).length c').ownBlock = some g → w7.heap.size ≤ g) fun e w' ⟨v', h1, h2, h3, h4⟩ => by
                  have hwz := woutR_at 0 Z i
                  rw [Nat.zero_add] at hwz
                  rw [hwz] at h2
                  obtain ⟨a', c', rfl⟩ := h2.slice
                  exact ⟨a', c', h1, h2, h3, h4⟩).mono ?_
                rintro e w8 ⟨a', c', rfl, hR8, hB8, hf8⟩
                generalize hnl : ((Z.eraseIdx i).map toR).length = nl at hR8 hf8 ⊢
                have HR8 := Lib.hid (HR7.out.old hB8)
                have HB8 := Lib.hid (And.intro hB8 (And.intro hR8 hf8))
                clear p0 p1 p2 p3 p4 x0 x1 x2 q0 q1 f0 f1 l0 l1 l2 hB8 hR8 hf8 hnl
                obtain ⟨⟨p0, p1, p2, p3, p4⟩, ⟨x0, x1, x2⟩, ⟨q0, q1⟩, ⟨f0, f1⟩, ⟨l0, l1, l2⟩⟩ := HR8.out.facts
                go_wp2_with fail
                go_meet
                case rel =>
                  refine ⟨lv', mv, .slice a' nl c', s.take j, Z.eraseIdx i, ?_, HS.out.1, fun y hy => HFF.out.2.2 y (List.mem_of_mem_eraseIdx hy), by rw [HS.out.2.1]; omega, by rw [HS.out.2.1]; omega, ?_⟩
                  · rw [HS.out.2.1]; exact (HR7.out.stepQ HB8.out.1 HB8.out.2.1 (fun g h => .inl (HB8.out.2.2 g h))).m
                  · have := List.length_eraseIdx_le Z i; omega
              · have GN := Lib.hid (get_none ⟨ru, so, id⟩ w1.heap.size lv mv _ s w3 HR3.out.m.hv hg)
                have HG := Lib.hid hg
                clear hg hno
                obtain ⟨⟨p0, p1, p2, p3, p4⟩, ⟨x0, x1, x2⟩, ⟨q0, q1⟩, ⟨f0, f1⟩, ⟨l0, l1, l2⟩⟩ := HR3.out.facts
                go_wp2_with fail
                refine GN.out.mono ?_
                rintro e w4 ⟨rfl, hB4⟩
                have HR4 := Lib.hid (HR3.out.old hB4)
                clear p0 p1 p2 p3 p4 x0 x1 x2 q0 q1 f0 f1 l0 l1 l2 hB4
                obtain ⟨⟨p0, p1, p2, p3, p4⟩, ⟨x0, x1, x2⟩, ⟨q0, q1⟩, ⟨f0, f1⟩, ⟨l0, l1, l2⟩⟩ := HR4.out.facts
                go_wp2_with fail
                have KA : Below w4.heap.size w4 (w4.alloc (.cells #[.int .i64 0, .int .i64 0, .int .i64 0, .int .i64 0, .int .u64 0] 35)) := (Below.refl _ _).alloc (Nat.le_refl _) _
                have HR4a := Lib.hid (HR4.out.old KA)
                refine (cancel_none ⟨ru, so, id⟩ w1.heap.size lv mv _ s _ HR4a.out.m.hv HG.out).mono ?_
                rintro e w5 ⟨rfl, hB5⟩
                have bi : w5.heap[w4.heap.size]? = some (.cells #[.int .i64 0, .int .i64 0, .int .i64 0, .int .i64 0, .int .u64 0] 35 (0, 0)) := by
                  rw [hB5.block _ (by simp)]
                  exact heap_alloc_new w4 _
                have HR5 := Lib.hid (HR4a.out.old hB5)
                obtain ⟨⟨i0, i1, i2, i3, i4⟩, ⟨j0, j1, j2, j3, j4⟩, l5⟩ := box5 bi
                have l4c : B + 1 < w4.heap.size := l2
                have HBI := Lib.hid bi
                clear p0 p1 p2 p3 p4 x0 x1 x2 q0 q1 f0 f1 l0 l1 l2 KA hB5 bi
                obtain ⟨⟨p0, p1, p2, p3, p4⟩, ⟨x0, x1, x2⟩, ⟨q0, q1⟩, ⟨f0, f1⟩, ⟨l0, l1, l2⟩⟩ := HR5.out.facts
                go_wp2_with fail
                obtain ⟨w6, hw6⟩ : ∃ w6, w6 = ((((w5.setCell ⟨w4.heap.size, 0, none⟩ (.int .i64 0)).setCell ⟨w4.heap.size, 1, none⟩ (.int .i64 0)).setCell ⟨w4.heap.size, 2, none⟩ (.int .i64 0)).setCell ⟨w4.heap.size, 3, none⟩ (.int .i64 0)).setCell ⟨w4.heap.size, 4, none⟩ (.int .u64 0) := ⟨_, rfl⟩
                rw [← hw6]
                have K6 : Keeps (fun j => j = w4.heap.size) w5 w6 := by
                  rw [hw6]
                  exact (((((Keeps.refl (fun j => j = w4.heap.size) w5).setCell (p := ⟨w4.heap.size, 0, none⟩) (.inl rfl) _).setCell (p := ⟨w4.heap.size, 1, none⟩) (.inl rfl) _).setCell (p := ⟨w4.heap.size, 2, none⟩) (.inl rfl) _).setCell (p := ⟨w4.heap.size, 3, none⟩) (.inl rfl) _).setCell (p := ⟨w4.heap.size, 4, none⟩) (.inl rfl) _
                have bi6 : w6.heap[w4.heap.size]? = some (.cells #[.int .i64 0, .int .i64 0, .int .i64 0, .int .i64 0, .int .u64 0] 35 (0, 0)) := by
                  rw [hw6]; simp [World.setCell, Array.getElem?_modify, HBI.out]
                have HR6 := Lib.hid (HR5.out.keep K6 (fun j e => by
                  subst e
                  exact ⟨l4c, HR4.out.m.below.size, fun f => Nat.lt_irrefl _ (HR4.out.m.hv.lt f), fun f => Nat.lt_irrefl _ (HR4.out.m.qrow.lt f)⟩))
                clear i0 i1 i2 i3 i4 j0 j1 j2 j3 j4 l5 hw6 K6
                clear p0 p1 p2 p3 p4 x0 x1 x2 q0 q1 f0 f1 l0 l1 l2
                obtain ⟨⟨i0, i1, i2, i3, i4⟩, _, l6⟩ := box5 bi6
                clear bi6
                obtain ⟨⟨p0, p1, p2, p3, p4⟩, ⟨x0, x1, x2⟩, ⟨q0, q1⟩, ⟨f0, f1⟩, ⟨l0, l1, l2⟩⟩ := HR6.out.facts
                refine wp_region_ext (by kernel_rfl) (by kernel_rfl) ?_
                repeat (go_big_quiet_step (fail))
                refine wpQuiet_nil ?_
                intro w7 hB7
                have HR7 := Lib.hid (HR6.out.old hB7)
                clear i0 i1 i2 i3 i4 l6 hB7
                clear p0 p1 p2 p3 p4 x0 x1 x2 q0 q1 f0 f1 l0 l1 l2
                obtain ⟨⟨p0, p1, p2, p3, p4⟩, ⟨x0, x1, x2⟩, ⟨q0, q1⟩, ⟨f0, f1⟩, ⟨l0, l1, l2⟩⟩ := HR7.out.facts
                go_wp2_with fail
                refine ((without_any (-1) (.slice aq Z.length cq) (Z.map toR) s.seq w7 HR7.out.m.qrow (by rw [List.length_map]; omega)).mono (R' := fun e w' => ∃ a' c', e = .returned (.agg #[.slice a' Z.length c', .int .i64 s.seq]) ∧ RowAt w' 57 (.slice a' Z.length c') (Z.map toR) ∧ Below w7.heap.size w7 w' ∧ ∀ g, (Value.slice a' Z.length c').ownBlock = some g → w7.heap.size ≤ g) fun e w' ⟨v', h1, h2, h3, h4⟩ => by
                  rw [woutR_none 0 _ (-1) (by omega)] at h2
                  obtain ⟨a', c', rfl⟩ := h2.slice
                  rw [List.length_map] at *
                  exact ⟨a', c', h1, h2, h3, h4⟩).mono ?_
                rintro e w8 ⟨a', c', rfl, hR8, hB8, hf8⟩
                have HR8 := Lib.hid (HR7.out.old hB8)
                have HB8 := Lib.hid (And.intro hB8 (And.intro hR8 hf8))
                clear p0 p1 p2 p3 p4 x0 x1 x2 q0 q1 f0 f1 l0 l1 l2 hB8 hR8 hf8
                obtain ⟨⟨p0, p1, p2, p3, p4⟩, ⟨x0, x1, x2⟩, ⟨q0, q1⟩, ⟨f0, f1⟩, ⟨l0, l1, l2⟩⟩ := HR8.out.facts
                go_wp2_with fail
                go_meet
                case rel => exact ⟨lv, mv, .slice a' Z.length c', s, Z, (HR7.out.stepQ HB8.out.1 HB8.out.2.1 (fun g h => .inl (HB8.out.2.2 g h))).m, HFF.out.2.1, HFF.out.2.2, hs0, by omega, by omega⟩
            --]]a1
          by_cases k2 : ki = 2
          · subst k2
            --[[a2
            as_aux_lemma =>
              rcases HFF.out.1 with ⟨i, j, x, rfl, hx, hkx, hg, hj⟩ | ⟨rfl, hg, hno⟩
              · have GT := Lib.hid (get_some ⟨ru, so, id⟩ x j w1.heap.size lv mv _ s w3 HR3.out.m.hv hg hj)
                obtain ⟨g, off', rfl, hgl⟩ := HR3.out.m.qrow.addr (x := toR x) (i := i) (by simp [hx])
                obtain ⟨hil, _⟩ := List.getElem?_eq_some_iff.1 hx
                have RX := fun (W : World) (h : RowAt W 57 (.slice (some ⟨g, off', none⟩) Z.length cq) (Z.map toR)) => row_rit h (x := toR x) (i := i) (by simp [hx])
                simp only [toR] at RX
                have HRX := Lib.hid RX
                have LT := Lib.hid (fun W => like_true x W (HFF.out.2.2 x (List.mem_of_getElem? hx)) (by have := HFF.out.2.1.seq x (List.mem_of_getElem? hx); omega))
                have hTK := HFF.out.2.1.take hx hj
                have HS := Lib.hid (And.intro hTK.1 (And.intro hTK.2 (And.intro hg hj)))
                have hi0 : (0 : Int) ≤ (i : Int) := by omega
                have hi1 : (i : Int) < (Z.length : Int) := by omega
                clear hx hkx hg hj hTK RX
                obtain ⟨⟨p0, p1, p2, p3, p4⟩, ⟨x0, x1, x2⟩, ⟨q0, q1⟩, ⟨f0, f1⟩, ⟨l0, l1, l2⟩⟩ := HR3.out.facts
                go_wp2_with fail
                refine GT.out.mono ?_
                rintro e w4 ⟨rfl, hB4⟩
                have HR4 := Lib.hid (HR3.out.old hB4)
                clear p0 p1 p2 p3 p4 x0 x1 x2 q0 q1 f0 f1 l0 l1 l2 hB4
                obtain ⟨⟨p0, p1, p2, p3, p4⟩, ⟨x0, x1, x2⟩, ⟨q0, q1⟩, ⟨f0, f1⟩, ⟨l0, l1, l2⟩⟩ := HR4.out.facts
                go_wp2_with fail
                obtain ⟨w6, hw6⟩ : ∃ w6, w6 = w4.alloc (.cells #[.int .i64 x.run, .int .i64 x.kind, .int .i64 x.id, .int .i64 x.due, .int .u64 x.seq] 35) := ⟨_, rfl⟩
                rw [← hw6]
                have bi6 : w6.heap[w4.heap.size]? = some (.cells #[.int .i64 x.run, .int .i64 x.kind, .int .i64 x.id, .int .i64 x.due, .int .u64 x.seq] 35 (0, 0)) := by
                  rw [hw6]; exact heap_alloc_new w4 _
                have HR6 := Lib.hid (HR4.out.old (show Below w4.heap.size w4 w6 by rw [hw6]; exact (Below.refl _ _).alloc (Nat.le_refl _) _))
                clear hw6
                clear p0 p1 p2 p3 p4 x0 x1 x2 q0 q1 f0 f1 l0 l1 l2
                obtain ⟨⟨i0, i1, i2, i3, i4⟩, _, l6⟩ := box5 bi6
                obtain ⟨z0, z1, z2, z3, z4⟩ := HRX.out _ HR6.out.m.qrow
                have hgl6 : g < w6.heap.size := HR6.out.m.qrow.lt rfl
                clear bi6
                obtain ⟨⟨p0, p1, p2, p3, p4⟩, ⟨x0, x1, x2⟩, ⟨q0, q1⟩, ⟨f0, f1⟩, ⟨l0, l1, l2⟩⟩ := HR6.out.facts
                refine wp_region_ext (by kernel_rfl) (by kernel_rfl) ?_
                repeat (go_big_quiet_step ((go_at_call 23; exact ext_call (LT.out _))))
                refine wpQuiet_nil ?_
                intro w7 hB7
                have HR7 := Lib.hid (HR6.out.old hB7)
                clear i0 i1 i2 i3 i4 l6 z0 z1 z2 z3 z4 hgl6 hB7
                clear p0 p1 p2 p3 p4 x0 x1 x2 q0 q1 f0 f1 l0 l1 l2
                obtain ⟨⟨p0, p1, p2, p3, p4⟩, ⟨x0, x1, x2⟩, ⟨q0, q1⟩, ⟨f0, f1⟩, ⟨l0, l1, l2⟩⟩ := HR7.out.facts
                go_wp2_with fail
                go_meet
                case rel => exact ⟨lv, mv, _, s, Z, HR7.out.m, HFF.out.2.1, HFF.out.2.2, hs0, by omega, by omega⟩
              · have GN := Lib.hid (get_none ⟨ru, so, id⟩ w1.heap.size lv mv _ s w3 HR3.out.m.hv hg)
                have HG := Lib.hid hg
                clear hg hno
                obtain ⟨⟨p0, p1, p2, p3, p4⟩, ⟨x0, x1, x2⟩, ⟨q0, q1⟩, ⟨f0, f1⟩, ⟨l0, l1, l2⟩⟩ := HR3.out.facts
                go_wp2_with fail
                refine GN.out.mono ?_
                rintro e w4 ⟨rfl, hB4⟩
                have HR4 := Lib.hid (HR3.out.old hB4)
                clear p0 p1 p2 p3 p4 x0 x1 x2 q0 q1 f0 f1 l0 l1 l2 hB4
                obtain ⟨⟨p0, p1, p2, p3, p4⟩, ⟨x0, x1, x2⟩, ⟨q0, q1⟩, ⟨f0, f1⟩, ⟨l0, l1, l2⟩⟩ := HR4.out.facts
                go_wp2_with fail
                obtain ⟨w6, hw6⟩ : ∃ w6, w6 = w4.alloc (.cells #[.int .i64 0, .int .i64 0, .int .i64 0, .int .i64 0, .int .u64 0] 35) := ⟨_, rfl⟩
                rw [← hw6]
                have bi6 : w6.heap[w4.heap.size]? = some (.cells #[.int .i64 0, .int .i64 0, .int .i64 0, .int .i64 0, .int .u64 0] 35 (0, 0)) := by
                  rw [hw6]; exact heap_alloc_new w4 _
                have HR6 := Lib.hid (HR4.out.old (show Below w4.heap.size w4 w6 by rw [hw6]; exact (Below.refl _ _).alloc (Nat.le_refl _) _))
                clear hw6
                clear p0 p1 p2 p3 p4 x0 x1 x2 q0 q1 f0 f1 l0 l1 l2
                obtain ⟨⟨i0, i1, i2, i3, i4⟩, _, l6⟩ := box5 bi6
                clear bi6
                obtain ⟨⟨p0, p1, p2, p3, p4⟩, ⟨x0, x1, x2⟩, ⟨q0, q1⟩, ⟨f0, f1⟩, ⟨l0, l1, l2⟩⟩ := HR6.out.facts
                refine wp_region_ext (by kernel_rfl) (by kernel_rfl) ?_
                repeat (go_big_quiet_step (fail))
                refine wpQuiet_nil ?_
                intro w7 hB7
                have HR7 := Lib.hid (HR6.out.old hB7)
                clear i0 i1 i2 i3 i4 l6 hB7
                clear p0 p1 p2 p3 p4 x0 x1 x2 q0 q1 f0 f1 l0 l1 l2
                obtain ⟨⟨p0, p1, p2, p3, p4⟩, ⟨x0, x1, x2⟩, ⟨q0, q1⟩, ⟨f0, f1⟩, ⟨l0, l1, l2⟩⟩ := HR7.out.facts
                go_wp2_with fail
                go_meet
                case rel => exact ⟨lv, mv, _, s, Z, HR7.out.m, HFF.out.2.1, HFF.out.2.2, hs0, by omega, by omega⟩
            --]]a2
          by_cases k3 : ki = 3
          · subst k3
            --[[a3
            as_aux_lemma =>
              cases hZe : Z with
              | nil =>
                have hLe : s.L = [] := by
                  have := HFF.out.2.1.len
                  rw [hZe] at this
                  exact List.eq_nil_of_length_eq_zero (by simpa using this.symm)
                have TN := Lib.hid (fun (W : World) (H : HV W w1.heap.size lv mv 28 s) => top_none w1.heap.size lv mv _ s W H hLe)
                have PN := Lib.hid (fun (W : World) (H : HV W w1.heap.size lv mv 28 s) => pop_none w1.heap.size lv mv _ s W H hLe)
                have HRE := Lib.hid (show Rd w w1.heap.size qb lv mv (.slice aq 0 cq) s [] s.seq B 3 ru so id du w3 by have h := HR3.out; rw [hZe] at h; exact h)
                have HZE := Lib.hid hZe
                simp only [List.length_nil]
                clear hZe hLe
                obtain ⟨⟨p0, p1, p2, p3, p4⟩, ⟨x0, x1, x2⟩, ⟨q0, q1⟩, ⟨f0, f1⟩, ⟨l0, l1, l2⟩⟩ := HRE.out.facts
                go_wp2_with fail
                refine (TN.out _ HRE.out.m.hv).mono ?_
                rintro e w4 ⟨rfl, hB4⟩
                have HR4 := Lib.hid (HRE.out.old hB4)
                clear p0 p1 p2 p3 p4 x0 x1 x2 q0 q1 f0 f1 l0 l1 l2 hB4
                obtain ⟨⟨p0, p1, p2, p3, p4⟩, ⟨x0, x1, x2⟩, ⟨q0, q1⟩, ⟨f0, f1⟩, ⟨l0, l1, l2⟩⟩ := HR4.out.facts
                go_wp2_with fail
                obtain ⟨w6, hw6⟩ : ∃ w6, w6 = w4.alloc (.cells #[.int .i64 0, .int .i64 0, .int .i64 0, .int .i64 0, .int .u64 0] 35) := ⟨_, rfl⟩
                rw [← hw6]
                have bi6 : w6.heap[w4.heap.size]? = some (.cells #[.int .i64 0, .int .i64 0, .int .i64 0, .int .i64 0, .int .u64 0] 35 (0, 0)) := by
                  rw [hw6]; exact heap_alloc_new w4 _
                have HR6 := Lib.hid (HR4.out.old (show Below w4.heap.size w4 w6 by rw [hw6]; exact (Below.refl _ _).alloc (Nat.le_refl _) _))
                clear hw6
                clear p0 p1 p2 p3 p4 x0 x1 x2 q0 q1 f0 f1 l0 l1 l2
                obtain ⟨⟨i0, i1, i2, i3, i4⟩, _, l6⟩ := box5 bi6
                clear bi6
                obtain ⟨⟨p0, p1, p2, p3, p4⟩, ⟨x0, x1, x2⟩, ⟨q0, q1⟩, ⟨f0, f1⟩, ⟨l0, l1, l2⟩⟩ := HR6.out.facts
                refine wp_region_ext (by kernel_rfl) (by kernel_rfl) ?_
                repeat (go_big_quiet_step (fail))
                refine wpQuiet_nil ?_
                intro w7 hB7
                have HR7 := Lib.hid (HR6.out.old hB7)
                clear i0 i1 i2 i3 i4 l6 hB7
                clear p0 p1 p2 p3 p4 x0 x1 x2 q0 q1 f0 f1 l0 l1 l2
                obtain ⟨⟨p0, p1, p2, p3, p4⟩, ⟨x0, x1, x2⟩, ⟨q0, q1⟩, ⟨f0, f1⟩, ⟨l0, l1, l2⟩⟩ := HR7.out.facts
                go_wp2_with fail
                go_meet
                case rel =>
                  refine ⟨lv, mv, .slice aq 0 cq, s, [], HR7.out.m, ?_, by simp, hs0, by omega, by simp⟩
                  have := HFF.out.2.1; rw [HZE.out] at this; exact this
              | cons x r =>
                have hx : Z[0]? = some x := by rw [hZe]; rfl
                have hj := HFF.out.2.1.top hx
                have TS := Lib.hid (fun (W : World) (H : HV W w1.heap.size lv mv 28 s) => top_some x w1.heap.size lv mv _ s W H hj)
                have PS := Lib.hid (fun (W : World) (H : HV W w1.heap.size lv mv 28 s) => pop_some x w1.heap.size lv mv _ s W H hj (HFF.out.2.1.good.M_ne hj) (by rw [← HFF.out.2.1.len]; omega))
                have LT := Lib.hid (fun W => like_true x W (HFF.out.2.2 x (List.mem_of_getElem? hx)) (by have := HFF.out.2.1.seq x (List.mem_of_getElem? hx); omega))
                have hTK := HFF.out.2.1.take hx hj
                have HRE := Lib.hid (show Rd w w1.heap.size qb lv mv (.slice aq (r.length + 1) cq) s (toR x :: r.map toR) s.seq B 3 ru so id du w3 by have h := HR3.out; rw [hZe] at h; exact h)
                rw [hZe, List.eraseIdx_zero, List.tail_cons] at hTK
                have HZE := Lib.hid (And.intro hZe hTK)
                have hrl : r.length + 1 ≤ 100 := by rw [hZe] at hZk; simp at hZk; omega
                have hrk : r.length + 1 ≤ k := by rw [hZe] at hZk; simpa using hZk
                obtain ⟨g, off', rfl, hgl⟩ := HRE.out.m.qrow.addr (x := toR x) (i := 0) rfl
                have RX := fun (W : World) (h : RowAt W 57 (.slice (some ⟨g, off', none⟩) (r.length + 1) cq) (toR x :: r.map toR)) => row_rit h (x := toR x) (i := 0) rfl
                simp only [toR, Nat.zero_mul, Nat.add_zero] at RX
                have HRX := Lib.hid RX
                simp only [List.length_cons]
                clear hx hj hTK hZe RX
                obtain ⟨⟨p0, p1, p2, p3, p4⟩, ⟨x0, x1, x2⟩, ⟨q0, q1⟩, ⟨f0, f1⟩, ⟨l0, l1, l2⟩⟩ := HRE.out.facts
                go_wp2_with fail
                refine (TS.out _ HRE.out.m.hv).mono ?_
                rintro e w4 ⟨rfl, hB4⟩
                have HR4 := Lib.hid (HRE.out.old hB4)
                clear p0 p1 p2 p3 p4 x0 x1 x2 q0 q1 f0 f1 l0 l1 l2 hB4
                obtain ⟨⟨p0, p1, p2, p3, p4⟩, ⟨x0, x1, x2⟩, ⟨q0, q1⟩, ⟨f0, f1⟩, ⟨l0, l1, l2⟩⟩ := HR4.out.facts
                go_wp2_with fail
                obtain ⟨w6, hw6⟩ : ∃ w6, w6 = w4.alloc (.cells #[.int .i64 x.run, .int .i64 x.kind, .int .i64 x.id, .int .i64 x.due, .int .u64 x.seq] 35) := ⟨_, rfl⟩
                rw [← hw6]
                have bi6 : w6.heap[w4.heap.size]? = some (.cells #[.int .i64 x.run, .int .i64 x.kind, .int .i64 x.id, .int .i64 x.due, .int .u64 x.seq] 35 (0, 0)) := by
                  rw [hw6]; exact heap_alloc_new w4 _
                have HR6 := Lib.hid (HR4.out.old (show Below w4.heap.size w4 w6 by rw [hw6]; exact (Below.refl _ _).alloc (Nat.le_refl _) _))
                clear hw6
                clear p0 p1 p2 p3 p4 x0 x1 x2 q0 q1 f0 f1 l0 l1 l2
                obtain ⟨⟨i0, i1, i2, i3, i4⟩, _, l6⟩ := box5 bi6
                obtain ⟨z0, z1, z2, z3, z4⟩ := HRX.out _ HR6.out.m.qrow
                have hgl6 : g < w6.heap.size := HR6.out.m.qrow.lt rfl
                clear bi6
                obtain ⟨⟨p0, p1, p2, p3, p4⟩, ⟨x0, x1, x2⟩, ⟨q0, q1⟩, ⟨f0, f1⟩, ⟨l0, l1, l2⟩⟩ := HR6.out.facts
                refine wp_region_ext (by kernel_rfl) (by kernel_rfl) ?_
                repeat (go_big_quiet_step ((go_at_call 23; exact ext_call (LT.out _))))
                refine wpQuiet_nil ?_
                intro w7 hB7
                have HR7 := Lib.hid (HR6.out.old hB7)
                clear i0 i1 i2 i3 i4 l6 z0 z1 z2 z3 z4 hgl6 hB7
                clear p0 p1 p2 p3 p4 x0 x1 x2 q0 q1 f0 f1 l0 l1 l2
                obtain ⟨⟨p0, p1, p2, p3, p4⟩, ⟨x0, x1, x2⟩, ⟨q0, q1⟩, ⟨f0, f1⟩, ⟨l0, l1, l2⟩⟩ := HR7.out.facts
                go_wp2_with fail
                go_meet
                case rel =>
                  refine ⟨lv, mv, .slice (some ⟨g, off', none⟩) (r.length + 1) cq, s, x :: r, HR7.out.m, ?_, ?_, hs0, by omega, by simp; omega⟩
                  · have := HFF.out.2.1; rw [HZE.out.1] at this; exact this
                  · have := HFF.out.2.2; rw [HZE.out.1] at this; exact this
            --]]a3
          by_cases k4 : ki = 4
          · subst k4
            --[[a4
            as_aux_lemma =>
              cases hZe : Z with
              | nil =>
                have hLe : s.L = [] := by
                  have := HFF.out.2.1.len
                  rw [hZe] at this
                  exact List.eq_nil_of_length_eq_zero (by simpa using this.symm)
                have TN := Lib.hid (fun (W : World) (H : HV W w1.heap.size lv mv 28 s) => top_none w1.heap.size lv mv _ s W H hLe)
                have PN := Lib.hid (fun (W : World) (H : HV W w1.heap.size lv mv 28 s) => pop_none w1.heap.size lv mv _ s W H hLe)
                have HRE := Lib.hid (show Rd w w1.heap.size qb lv mv (.slice aq 0 cq) s [] s.seq B 4 ru so id du w3 by have h := HR3.out; rw [hZe] at h; exact h)
                have HZE := Lib.hid hZe
                simp only [List.length_nil]
                clear hZe hLe
                obtain ⟨⟨p0, p1, p2, p3, p4⟩, ⟨x0, x1, x2⟩, ⟨q0, q1⟩, ⟨f0, f1⟩, ⟨l0, l1, l2⟩⟩ := HRE.out.facts
                go_wp2_with fail
                refine (TN.out _ HRE.out.m.hv).mono ?_
                rintro e w4 ⟨rfl, hB4⟩
                have HR4 := Lib.hid (HRE.out.old hB4)
                clear p0 p1 p2 p3 p4 x0 x1 x2 q0 q1 f0 f1 l0 l1 l2 hB4
                obtain ⟨⟨p0, p1, p2, p3, p4⟩, ⟨x0, x1, x2⟩, ⟨q0, q1⟩, ⟨f0, f1⟩, ⟨l0, l1, l2⟩⟩ := HR4.out.facts
                go_wp2_with fail
                have KA : Below w4.heap.size w4 (w4.alloc (.cells #[.int .i64 0, .int .i64 0, .int .i64 0, .int .i64 0, .int .u64 0] 35)) := (Below.refl _ _).alloc (Nat.le_refl _) _
                have HR4a := Lib.hid (HR4.out.old KA)
                refine (PN.out _ HR4a.out.m.hv).mono ?_
                rintro e w5 ⟨rfl, hB5⟩
                have bi : w5.heap[w4.heap.size]? = some (.cells #[.int .i64 0, .int .i64 0, .int .i64 0, .int .i64 0, .int .u64 0] 35 (0, 0)) := by
                  rw [hB5.block _ (by simp)]
                  exact heap_alloc_new w4 _
                have HR5 := Lib.hid (HR4a.out.old hB5)
                have HNF := Lib.hid (show ¬ foot w1.heap.size lv mv w4.heap.size from fun f => Nat.lt_irrefl _ (HR4.out.m.hv.lt f))
                clear hB5
                obtain ⟨⟨i0, i1, i2, i3, i4⟩, ⟨j0, j1, j2, j3, j4⟩, l5⟩ := box5 bi
                have l4c : B + 1 < w4.heap.size := l2
                have HBI := Lib.hid bi
                clear p0 p1 p2 p3 p4 x0 x1 x2 q0 q1 f0 f1 l0 l1 l2 KA bi
                obtain ⟨⟨p0, p1, p2, p3, p4⟩, ⟨x0, x1, x2⟩, ⟨q0, q1⟩, ⟨f0, f1⟩, ⟨l0, l1, l2⟩⟩ := HR5.out.facts
                go_wp2_with fail
                obtain ⟨w6, hw6⟩ : ∃ w6, w6 = (((((w5.setCell ⟨w4.heap.size, 0, none⟩ (.int .i64 0)).setCell ⟨w4.heap.size, 1, none⟩ (.int .i64 0)).setCell ⟨w4.heap.size, 2, none⟩ (.int .i64 0)).setCell ⟨w4.heap.size, 3, none⟩ (.int .i64 0)).setCell ⟨w4.heap.size, 4, none⟩ (.int .u64 0)) := ⟨_, rfl⟩
                rw [← hw6]
                have K6 : Keeps (fun j => j = w4.heap.size) w5 w6 := by
                  rw [hw6]
                  exact ((((((Keeps.refl (fun j => j = w4.heap.size) w5).setCell (p := ⟨w4.heap.size, 0, none⟩) (.inl rfl) _).setCell (p := ⟨w4.heap.size, 1, none⟩) (.inl rfl) _).setCell (p := ⟨w4.heap.size, 2, none⟩) (.inl rfl) _).setCell (p := ⟨w4.heap.size, 3, none⟩) (.inl rfl) _).setCell (p := ⟨w4.heap.size, 4, none⟩) (.inl rfl) _)
                have bi6 : w6.heap[w4.heap.size]? = some (.cells #[.int .i64 0, .int .i64 0, .int .i64 0, .int .i64 0, .int .u64 0] 35 (0, 0)) := by
                  rw [hw6]; simp [World.setCell, Array.getElem?_modify, HBI.out]
                have HR6 := Lib.hid (HR5.out.keep K6 (fun j e => by
                  subst e
                  exact ⟨l4c, HR4.out.m.below.size, HNF.out, fun f => Nat.lt_irrefl _ (HR4.out.m.qrow.lt f)⟩))
                clear i0 i1 i2 i3 i4 j0 j1 j2 j3 j4 l5 hw6 K6
                clear p0 p1 p2 p3 p4 x0 x1 x2 q0 q1 f0 f1 l0 l1 l2
                obtain ⟨⟨i0, i1, i2, i3, i4⟩, _, l6⟩ := box5 bi6
                clear bi6
                obtain ⟨⟨p0, p1, p2, p3, p4⟩, ⟨x0, x1, x2⟩, ⟨q0, q1⟩, ⟨f0, f1⟩, ⟨l0, l1, l2⟩⟩ := HR6.out.facts
                refine wp_region_ext (by kernel_rfl) (by kernel_rfl) ?_
                repeat (go_big_quiet_step (fail))
                refine wpQuiet_nil ?_
                intro w7 hB7
                have HR7 := Lib.hid (HR6.out.old hB7)
                clear i0 i1 i2 i3 i4 l6 hB7
                clear p0 p1 p2 p3 p4 x0 x1 x2 q0 q1 f0 f1 l0 l1 l2
                obtain ⟨⟨p0, p1, p2, p3, p4⟩, ⟨x0, x1, x2⟩, ⟨q0, q1⟩, ⟨f0, f1⟩, ⟨l0, l1, l2⟩⟩ := HR7.out.facts
                go_wp2_with fail
                refine ((without_any 0 (.slice aq 0 cq) [] s.seq w7 HR7.out.m.qrow (by simp)).mono (R' := fun e w' => ∃ a' c', e = .returned (.agg #[.slice a' 0 c', .int .i64 s.seq]) ∧ RowAt w' 57 (.slice a' 0 c') [] ∧ Below w7.heap.size w7 w' ∧ ∀ g, (Value.slice a' 0 c').ownBlock = some g → w7.heap.size ≤ g) fun e w' ⟨v', h1, h2, h3, h4⟩ => by
                  simp only [woutR] at h2
                  obtain ⟨a', c', rfl⟩ := h2.slice
                  skip
                  exact ⟨a', c', h1, h2, h3, h4⟩).mono ?_
                rintro e w8 ⟨a', c', rfl, hR8, hB8, hf8⟩
                have HR8 := Lib.hid (HR7.out.old hB8)
                have HB8 := Lib.hid (And.intro hB8 (And.intro hR8 hf8))
                clear p0 p1 p2 p3 p4 x0 x1 x2 q0 q1 f0 f1 l0 l1 l2 hB8 hR8 hf8
                obtain ⟨⟨p0, p1, p2, p3, p4⟩, ⟨x0, x1, x2⟩, ⟨q0, q1⟩, ⟨f0, f1⟩, ⟨l0, l1, l2⟩⟩ := HR8.out.facts
                go_wp2_with fail
                go_meet
                case rel =>
                  refine ⟨lv, mv, .slice a' 0 c', s, [], (HR7.out.stepQ HB8.out.1 HB8.out.2.1 (fun g h => .inl (HB8.out.2.2 g h))).m, ?_, by simp, hs0, by omega, by simp⟩
                  have := HFF.out.2.1; rw [HZE.out] at this; exact this
              | cons x r =>
                have hx : Z[0]? = some x := by rw [hZe]; rfl
                have hj := HFF.out.2.1.top hx
                have TS := Lib.hid (fun (W : World) (H : HV W w1.heap.size lv mv 28 s) => top_some x w1.heap.size lv mv _ s W H hj)
                have PS := Lib.hid (fun (W : World) (H : HV W w1.heap.size lv mv 28 s) => pop_some x w1.heap.size lv mv _ s W H hj (HFF.out.2.1.good.M_ne hj) (by rw [← HFF.out.2.1.len]; omega))
                have LT := Lib.hid (fun W => like_true x W (HFF.out.2.2 x (List.mem_of_getElem? hx)) (by have := HFF.out.2.1.seq x (List.mem_of_getElem? hx); omega))
                have hTK := HFF.out.2.1.take hx hj
                have HRE := Lib.hid (show Rd w w1.heap.size qb lv mv (.slice aq (r.length + 1) cq) s (toR x :: r.map toR) s.seq B 4 ru so id du w3 by have h := HR3.out; rw [hZe] at h; exact h)
                rw [hZe, List.eraseIdx_zero, List.tail_cons] at hTK
                have HZE := Lib.hid (And.intro hZe hTK)
                have hrl : r.length + 1 ≤ 100 := by rw [hZe] at hZk; simp at hZk; omega
                have hrk : r.length + 1 ≤ k := by rw [hZe] at hZk; simpa using hZk
                obtain ⟨g, off', rfl, hgl⟩ := HRE.out.m.qrow.addr (x := toR x) (i := 0) rfl
                have RX := fun (W : World) (h : RowAt W 57 (.slice (some ⟨g, off', none⟩) (r.length + 1) cq) (toR x :: r.map toR)) => row_rit h (x := toR x) (i := 0) rfl
                simp only [toR, Nat.zero_mul, Nat.add_zero] at RX
                have HRX := Lib.hid RX
                simp only [List.length_cons]
                clear hx hj hTK hZe RX
                obtain ⟨⟨p0, p1, p2, p3, p4⟩, ⟨x0, x1, x2⟩, ⟨q0, q1⟩, ⟨f0, f1⟩, ⟨l0, l1, l2⟩⟩ := HRE.out.facts
                go_wp2_with fail
                refine (TS.out _ HRE.out.m.hv).mono ?_
                rintro e w4 ⟨rfl, hB4⟩
                have HR4 := Lib.hid (HRE.out.old hB4)
                clear p0 p1 p2 p3 p4 x0 x1 x2 q0 q1 f0 f1 l0 l1 l2 hB4
                obtain ⟨⟨p0, p1, p2, p3, p4⟩, ⟨x0, x1, x2⟩, ⟨q0, q1⟩, ⟨f0, f1⟩, ⟨l0, l1, l2⟩⟩ := HR4.out.facts
                go_wp2_with fail
                have KA : Below w4.heap.size w4 (w4.alloc (.cells #[.int .i64 x.run, .int .i64 x.kind, .int .i64 x.id, .int .i64 x.due, .int .u64 x.seq] 35)) := (Below.refl _ _).alloc (Nat.le_refl _) _
                have HR4a := Lib.hid (HR4.out.old KA)
                refine (PS.out _ HR4a.out.m.hv).mono ?_
                rintro e w5 ⟨lv', rfl, hV, hK, hlv⟩
                have bi : w5.heap[w4.heap.size]? = some (.cells #[.int .i64 x.run, .int .i64 x.kind, .int .i64 x.id, .int .i64 x.due, .int .u64 x.seq] 35 (0, 0)) := by
                  rw [hK.block _ (by simp) (fun f => Nat.lt_irrefl _ (HR4.out.m.hv.lt f))]
                  exact heap_alloc_new w4 _
                have HR5 := Lib.hid (HR4a.out.stepH hV hK (take_foot hlv))
                have HNF := Lib.hid (show ¬ foot w1.heap.size lv' mv w4.heap.size from fun f => by
                  have h1 := take_foot (hb := w1.heap.size) (mv := mv) hlv (w := w4) (w2 := w4) _ f
                  rcases h1 with h1 | h1
                  · have := HR4.out.m.hv.lt h1; omega
                  · omega)
                clear hV hK hlv
                obtain ⟨⟨i0, i1, i2, i3, i4⟩, ⟨j0, j1, j2, j3, j4⟩, l5⟩ := box5 bi
                have l4c : B + 1 < w4.heap.size := l2
                have HBI := Lib.hid bi
                clear p0 p1 p2 p3 p4 x0 x1 x2 q0 q1 f0 f1 l0 l1 l2 KA bi
                obtain ⟨⟨p0, p1, p2, p3, p4⟩, ⟨x0, x1, x2⟩, ⟨q0, q1⟩, ⟨f0, f1⟩, ⟨l0, l1, l2⟩⟩ := HR5.out.facts
                go_wp2_with fail
                obtain ⟨w6, hw6⟩ : ∃ w6, w6 = (((((w5.setCell ⟨w4.heap.size, 0, none⟩ (.int .i64 x.run)).setCell ⟨w4.heap.size, 1, none⟩ (.int .i64 x.kind)).setCell ⟨w4.heap.size, 2, none⟩ (.int .i64 x.id)).setCell ⟨w4.heap.size, 3, none⟩ (.int .i64 x.due)).setCell ⟨w4.heap.size, 4, none⟩ (.int .u64 x.seq)) := ⟨_, rfl⟩
                rw [← hw6]
                have K6 : Keeps (fun j => j = w4.heap.size) w5 w6 := by
                  rw [hw6]
                  exact ((((((Keeps.refl (fun j => j = w4.heap.size) w5).setCell (p := ⟨w4.heap.size, 0, none⟩) (.inl rfl) _).setCell (p := ⟨w4.heap.size, 1, none⟩) (.inl rfl) _).setCell (p := ⟨w4.heap.size, 2, none⟩) (.inl rfl) _).setCell (p := ⟨w4.heap.size, 3, none⟩) (.inl rfl) _).setCell (p := ⟨w4.heap.size, 4, none⟩) (.inl rfl) _)
                have bi6 : w6.heap[w4.heap.size]? = some (.cells #[.int .i64 x.run, .int .i64 x.kind, .int .i64 x.id, .int .i64 x.due, .int .u64 x.seq] 35 (0, 0)) := by
                  rw [hw6]; simp [World.setCell, Array.getElem?_modify, HBI.out]
                have HR6 := Lib.hid (HR5.out.keep K6 (fun j e => by
                  subst e
                  exact ⟨l4c, HR4.out.m.below.size, HNF.out, fun f => Nat.lt_irrefl _ (HR4.out.m.qrow.lt f)⟩))
                clear i0 i1 i2 i3 i4 j0 j1 j2 j3 j4 l5 hw6 K6
                clear p0 p1 p2 p3 p4 x0 x1 x2 q0 q1 f0 f1 l0 l1 l2
                obtain ⟨⟨i0, i1, i2, i3, i4⟩, _, l6⟩ := box5 bi6
                obtain ⟨z0, z1, z2, z3, z4⟩ := HRX.out _ HR6.out.m.qrow
                have hgl6 : g < w6.heap.size := HR6.out.m.qrow.lt rfl
                clear bi6
                obtain ⟨⟨p0, p1, p2, p3, p4⟩, ⟨x0, x1, x2⟩, ⟨q0, q1⟩, ⟨f0, f1⟩, ⟨l0, l1, l2⟩⟩ := HR6.out.facts
                refine wp_region_ext (by kernel_rfl) (by kernel_rfl) ?_
                repeat (go_big_quiet_step ((go_at_call 23; exact ext_call (LT.out _))))
                refine wpQuiet_nil ?_
                intro w7 hB7
                have HR7 := Lib.hid (HR6.out.old hB7)
                clear i0 i1 i2 i3 i4 l6 z0 z1 z2 z3 z4 hgl6 hB7
                clear p0 p1 p2 p3 p4 x0 x1 x2 q0 q1 f0 f1 l0 l1 l2
                obtain ⟨⟨p0, p1, p2, p3, p4⟩, ⟨x0, x1, x2⟩, ⟨q0, q1⟩, ⟨f0, f1⟩, ⟨l0, l1, l2⟩⟩ := HR7.out.facts
                go_wp2_with fail
                refine ((without_any 0 (.slice (some ⟨g, off', none⟩) (r.length + 1) cq) (toR x :: r.map toR) s.seq w7 HR7.out.m.qrow (by simp; omega)).mono (R' := fun e w' => ∃ a' c', e = .returned (.agg #[.slice a' r.length c', .int .i64 s.seq]) ∧ RowAt w' 57 (.slice a' r.length c') (r.map toR) ∧ Below w7.heap.size w7 w' ∧ ∀ g, (Value.slice a' r.length c').ownBlock = some g → w7.heap.size ≤ g) fun e w' ⟨v', h1, h2, h3, h4⟩ => by
                  rw [woutR, if_pos (by simp), woutR_none _ _ _ (by omega)] at h2
                  obtain ⟨a', c', rfl⟩ := h2.slice
                  rw [List.length_map] at *
                  exact ⟨a', c', h1, h2, h3, h4⟩).mono ?_
                rintro e w8 ⟨a', c', rfl, hR8, hB8, hf8⟩
                have HR8 := Lib.hid (HR7.out.old hB8)
                have HB8 := Lib.hid (And.intro hB8 (And.intro hR8 hf8))
                clear p0 p1 p2 p3 p4 x0 x1 x2 q0 q1 f0 f1 l0 l1 l2 hB8 hR8 hf8
                obtain ⟨⟨p0, p1, p2, p3, p4⟩, ⟨x0, x1, x2⟩, ⟨q0, q1⟩, ⟨f0, f1⟩, ⟨l0, l1, l2⟩⟩ := HR8.out.facts
                go_wp2_with fail
                go_meet
                case rel =>
                  refine ⟨lv', mv, .slice a' r.length c', s.take 0, r, ?_, HZE.out.2.1, ?_, by rw [HZE.out.2.2]; omega, by rw [HZE.out.2.2]; omega, by omega⟩
                  · rw [HZE.out.2.2]; exact (HR7.out.stepQ HB8.out.1 HB8.out.2.1 (fun g h => .inl (HB8.out.2.2 g h))).m
                  · have := HFF.out.2.2; rw [HZE.out.1] at this; exact fun y hy => this y (List.mem_cons_of_mem _ hy)
            --]]a4
          by_cases k5 : ki = 5
          · subst k5
            --[[a5
            as_aux_lemma =>
              obtain ⟨n0, hn0⟩ : ∃ n0, n0 = dueN du Z := ⟨_, rfl⟩
              have hnl : n0 ≤ Z.length := by rw [hn0]; exact dueN_le _ _
              have HN := Lib.hid hn0
              obtain ⟨ii, hii, _⟩ := info_parts info57
              have II := Lib.hid hii
              clear hn0 hii
              obtain ⟨⟨p0, p1, p2, p3, p4⟩, ⟨x0, x1, x2⟩, ⟨q0, q1⟩, ⟨f0, f1⟩, ⟨l0, l1, l2⟩⟩ := HR3.out.facts
              go_wp2_with fail
              obtain ⟨wp, rfl⟩ : ∃ wp : World, wp = wr := ⟨_, rfl⟩
              obtain ⟨kk, rfl⟩ : ∃ kk : Nat, kk = k := ⟨_, rfl⟩
              clear p0 p1 p2 p3 p4 x0 x1 x2 q0 q1 f0 f1 l0 l1 l2
              go_loopw [15] (fun v wx => ∃ i : Nat, v = .int .i64 i ∧ i ≤ n0 ∧ Below w3.heap.size w3 wx) (fun v _ => n0 - (intOf v).toNat)
              case atStart => exact ⟨0, rfl, Nat.zero_le _, Below.refl _ _⟩
              case round =>
                obtain ⟨i, rfl, hi, hBi⟩ := hrel
                have HRi := Lib.hid (HR3.out.old hBi)
                have HBI := Lib.hid hBi
                obtain ⟨⟨p0, p1, p2, p3, p4⟩, ⟨x0, x1, x2⟩, ⟨q0, q1⟩, ⟨f0, f1⟩, ⟨l0, l1, l2⟩⟩ := HRi.out.facts
                have hi0 : (0 : Int) ≤ (i : Int) := by omega
                by_cases hin : i < n0
                · obtain ⟨x, hx, hxd⟩ := dueN_lt du Z i (by rw [← HN.out]; exact hin)
                  have hiZ : (i : Int) < (Z.length : Int) := by omega
                  obtain ⟨g, off', rfl, hgl⟩ := HRi.out.m.qrow.addr (x := toR x) (i := i) (by simp [hx])
                  obtain ⟨z0, z1, z2, z3, z4⟩ := row_rit HRi.out.m.qrow (x := toR x) (i := i) (by simp [hx])
                  simp only [toR] at z0 z1 z2 z3 z4
                  clear hBi hx
                  go_wp2_with fail
                  refine wp_region_ext (by kernel_rfl) (by kernel_rfl) ?_
                  repeat (go_big_quiet_step (fail))
                  refine wpQuiet_nil ?_
                  intro w7 hB7
                  have HB7 := Lib.hid (HBI.out.trans (hB7.mono HBI.out.size))
                  clear hB7
                  go_wp2_with fail
                  go_roundw
                  case rel => exact ⟨i + 1, by simp, hin, HB7.out⟩
                  case measure => simp [intOf]; omega
                · obtain rfl : i = n0 := by omega
                  by_cases hiZ : i < Z.length
                  · obtain ⟨x, hx⟩ := elem_at hiZ
                    have hxd : ¬ x.due ≤ du := dueN_at du Z x (by rw [← HN.out]; exact hx)
                    have hiZ' : (i : Int) < (Z.length : Int) := by omega
                    obtain ⟨g, off', rfl, hgl⟩ := HRi.out.m.qrow.addr (x := toR x) (i := i) (by simp [hx])
                    obtain ⟨z0, z1, z2, z3, z4⟩ := row_rit HRi.out.m.qrow (x := toR x) (i := i) (by simp [hx])
                    simp only [toR] at z0 z1 z2 z3 z4
                    have hdd : decide (x.due ≤ du) = false := decide_eq_false hxd
                    clear hBi hx hxd
                    go_wp2_with fail
                    refine wp_region_ext (by kernel_rfl) (by kernel_rfl) ?_
                    repeat (go_big_quiet_step (fail))
                    refine wpQuiet_nil ?_
                    intro w7 hB7
                    have HB7 := Lib.hid (HBI.out.trans (hB7.mono HBI.out.size))
                    clear hB7
                    clear z0 z1 z2 z3 z4 hdd
                    have HRj := Lib.hid (HR3.out.old HB7.out)
                    have SL := Lib.hid (HR3.out.m.qrow.pre (n := i) (by rw [List.length_map]; omega))
                    have hsl : ∀ W : World, (Instr.slice 47 (.slice (some ⟨g, off', none⟩) Z.length cq) none (some (.int .i64 (i : Int))) none).run Try.prog W = .ok (.slice (some ⟨g, off', none⟩) i cq) W := fun W => run_slice_to Try.underlying47 II.out SL.out.1 W
                    have DUE := Lib.hid (fun (W : World) (K : Below w3.heap.size w3 W) => (due_any du w1.heap.size lv mv _ s W (HR3.out.old K).m.hv (by rw [← HFF.out.2.1.len]; omega) (Z.take i) (by rw [HN.out]; exact sortTo_ref HFF.out.2.1 du (by rw [← HFF.out.2.1.len]; omega))))
                    have AT := Lib.hid (fun (W : World) (K : Below w3.heap.size w3 W) (v : Value) (H : RowAt W 35 v (Z.take i)) => all_true v (.slice (some ⟨g, off', none⟩) i cq) (Z.take i) W H (by rw [List.map_take]; exact SL.out.2.keep (Keeps.of_below K) (fun _ _ f => f)) (by have := List.length_take_le i Z; omega) (fun x hx => ⟨HFF.out.2.2 x (List.mem_of_mem_take hx), by have := HFF.out.2.1.seq x (List.mem_of_mem_take hx); omega⟩))
                    clear p0 p1 p2 p3 p4 x0 x1 x2 q0 q1 f0 f1 l0 l1 l2
                    obtain ⟨⟨p0, p1, p2, p3, p4⟩, ⟨x0, x1, x2⟩, ⟨q0, q1⟩, ⟨f0, f1⟩, ⟨l0, l1, l2⟩⟩ := HRj.out.facts
                    go_wp2_with fail
                    go_region_held3 (fun W => W.cell? ⟨B, 4, none⟩ = some (.int .i64 du) ∧ W.cell? ⟨qb, 0, none⟩ = some (.slice (some ⟨g, off', none⟩) Z.length cq)) (first | exact ⟨p4, q0⟩ | exact ⟨y4, y5⟩ | exact ⟨y6, y7⟩)
                      ((first
                        | (go_at_call 26; refine (AT.out _ BD.out _ RD.out).mono ?_; rintro e w9 ⟨rfl, hB9⟩; have BE := Lib.hid (BD.out.trans (hB9.mono BD.out.size)); have y6 := (hB9.cell (p := ⟨B, 4, none⟩) ly1).trans y4; have y7 := (hB9.cell (p := ⟨qb, 0, none⟩) ly0).trans y5)
                        | (go_at_call 27; refine (DUE.out _ HB7.out.drew).mono ?_; rintro e w8 ⟨v8, rfl, hR8, hB8, _⟩; have BD := Lib.hid (HB7.out.drew.trans (hB8.mono HB7.out.drew.size)); have RD := Lib.hid hR8; have y4 := (hB8.cell (p := ⟨B, 4, none⟩) l1).trans p4; have y5 := (hB8.cell (p := ⟨qb, 0, none⟩) l0).trans q0; have ly1 : B < w8.heap.size := Nat.lt_of_lt_of_le l1 hB8.size; have ly0 : qb < w8.heap.size := Nat.lt_of_lt_of_le l0 hB8.size)))
                    all_goals
                      go_wp2_with fail
                      go_meet
                      case rel => exact ⟨lv, mv, .slice (some ⟨g, off', none⟩) Z.length cq, s, Z, (HR3.out.old BE.out).m, HFF.out.2.1, HFF.out.2.2, hs0, by omega, by omega⟩
                  · have hdd : decide ((i : Int) < (Z.length : Int)) = false := decide_eq_false (by omega)
                    clear hBi
                    go_wp2_with fail
                    refine wp_region_ext (by kernel_rfl) (by kernel_rfl) ?_
                    repeat (go_big_quiet_step (fail))
                    refine wpQuiet_nil ?_
                    intro w7 hB7
                    have HB7 := Lib.hid (HBI.out.trans (hB7.mono HBI.out.size))
                    clear hB7
                    clear hdd
                    have HRj := Lib.hid (HR3.out.old HB7.out)
                    have SL := Lib.hid (HR3.out.m.qrow.pre (n := i) (by rw [List.length_map]; omega))
                    have hsl : ∀ W : World, (Instr.slice 47 (.slice aq Z.length cq) none (some (.int .i64 (i : Int))) none).run Try.prog W = .ok (.slice aq i cq) W := fun W => run_slice_to Try.underlying47 II.out SL.out.1 W
                    have DUE := Lib.hid (fun (W : World) (K : Below w3.heap.size w3 W) => (due_any du w1.heap.size lv mv _ s W (HR3.out.old K).m.hv (by rw [← HFF.out.2.1.len]; omega) (Z.take i) (by rw [HN.out]; exact sortTo_ref HFF.out.2.1 du (by rw [← HFF.out.2.1.len]; omega))))
                    have AT := Lib.hid (fun (W : World) (K : Below w3.heap.size w3 W) (v : Value) (H : RowAt W 35 v (Z.take i)) => all_true v (.slice aq i cq) (Z.take i) W H (by rw [List.map_take]; exact SL.out.2.keep (Keeps.of_below K) (fun _ _ f => f)) (by have := List.length_take_le i Z; omega) (fun x hx => ⟨HFF.out.2.2 x (List.mem_of_mem_take hx), by have := HFF.out.2.1.seq x (List.mem_of_mem_take hx); omega⟩))
                    clear p0 p1 p2 p3 p4 x0 x1 x2 q0 q1 f0 f1 l0 l1 l2
                    obtain ⟨⟨p0, p1, p2, p3, p4⟩, ⟨x0, x1, x2⟩, ⟨q0, q1⟩, ⟨f0, f1⟩, ⟨l0, l1, l2⟩⟩ := HRj.out.facts
                    go_wp2_with fail
                    go_region_held3 (fun W => W.cell? ⟨B, 4, none⟩ = some (.int .i64 du) ∧ W.cell? ⟨qb, 0, none⟩ = some (.slice aq Z.length cq)) (first | exact ⟨p4, q0⟩ | exact ⟨y4, y5⟩ | exact ⟨y6, y7⟩)
                      ((first
                        | (go_at_call 26; refine (AT.out _ BD.out _ RD.out).mono ?_; rintro e w9 ⟨rfl, hB9⟩; have BE := Lib.hid (BD.out.trans (hB9.mono BD.out.size)); have y6 := (hB9.cell (p := ⟨B, 4, none⟩) ly1).trans y4; have y7 := (hB9.cell (p := ⟨qb, 0, none⟩) ly0).trans y5)
                        | (go_at_call 27; refine (DUE.out _ HB7.out.drew).mono ?_; rintro e w8 ⟨v8, rfl, hR8, hB8, _⟩; have BD := Lib.hid (HB7.out.drew.trans (hB8.mono HB7.out.drew.size)); have RD := Lib.hid hR8; have y4 := (hB8.cell (p := ⟨B, 4, none⟩) l1).trans p4; have y5 := (hB8.cell (p := ⟨qb, 0, none⟩) l0).trans q0; have ly1 : B < w8.heap.size := Nat.lt_of_lt_of_le l1 hB8.size; have ly0 : qb < w8.heap.size := Nat.lt_of_lt_of_le l0 hB8.size)))
                    all_goals
                      go_wp2_with fail
                      go_meet
                      case rel => exact ⟨lv, mv, .slice aq Z.length cq, s, Z, (HR3.out.old BE.out).m, HFF.out.2.1, HFF.out.2.2, hs0, by omega, by omega⟩
            --]]a5
          by_cases k6 : ki = 6
          · subst k6
            --[[a6
            as_aux_lemma =>
              have DR := Lib.hid (drop_any ru w1.heap.size lv mv _ s w3 HR3.out.m.hv HFF.out.2.1.good (by rw [← HFF.out.2.1.len]; omega))
              obtain ⟨⟨p0, p1, p2, p3, p4⟩, ⟨x0, x1, x2⟩, ⟨q0, q1⟩, ⟨f0, f1⟩, ⟨l0, l1, l2⟩⟩ := HR3.out.facts
              go_wp2_with fail
              refine DR.out.mono ?_
              rintro e w4 ⟨s', lv', rfl, hV, hg', hp', hq', hlv, hK⟩
              have HR4 := Lib.hid (HR3.out.stepH hV hK (take_foot hlv))
              have HS := Lib.hid (And.intro (HFF.out.2.1.drop hg' hp' hq') hq')
              have hmine : (mine s ru).length = (Z.map toR).length - (notOf ru (Z.map toR)).length := HFF.out.2.1.mine ru
              obtain ⟨nd, hnd⟩ : ∃ nd : Nat, nd = (mine s ru).length := ⟨_, rfl⟩
              rw [← hnd]
              have HN := Lib.hid (And.intro (notOf_map ru Z) (hnd.trans hmine))
              clear hnd
              clear p0 p1 p2 p3 p4 x0 x1 x2 q0 q1 f0 f1 l0 l1 l2 hV hK hlv hg' hp' hq' hmine
              obtain ⟨⟨p0, p1, p2, p3, p4⟩, ⟨x0, x1, x2⟩, ⟨q0, q1⟩, ⟨f0, f1⟩, ⟨l0, l1, l2⟩⟩ := HR4.out.facts
              go_wp2_with fail
              refine ((rdrop_any ru (.slice aq Z.length cq) (Z.map toR) s.seq w4 HR4.out.m.qrow (by rw [List.length_map]; omega)).mono (R' := fun e w' => ∃ a' c', e = .returned (.tuple #[.agg #[.slice a' (Z.filter (fun x => !(x.run == ru))).length c', .int .i64 s.seq], .int .i64 (nd : Int)]) ∧ RowAt w' 57 (.slice a' (Z.filter (fun x => !(x.run == ru))).length c') ((Z.filter (fun x => !(x.run == ru))).map toR) ∧ Below w4.heap.size w4 w' ∧ ∀ g, (Value.slice a' (Z.filter (fun x => !(x.run == ru))).length c').ownBlock = some g → w4.heap.size ≤ g) fun e w' ⟨v', h1, h2, h3, h4⟩ => by
                rw [HN.out.1] at h2
                obtain ⟨a', c', rfl⟩ := h2.slice
                rw [List.length_map] at h2 h4
                exact ⟨a', c', by rw [h1, List.length_map, HN.out.2], h2, h3, h4⟩).mono ?_
              rintro e w5 ⟨a', c', rfl, hR5, hB5, hf5⟩
              have hfl : (Z.filter (fun x => !(x.run == ru))).length ≤ Z.length := List.length_filter_le _ _
              have HFL := Lib.hid hfl
              generalize hnl : (Z.filter (fun x => !(x.run == ru))).length = nl at hR5 hf5 ⊢
              have HNL := Lib.hid hnl
              have HR5 := Lib.hid (HR4.out.old hB5)
              have HB5 := Lib.hid (And.intro hB5 (And.intro hR5 hf5))
              clear p0 p1 p2 p3 p4 x0 x1 x2 q0 q1 f0 f1 l0 l1 l2 hB5 hR5 hf5 hnl hfl
              obtain ⟨⟨p0, p1, p2, p3, p4⟩, ⟨x0, x1, x2⟩, ⟨q0, q1⟩, ⟨f0, f1⟩, ⟨l0, l1, l2⟩⟩ := HR5.out.facts
              go_wp2_with fail
              go_meet
              case rel =>
                refine ⟨lv', mv, .slice a' nl c', s', Z.filter (fun x => !(x.run == ru)), ?_, HS.out.1, fun y hy => HFF.out.2.2 y (List.mem_filter.1 hy).1, by rw [HS.out.2]; omega, by rw [HS.out.2]; omega, ?_⟩
                · rw [HS.out.2]; exact (HR4.out.stepQ HB5.out.1 HB5.out.2.1 (fun g h => .inl (HB5.out.2.2 g h))).m
                · have := HFL.out; omega
            --]]a6
          --[[a7
          as_aux_lemma =>
            have b0 : (ki == 0) = false := beq_eq_false_iff_ne.2 k0
            have b1 : (ki == 1) = false := beq_eq_false_iff_ne.2 k1
            have b2 : (ki == 2) = false := beq_eq_false_iff_ne.2 k2
            have b3 : (ki == 3) = false := beq_eq_false_iff_ne.2 k3
            have b4 : (ki == 4) = false := beq_eq_false_iff_ne.2 k4
            have b5 : (ki == 5) = false := beq_eq_false_iff_ne.2 k5
            have b6 : (ki == 6) = false := beq_eq_false_iff_ne.2 k6
            clear k0 k1 k2 k3 k4 k5 k6
            go_wp2_with fail
            go_meet
            case rel => exact ⟨_, _, _, s, Z, HR3.out.m, HFF.out.2.1, HFF.out.2.2, hs0, by omega, by omega⟩
          --]]a7
        case rest =>
          --[[tail
          as_aux_lemma =>
            obtain ⟨lv', mv', qv', s', Z', hM', hRf', hZ', h0', hk', hZk'⟩ := hcut
            obtain ⟨aq', cq', rfl⟩ := hM'.qrow.slice
            rw [List.length_map] at hM'
            have q0 : wc.cell? ⟨qb, 0, none⟩ = some (.slice aq' Z'.length cq') := by rw [cell_of_heap hM'.qbox]; rfl
            have hql := lt_of_heap hM'.qbox
            have hlen := hRf'.len
            have hcap : s'.L.length ≤ 16384 := by omega
            have LN := Lib.hid (fun (W : World) (K : Below wc.heap.size wc W) => (len_any w1.heap.size lv' mv' _ s' W (hM'.old K).hv).mono (R' := fun e w' => e = .returned (.int .i64 Z'.length) ∧ W = w') fun e w' h => ⟨by rw [h.1, hlen], h.2⟩)
            have RT := Lib.hid (fun (W : World) (K : Below wc.heap.size wc W) => right_any w1.heap.size lv' mv' _ s' W (hM'.old K).hv hRf'.good hcap)
            have AL := Lib.hid (fun (W : World) (K : Below wc.heap.size wc W) => (all_any w1.heap.size lv' mv' _ s' W (hM'.old K).hv hcap).mono (R' := fun e w' => ∃ a c, e = .returned (.slice a Z'.length c) ∧ RowAt w' 35 (.slice a Z'.length c) Z' ∧ Below W.heap.size W w') fun e w' ⟨v, ys, h1, h2, h3, h4, h5, _⟩ => by
              obtain rfl := hRf'.uniq h2 h3
              obtain ⟨a, c, rfl⟩ := h4.slice
              exact ⟨a, c, h1, h4, h5⟩)
            have AT := Lib.hid (fun (W : World) (K : Below wc.heap.size wc W) (v : Value) (H : RowAt W 35 v Z') => all_true v (.slice aq' Z'.length cq') Z' W H (hM'.old K).qrow (by omega) (fun x hx => ⟨hZ' x hx, by have := hRf'.seq x hx; omega⟩))
            have HT := Lib.hid (And.intro hM' (And.intro hRf' hZ'))
            clear hM' hRf' hZ' hlen hcap
            have BW := Lib.hid (Below.refl wc.heap.size wc)
            go_wp2_with fail
            go_region_held3 (fun W => W.cell? ⟨qb, 0, none⟩ = some (.slice aq' Z'.length cq')) (first | exact q0 | exact r0 | exact a0 | exact z0)
              ((first
                | (go_at_call 26; refine (AT.out _ BA.out _ RA.out).mono ?_; rintro e w8 ⟨rfl, hB8⟩; have BZ := Lib.hid (BA.out.trans (hB8.mono BA.out.size)); have z0 := (BZ.out.cell (p := ⟨qb, 0, none⟩) hql).trans q0)
                | (go_at_call 19; refine (AL.out _ BR.out).mono ?_; rintro e w7 ⟨a7, c7, rfl, hR7, hB7⟩; have BA := Lib.hid (BR.out.trans (hB7.mono BR.out.size)); have RA := Lib.hid hR7; have a0 := (BA.out.cell (p := ⟨qb, 0, none⟩) hql).trans q0)
                | (go_at_call 17; refine (RT.out _ BW.out.drew).mono ?_; rintro e w6 ⟨rfl, hB6⟩; have BR := Lib.hid (BW.out.drew.trans (hB6.mono BW.out.drew.size)); have r0 := (BR.out.cell (p := ⟨qb, 0, none⟩) hql).trans q0)
                | (go_at_call 15; refine (LN.out _ BW.out.drew).mono ?_; rintro e w5 ⟨rfl, rfl⟩)))
            all_goals
              go_wp2_with fail
              obtain rfl := HQ.out
              go_roundw
              case rel => exact ⟨k + 1, by simp, hkn, lv', mv', _, s', Z', HT.out.1.old BZ.out, HT.out.2.1, HT.out.2.2, h0', hk', hZk'⟩
              case measure => simp [intOf]; omega
          --]]tail
      · obtain rfl : k = l.length := by omega
        go_wp2_with fail
        go_ret
        exact ⟨rfl, hM.below⟩
end Go.Proofs.Ytkhphnidopbjjaa
