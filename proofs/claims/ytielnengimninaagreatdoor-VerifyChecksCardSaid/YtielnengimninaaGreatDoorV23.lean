/- verify: what the heights are, plain; an image that may be. -/
import Derived.Test.YtielnengimninaaGreatDoorV22
namespace Go.Va
/-- what is told of an instruction that is done -/
def DoneAt (code : List In) (hs : List Int) (most : Int) (k : Nat) (h : Int) : Prop :=
  ∃ c, code[k]? = some c ∧ 0 ≤ h - takesL c ∧ h - takesL c + (ofL c.op).1.o ≤ 32 ∧ h - takesL c + (ofL c.op).1.o ≤ most ∧ ∀ x ∈ followN c k, x < code.length ∧ hs[x]? = some (h - takesL c + (ofL c.op).1.o)
/-- more is known -/
structure Gr (st st' : KSt) : Prop where
  keep : ∀ (j : Nat) (y : Int), st.heights[j]? = some y → 0 ≤ y → st'.heights[j]? = some y
  most : st.most ≤ st'.most
  len : st'.heights.length = st.heights.length
  td : ∀ j ∈ st.todo, j ∈ st'.todo
  new : ∀ (j : Nat) (y : Int), st'.heights[j]? = some y → 0 ≤ y → st.heights[j]? = some y ∨ j ∈ st'.todo
theorem Gr.refl (st : KSt) : Gr st st := ⟨fun _ _ h _ => h, Int.le_refl _, rfl, fun _ h => h, fun _ _ h _ => .inl h⟩
theorem Gr.trans {a b c : KSt} (h : Gr a b) (g : Gr b c) : Gr a c :=
  ⟨fun j y e l => g.keep j y (h.keep j y e l) l, Int.le_trans h.most g.most, g.len.trans h.len, fun j hj => g.td j (h.td j hj), fun j y e l => by
    rcases g.new j y e l with e2 | e2
    · rcases h.new j y e2 l with e3 | e3
      · exact .inl e3
      · exact .inr (g.td j e3)
    · exact .inr e2⟩
theorem DoneAt.grow {code : List In} {st st' : KSt} (OK : CodeOk code) (g : Gr st st') {k : Nat} {h : Int} (d : DoneAt code st.heights st.most k h) : DoneAt code st'.heights st'.most k h := by
  obtain ⟨c, h1, h2, h3, h4, h5⟩ := d
  have ho := (OK.o c (List.mem_of_getElem? h1)).1
  exact ⟨c, h1, h2, h3, Int.le_trans h4 g.most, fun x hx => ⟨(h5 x hx).1, g.keep x _ (h5 x hx).2 (by omega)⟩⟩
theorem comeL_gr {n k : Nat} {h : Int} {st : KSt} (hn : st.heights.length = n) (h0 : 0 ≤ h) : Gr st (comeL n k h st).2 ∧ ((comeL n k h st).1 = 0 → k < n ∧ (comeL n k h st).2.heights[k]? = some h) ∧ ((comeL n k h st).1 = 0 ∨ (comeL n k h st).1 = 131 ∨ (comeL n k h st).1 = 132) := by
  unfold comeL
  by_cases hk : n ≤ k
  · rw [decide_eq_true hk]
    simp only [cond_true]
    exact ⟨Gr.refl _, fun e => by simp at e, by simp⟩
  · rw [decide_eq_false hk]
    simp only [cond_false]
    obtain ⟨x, hx⟩ : ∃ x, st.heights[k]? = some x := ⟨st.heights[k]'(by omega), by simp⟩
    rw [List.getD_eq_getElem?_getD, hx, Option.getD_some]
    by_cases hl : x < 0
    · rw [decide_eq_true hl]
      simp only [cond_true]
      have hs : (st.heights.set k h)[k]? = some h := List.getElem?_set_self (by omega)
      refine ⟨⟨fun j y e l => ?_, Int.le_refl _, by simp, fun j hj => List.mem_append_left _ hj, fun j y e l => ?_⟩, fun _ => ⟨by omega, hs⟩, by simp⟩
      · show (st.heights.set k h)[j]? = some y
        rw [List.getElem?_set_ne]
        · exact e
        · intro e2
          subst e2
          rw [hx] at e
          cases e
          omega
      · by_cases e2 : k = j
        · subst e2
          exact .inr (by simp)
        · left
          have e : (st.heights.set k h)[j]? = some y := e
          rwa [List.getElem?_set_ne e2] at e
    · rw [decide_eq_false hl]
      simp only [cond_false]
      cases hxh : (x != h) with
      | true => exact ⟨Gr.refl _, fun e => by simp at e, by simp⟩
      | false =>
        have : x = h := by simpa using hxh
        subst this
        exact ⟨Gr.refl _, fun _ => ⟨by omega, hx⟩, by simp⟩
theorem comesL_gr {n : Nat} {h : Int} (h0 : 0 ≤ h) : ∀ (l : List Nat) {st : KSt}, st.heights.length = n → Gr st (comesL n h l st).2 ∧ ((comesL n h l st).1 = 0 → ∀ x ∈ l, x < n ∧ (comesL n h l st).2.heights[x]? = some h) ∧ ((comesL n h l st).1 = 0 ∨ (comesL n h l st).1 = 131 ∨ (comesL n h l st).1 = 132)
  | [], st, _ => ⟨Gr.refl _, (fun _ x hx => by cases hx), .inl rfl⟩
  | x :: r, st, hn => by
    obtain ⟨g, hg, hc⟩ := comeL_gr (k := x) hn h0
    rw [comesL]
    cases hz : ((comeL n x h st).1 != 0) with
    | true =>
      simp only [cond_true]
      exact ⟨g, fun e => by rw [e] at hz; simp at hz, hc⟩
    | false =>
      simp only [cond_false]
      have hz0 : (comeL n x h st).1 = 0 := by simpa using hz
      obtain ⟨g2, hg2, hc2⟩ := comesL_gr h0 r (st := (comeL n x h st).2) (g.len.trans hn)
      refine ⟨g.trans g2, fun e y hy => ?_, hc2⟩
      rcases List.mem_cons.1 hy with rfl | hy
      · exact ⟨(hg hz0).1, g2.keep _ _ (hg hz0).2 h0⟩
      · exact hg2 e y hy
theorem stepL_gr {code : List In} {c : In} {k : Nat} {h : Int} {st : KSt} (OK : CodeOk code) (hc : code[k]? = some c) (hn : st.heights.length = code.length) (hh : st.heights[k]? = some h) :
    Gr st (stepL code.length c k st).2 ∧ ((stepL code.length c k st).1 = 0 → DoneAt code (stepL code.length c k st).2.heights (stepL code.length c k st).2.most k h) ∧ ((stepL code.length c k st).1 = 0 ∨ (stepL code.length c k st).1 = 131 ∨ (stepL code.length c k st).1 = 132) := by
  have ho := (OK.o c (List.mem_of_getElem? hc)).1
  unfold stepL
  rw [List.getD_eq_getElem?_getD, hh, Option.getD_some]
  by_cases h1 : h - takesL c < 0
  · rw [decide_eq_true h1]
    exact ⟨Gr.refl _, fun e => by simp at e, by simp⟩
  · rw [decide_eq_false h1]
    simp only [cond_false]
    by_cases h2 : 32 < h - takesL c + (ofL c.op).1.o
    · rw [decide_eq_true h2]
      exact ⟨Gr.refl _, fun e => by simp at e, by simp⟩
    · rw [decide_eq_false h2]
      simp only [cond_false]
      obtain ⟨m, hm⟩ : ∃ m, h - takesL c + (ofL c.op).1.o = m := ⟨_, rfl⟩
      rw [hm] at h2 ⊢
      have g0 : Gr st { st with most := max st.most m } := ⟨fun _ _ h _ => h, by show st.most ≤ max st.most m; omega, rfl, fun _ h => h, fun _ _ h _ => .inl h⟩
      obtain ⟨g, hg, hcc⟩ := comesL_gr (n := code.length) (h := m) (by omega) (followN c k) (st := { st with most := max st.most m }) hn
      refine ⟨g0.trans g, fun e => ⟨c, hc, by omega, by omega, ?_, ?_⟩, hcc⟩
      · rw [hm]
        have := g.most
        have : max st.most m ≤ _ := this
        omega
      · rw [hm]
        exact hg e
/-- all that is known when nothing is to do any more -/
theorem bfsL_law {code : List In} (OK : CodeOk code) : ∀ (f : Nat) (st : KSt), Inv code.length f st → (∀ (k : Nat) (h : Int), st.heights[k]? = some h → 0 ≤ h → k ∈ st.todo ∨ DoneAt code st.heights st.most k h) →
    ((bfsL code f st).1.2 = 0 → (bfsL code f st).1.1 = -1 ∧ (∀ (k : Nat) (h : Int), (bfsL code f st).2.heights[k]? = some h → 0 ≤ h → DoneAt code (bfsL code f st).2.heights (bfsL code f st).2.most k h) ∧ (∀ (j : Nat) (y : Int), st.heights[j]? = some y → 0 ≤ y → (bfsL code f st).2.heights[j]? = some y) ∧ Inv code.length code.length (bfsL code f st).2)
  | 0, st, I, D => by
    have ht : st.todo = [] := by
      have := I.less
      exact List.eq_nil_of_length_eq_zero (by omega)
    rw [bfsL]
    refine fun _ => ⟨rfl, fun k h e l => ?_, fun _ _ h _ => h, ⟨I.len, I.all, I.todo, by have := I.less; show negs st.heights + st.todo.length ≤ _; omega, I.m0, I.m1⟩⟩
    have := D k h e l
    rw [ht] at this
    exact this.resolve_left (by simp)
  | f + 1, st, I, D => by
    rw [bfsL]
    cases ht : st.todo with
    | nil =>
      refine fun _ => ⟨rfl, fun k h e l => ?_, fun _ _ h _ => h, ⟨I.len, I.all, I.todo, ?_, I.m0, I.m1⟩⟩
      · have := D k h e l
        rw [ht] at this
        exact this.resolve_left (by simp)
      · have : ∀ l : List Int, negs l ≤ l.length := fun l => by
          induction l with
          | nil => exact Nat.le_refl _
          | cons x r ih => rw [negs, List.length_cons]; cases decide (x < 0) <;> simp <;> omega
        have := this st.heights
        have := I.len
        rw [ht]
        simp only [List.length_nil]
        omega
    | cons k r =>
      obtain ⟨h, hh, h0⟩ := I.todo k (by rw [ht]; exact List.mem_cons_self ..)
      have hkl : k < code.length := by have := (List.getElem?_eq_some_iff.1 hh).1; have := I.len; omega
      have hc : code[k]? = some code[k] := List.getElem?_eq_getElem hkl
      generalize code[k] = c at hc
      dsimp only
      rw [hc]
      dsimp only
      have ho := OK.o c (List.mem_of_getElem? hc)
      obtain ⟨g, hd, hcc⟩ := stepL_gr (c := c) (st := { st with todo := r }) OK hc I.len hh
      have I3 : Inv code.length f (stepL code.length c k { st with todo := r }).2 := stepL_inv (k := k) (c := c) (f := f) ⟨I.len, I.all, fun j hj => I.todo j (by rw [ht]; exact List.mem_cons_of_mem _ hj), by have := I.less; rw [ht] at this; simp only [List.length_cons] at this; show negs st.heights + r.length ≤ f; omega, I.m0, I.m1⟩ ho.1
      cases hz : ((stepL code.length c k { st with todo := r }).1 != 0) with
      | true =>
        simp only [cond_true]
        exact fun e => by rw [e] at hz; simp at hz
      | false =>
        simp only [cond_false]
        have hz0 : (stepL code.length c k { st with todo := r }).1 = 0 := by simpa using hz
        intro e
        obtain ⟨b1, b2, b3, b4⟩ := bfsL_law OK f _ I3 (fun j y e l => by
          rcases g.new j y e l with e2 | e2
          · by_cases hjk : j = k
            · subst hjk
              rw [hh] at e2
              cases e2
              exact .inr (hd hz0)
            · rcases D j y e2 l with e3 | e3
              · rw [ht] at e3
                rcases List.mem_cons.1 e3 with e4 | e4
                · exact absurd e4 hjk
                · exact .inl (g.td j e4)
              · exact .inr (DoneAt.grow OK (st := { st with todo := r }) g e3)
          · exact .inl e2) e
        exact ⟨b1, b2, fun j y e l => b3 j y (g.keep j y e l) l, b4⟩
/-- the walk's outcome -/
structure Walked (code : List In) (st : KSt) : Prop where
  inv : Inv code.length code.length st
  zero : st.heights[0]? = some 0
  done : ∀ (k : Nat) (h : Int), st.heights[k]? = some h → 0 ≤ h → DoneAt code st.heights st.most k h
theorem walkL_law {code : List In} (OK : CodeOk code) (h : (walkL code).1.2 = 0) : (walkL code).1.1 = -1 ∧ Walked code (walkL code).2 := by
  unfold walkL at h ⊢
  dsimp only at h ⊢
  have I := comeL_inv (n := code.length) (f := code.length) (k := 0) (h := 0) (st := ⟨List.replicate code.length (-1), [], 0⟩) ⟨by simp, (fun x hx => by rw [(List.mem_replicate.1 hx).2]; omega), (fun k hk => by cases hk), (by rw [negs_replicate]; simp), Int.le_refl 0, (by show (0 : Int) ≤ 32; decide)⟩ (by decide) (by decide)
  obtain ⟨g, hg, hc⟩ := comeL_gr (n := code.length) (k := 0) (h := 0) (st := ⟨List.replicate code.length (-1), [], 0⟩) (by simp) (by decide)
  generalize comeL code.length 0 0 ⟨List.replicate code.length (-1), [], 0⟩ = q at *
  cases hz : (q.1 != 0) with
  | true =>
    rw [hz] at h
    simp only [cond_true] at h
    rw [h] at hz
    simp at hz
  | false =>
    rw [hz] at h
    simp only [cond_false] at h ⊢
    have hz0 : q.1 = 0 := by simpa using hz
    obtain ⟨b1, b2, b3, b4⟩ := bfsL_law OK (code.length + 1) q.2 ⟨I.len, I.all, I.todo, by have := I.less; omega, I.m0, I.m1⟩ (fun k y e l => by
      rcases g.new k y e l with e2 | e2
      · simp only [List.getElem?_replicate] at e2
        split at e2
        · cases e2
          omega
        · cases e2
      · exact .inl e2) h
    exact ⟨b1, b4, b3 0 0 (hg hz0).2 (Int.le_refl _), b2⟩
/-- what is come to is closed -/
theorem Walked.closed {code : List In} {st : KSt} (w : Walked code st) (OK : CodeOk code) : ∀ k, (∃ h, st.heights[k]? = some h ∧ 0 ≤ h) → k < code.length ∧ ∀ x ∈ followAt code k, ∃ h, st.heights[x]? = some h ∧ 0 ≤ h := by
  rintro k ⟨h, hh, h0⟩
  obtain ⟨c, h1, h2, h3, h4, h5⟩ := w.done k h hh h0
  have ho := (OK.o c (List.mem_of_getElem? h1)).1
  refine ⟨(List.getElem?_eq_some_iff.1 h1).1, fun x hx => ?_⟩
  unfold followAt at hx
  rw [h1] at hx
  exact ⟨_, (h5 x hx).2, by omega⟩
/-- the first instruction from which one goes round -/
def firstR (code : List In) : Nat → List Int → Option Nat
  | _, [] => none
  | k, h :: r => bif decide (0 ≤ h) && roundL code k then some k else firstR code (k + 1) r
theorem firstR_none {code : List In} : ∀ (l : List Int) (k : Nat), firstR code k l = none → ∀ (j : Nat) (h : Int), l[j]? = some h → 0 ≤ h → roundL code (k + j) = false
  | [], _, _, j, h, hj, _ => by simp at hj
  | y :: r, k, hn, j, h, hj, h0 => by
    rw [firstR] at hn
    cases hc : (decide (0 ≤ y) && roundL code k) with
    | true => rw [hc] at hn; cases hn
    | false =>
      rw [hc] at hn
      cases j with
      | zero =>
        simp at hj
        subst hj
        rw [decide_eq_true h0] at hc
        simpa using hc
      | succ j =>
        have := firstR_none r (k + 1) hn j h (by simpa using hj) h0
        rwa [show k + 1 + j = k + (j + 1) by omega] at this
/-- the greatest span -/
def spanM (code : List In) : Nat → List Int → Nat → Nat
  | _, [], m => m
  | k, h :: r, m => spanM code (k + 1) r (bif decide (0 ≤ h) then max m (spF code (code.length + 1) k) else m)
/-- what is known of a program -/
structure Fa where
  heights : List Int
  most : Int
  span : Int
def noFa : Fa := ⟨[], 0, 0⟩
theorem inf_bounds (op : Int) : 0 ≤ (ofL op).1.i ∧ (ofL op).1.i ≤ 2 ∧ 0 ≤ (ofL op).1.o ∧ (ofL op).1.o ≤ 2 := by
  by_cases h : 0 ≤ op ∧ op ≤ 32
  · obtain ⟨k, rfl⟩ : ∃ k : Nat, op = k := ⟨op.toNat, by omega⟩
    have H : ∀ k : Fin 33, 0 ≤ (ofL (k.1 : Int)).1.i ∧ (ofL (k.1 : Int)).1.i ≤ 2 ∧ 0 ≤ (ofL (k.1 : Int)).1.o ∧ (ofL (k.1 : Int)).1.o ≤ 2 := by decide +kernel
    exact H ⟨k, by omega⟩
  · have e : ∀ j : Int, 0 ≤ j → j ≤ 32 → (op == j) = false := fun j h1 h2 => by rw [beq_eq_false_iff_ne]; omega
    simp only [ofL, waitsL, e 0 (by decide) (by decide), e 1 (by decide) (by decide), e 2 (by decide) (by decide), e 3 (by decide) (by decide), e 4 (by decide) (by decide), e 5 (by decide) (by decide), e 6 (by decide) (by decide), e 7 (by decide) (by decide), e 8 (by decide) (by decide), e 9 (by decide) (by decide), e 10 (by decide) (by decide), e 11 (by decide) (by decide), e 12 (by decide) (by decide), e 13 (by decide) (by decide), e 14 (by decide) (by decide), e 15 (by decide) (by decide), e 16 (by decide) (by decide), e 17 (by decide) (by decide), e 18 (by decide) (by decide), e 19 (by decide) (by decide), e 20 (by decide) (by decide), e 21 (by decide) (by decide), e 22 (by decide) (by decide), e 23 (by decide) (by decide), e 24 (by decide) (by decide), e 25 (by decide) (by decide), e 26 (by decide) (by decide), e 27 (by decide) (by decide), e 28 (by decide) (by decide), e 29 (by decide) (by decide), e 30 (by decide) (by decide), e 31 (by decide) (by decide), e 32 (by decide) (by decide), cond_false]
    decide
end Go.Va
