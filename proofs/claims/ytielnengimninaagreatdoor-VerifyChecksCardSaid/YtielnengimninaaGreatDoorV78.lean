/- the document's rounds and ways (foliotref13.Round, Paths): plain, and that they are the program's. -/
import Derived.Test.YtielnengimninaaGreatDoorV24
namespace Go.Va
open Go.Own Go.RowKit
/-- the followers of one instruction -/
def rowI (k0 : Nat) : List Nat → List Bool → Option (List Bool)
  | [], t => some t
  | x :: r, t => bif x == k0 then none else rowI k0 r (t.set x true)
/-- one time through the instructions, from i on -/
def passI (code : List In) (k0 : Nat) : Nat → Nat → List Bool → Option (List Bool)
  | 0, _, t => some t
  | m + 1, i, t => bif (t.getD i false) && !(restsAt code i) then (match rowI k0 (followAt code i) t with
      | none => none
      | some t' => passI code k0 m (i + 1) t') else passI code k0 m (i + 1) t
def roundN (code : List In) (k0 : Nat) : Nat → List Bool → Bool
  | 0, _ => false
  | k + 1, t => match passI code k0 code.length 0 t with
    | none => true
    | some t' => roundN code k0 k t'
def roundR (code : List In) (k0 : Nat) : Bool := bif restsAt code k0 then false else roundN code k0 code.length ((List.replicate code.length false).set k0 true)
/-- more is there -/
structure LeB (t t' : List Bool) : Prop where
  len : t'.length = t.length
  keep : ∀ j : Nat, t[j]? = some true → t'[j]? = some true
theorem LeB.refl (t : List Bool) : LeB t t := ⟨rfl, fun _ h => h⟩
theorem LeB.trans {a b c : List Bool} (h : LeB a b) (g : LeB b c) : LeB a c := ⟨g.len.trans h.len, fun j e => g.keep j (h.keep j e)⟩
theorem LeB.frees : ∀ {t t' : List Bool}, LeB t t' → frees t' ≤ frees t ∧ (frees t' = frees t → t' = t)
  | [], t', h => by
    have := h.len
    cases t' with
    | nil => exact ⟨Nat.le_refl _, fun _ => rfl⟩
    | cons a r => simp at this
  | a :: r, [], h => by have := h.len; simp at this
  | a :: r, b :: s, h => by
    have hr : LeB r s := ⟨by simpa using h.len, fun j e => by have := h.keep (j + 1) (by simpa using e); simpa using this⟩
    obtain ⟨h1, h2⟩ := LeB.frees hr
    have h0 := h.keep 0
    rw [Go.Va.frees, Go.Va.frees]
    cases a with
    | true =>
      have : b = true := by simpa using h0 rfl
      subst this
      simp only [cond_true]
      exact ⟨by omega, fun e => by rw [h2 (by omega)]⟩
    | false =>
      cases b with
      | true => simp only [cond_true, cond_false]; exact ⟨by omega, fun e => by omega⟩
      | false => simp only [cond_false]; exact ⟨by omega, fun e => by rw [h2 (by omega)]⟩
/-- who is there was come to -/
def ThereOk (code : List In) (k0 : Nat) (t : List Bool) : Prop := ∀ j : Nat, t[j]? = some true → j = k0 ∨ Way code k0 j
theorem set_there {t : List Bool} {x j : Nat} (h : (t.set x true)[j]? = some true) : j = x ∨ t[j]? = some true := by
  rw [List.getElem?_set] at h
  by_cases e : x = j
  · exact .inl e.symm
  · rw [if_neg e] at h; exact .inr h
theorem set_le (t : List Bool) (x : Nat) : LeB t (t.set x true) := ⟨List.length_set, fun j h => by
  rw [List.getElem?_set]
  by_cases e : x = j
  · subst e
    have := (List.getElem?_eq_some_iff.1 h).1
    simp [this]
  · rw [if_neg e]; exact h⟩
theorem rowI_law {code : List In} {k0 i : Nat} (hr : restsAt code k0 = false) (hi : i = k0 ∨ Way code k0 i) (hir : restsAt code i = false) : ∀ (l : List Nat) (t : List Bool), (∀ x ∈ l, x ∈ followAt code i) → ThereOk code k0 t →
    match rowI k0 l t with
    | none => Way code k0 k0
    | some t' => ThereOk code k0 t' ∧ LeB t t' ∧ ∀ x ∈ l, x ≠ k0 ∧ (x < t.length → t'[x]? = some true)
  | [], t, _, h => ⟨h, LeB.refl t, fun x hx => by cases hx⟩
  | x :: r, t, hl, h => by
    have hxf := hl x List.mem_cons_self
    have hwx : Way code k0 x := by
      rcases hi with rfl | hk
      · exact .one hr hxf
      · exact .more hk hir hxf
    rw [rowI]
    cases hx0 : (x == k0) with
    | true =>
      simp only [cond_true]
      rw [beq_iff_eq] at hx0
      rw [hx0] at hwx
      exact hwx
    | false =>
      simp only [cond_false]
      rw [beq_eq_false_iff_ne] at hx0
      have ih := rowI_law hr hi hir r (t.set x true) (fun y hy => hl y (List.mem_cons_of_mem _ hy)) (fun j hj => (set_there hj).elim (fun e => .inr (e ▸ hwx)) (h j))
      revert ih
      cases rowI k0 r (t.set x true) with
      | none => exact id
      | some t' =>
        rintro ⟨a1, a2, a3⟩
        refine ⟨a1, (set_le t x).trans a2, fun y hy => ?_⟩
        rcases List.mem_cons.1 hy with rfl | hy
        · exact ⟨hx0, fun hl => a2.keep y (by rw [List.getElem?_set_self hl])⟩
        · exact ⟨(a3 y hy).1, fun hl => (a3 y hy).2 (by rw [List.length_set]; exact hl)⟩
theorem passI_law {code : List In} {k0 : Nat} (hr : restsAt code k0 = false) : ∀ (m i : Nat) (t : List Bool), ThereOk code k0 t →
    match passI code k0 m i t with
    | none => Way code k0 k0
    | some t' => ThereOk code k0 t' ∧ LeB t t' ∧ ∀ j, i ≤ j → j < i + m → t[j]? = some true → restsAt code j = false → ∀ x ∈ followAt code j, x ≠ k0 ∧ (x < t.length → t'[x]? = some true)
  | 0, i, t, h => ⟨h, LeB.refl t, fun j h1 h2 => by omega⟩
  | m + 1, i, t, h => by
    rw [passI]
    cases hc : ((t.getD i false) && !(restsAt code i)) with
    | false =>
      simp only [cond_false]
      have ih := passI_law hr m (i + 1) t h
      revert ih
      cases passI code k0 m (i + 1) t with
      | none => exact id
      | some t' =>
        rintro ⟨a1, a2, a3⟩
        refine ⟨a1, a2, fun j h1 h2 hj hrj => ?_⟩
        by_cases e : i = j
        · subst e
          rw [hrj, List.getD_eq_getElem?_getD, hj] at hc
          cases hc
        · exact a3 j (by omega) (by omega) hj hrj
    | true =>
      simp only [cond_true]
      rw [Bool.and_eq_true, Bool.not_eq_true'] at hc
      have hti : t[i]? = some true := by
        have := hc.1
        rw [List.getD_eq_getElem?_getD] at this
        cases hg : t[i]? with
        | none => rw [hg] at this; cases this
        | some b => rw [hg] at this; rw [Option.getD_some] at this; rw [this]
      have hrow := rowI_law hr (h i hti) hc.2 (followAt code i) t (fun x hx => hx) h
      revert hrow
      cases rowI k0 (followAt code i) t with
      | none => exact id
      | some t1 =>
        rintro ⟨b1, b2, b3⟩
        have ih := passI_law hr m (i + 1) t1 b1
        dsimp only
        revert ih
        cases passI code k0 m (i + 1) t1 with
        | none => exact id
        | some t' =>
          rintro ⟨a1, a2, a3⟩
          refine ⟨a1, b2.trans a2, fun j h1 h2 hj hrj x hx => ?_⟩
          by_cases e : i = j
          · subst e
            exact ⟨(b3 x hx).1, fun hl => a2.keep x ((b3 x hx).2 hl)⟩
          · have := a3 j (by omega) (by omega) (b2.keep j hj) hrj x hx
            exact ⟨this.1, fun hl => this.2 (by rw [b2.len]; exact hl)⟩
theorem roundN_sound {code : List In} {k0 : Nat} (hr : restsAt code k0 = false) : ∀ (k : Nat) (t : List Bool), ThereOk code k0 t → roundN code k0 k t = true → Way code k0 k0
  | 0, t, _, h => by cases h
  | k + 1, t, ht, h => by
    rw [roundN] at h
    have hp := passI_law hr code.length 0 t ht
    revert hp h
    cases passI code k0 code.length 0 t with
    | none => exact fun _ h => h
    | some t' => exact fun h hp => roundN_sound hr k t' hp.1 h
theorem roundN_all {code : List In} {k0 : Nat} (hr : restsAt code k0 = false) (hcl : ∀ k x, Way code k0 k ∨ k = k0 → x ∈ followAt code k → x < code.length) (hw : Way code k0 k0) : ∀ (k : Nat) (t : List Bool), ThereOk code k0 t → t.length = code.length → t[k0]? = some true → frees t < k → roundN code k0 k t = true
  | 0, t, _, _, _, h => by omega
  | k + 1, t, ht, hn, h0, hf => by
    rw [roundN]
    have hp := passI_law hr code.length 0 t ht
    revert hp
    cases passI code k0 code.length 0 t with
    | none => exact fun _ => rfl
    | some t' =>
      rintro ⟨a1, a2, a3⟩
      dsimp only
      obtain ⟨f1, f2⟩ := a2.frees
      refine roundN_all hr hcl hw k t' a1 (a2.len.trans hn) (a2.keep _ h0) ?_
      by_cases e : frees t' = frees t
      · exfalso
        have ett := f2 e
        subst ett
        have cl : ∀ p x, Way code p x → p = k0 → x ≠ k0 ∧ t'[x]? = some true := by
          intro p x h
          induction h with
          | one h1 h2 =>
            rintro rfl
            have hpl := (List.getElem?_eq_some_iff.1 h0).1
            have := a3 _ (Nat.zero_le _) (by omega) h0 h1 _ h2
            exact ⟨this.1, this.2 (by rw [hn]; exact hcl _ _ (.inr rfl) h2)⟩
          | more h1 h2 h3 ih =>
            rintro rfl
            obtain ⟨_, i2⟩ := ih rfl
            have hpl := (List.getElem?_eq_some_iff.1 i2).1
            have := a3 _ (Nat.zero_le _) (by omega) i2 h2 _ h3
            exact ⟨this.1, this.2 (by rw [hn]; exact hcl _ _ (.inl h1) h3)⟩
        exact (cl k0 k0 hw rfl).1 rfl
      · omega
/-- the document's rounds are the program's -/
theorem roundR_eq {code : List In} {k0 : Nat} (hk : k0 < code.length) (hcl : ∀ k x, Way code k0 k ∨ k = k0 → x ∈ followAt code k → x < code.length) : roundR code k0 = roundL code k0 := by
  rw [Bool.eq_iff_iff, roundL_law hcl]
  unfold roundR
  cases hr : restsAt code k0 with
  | true => simp
  | false =>
    simp only [cond_false, true_and]
    have ht : ThereOk code k0 ((List.replicate code.length false).set k0 true) := fun j hj => (set_there hj).elim .inl (fun h => by
      rw [List.getElem?_replicate] at h
      split at h <;> cases h)
    refine ⟨roundN_sound hr _ _ ht, fun hw => roundN_all hr hcl hw _ _ ht (by simp) (by rw [List.getElem?_set_self (by simpa using hk)]) ?_⟩
    have h1 : (List.replicate code.length false)[k0]? = some false := by rw [List.getElem?_replicate, if_pos hk]
    have h2 := frees_set _ _ h1
    rw [frees_replicate] at h2
    omega
/-- the longest way from an instruction on, within so many steps more than one -/
def pathF (code : List In) : Nat → Nat → Nat
  | 0, _ => 1
  | f + 1, k => bif restsAt code k then 1 else (followAt code k).foldl (fun n x => if x < code.length ∧ n < pathF code f x + 1 then pathF code f x + 1 else n) 1
theorem pathF_bd (code : List In) : ∀ (f k : Nat), 1 ≤ pathF code f k ∧ pathF code f k ≤ f + 1
  | 0, _ => ⟨Nat.le_refl _, Nat.le_refl _⟩
  | f + 1, k => by
    rw [pathF]
    cases restsAt code k with
    | true => exact ⟨Nat.le_refl _, by simp only [cond_true]; omega⟩
    | false =>
      simp only [cond_false]
      have key : ∀ (l : List Nat) (a : Nat), 1 ≤ a → a ≤ f + 2 → 1 ≤ l.foldl (fun n x => if x < code.length ∧ n < pathF code f x + 1 then pathF code f x + 1 else n) a ∧ l.foldl (fun n x => if x < code.length ∧ n < pathF code f x + 1 then pathF code f x + 1 else n) a ≤ f + 2 := by
        intro l
        induction l with
        | nil => exact fun a h1 h2 => ⟨h1, h2⟩
        | cons x r ih =>
          intro a h1 h2
          rw [List.foldl_cons]
          have := (pathF_bd code f x).2
          split
          · exact ih _ (by omega) (by omega)
          · exact ih _ h1 h2
      exact key _ 1 (Nat.le_refl _) (by omega)
theorem path_sp {code : List In} {Rc : Nat → Prop} (hcl : ∀ k, Rc k → k < code.length ∧ ∀ x ∈ followAt code k, Rc x) : ∀ (f k : Nat), Rc k → pathF code f k = spF code (f + 1) k
  | 0, k, h => by
    rw [pathF, spF]
    cases restsAt code k with
    | true => rfl
    | false =>
      simp only [cond_false]
      have : ∀ l : List Nat, l.foldl (fun n x => max n (spF code 0 x)) 0 = 0 := fun l => by
        induction l with
        | nil => rfl
        | cons x r ih => rw [List.foldl_cons]; exact ih
      rw [this]
  | f + 1, k, h => by
    rw [pathF, spF]
    cases restsAt code k with
    | true => rfl
    | false =>
      simp only [cond_false]
      have key : ∀ (l : List Nat) (a b : Nat), (∀ x ∈ l, Rc x) → a = b + 1 → l.foldl (fun n x => if x < code.length ∧ n < pathF code f x + 1 then pathF code f x + 1 else n) a = l.foldl (fun n x => max n (spF code (f + 1) x)) b + 1 := by
        intro l
        induction l with
        | nil => exact fun a b _ h => h
        | cons x r ih =>
          intro a b hx hab
          have hr := hx x List.mem_cons_self
          rw [List.foldl_cons, List.foldl_cons, path_sp hcl f x hr]
          refine ih _ _ (fun y hy => hx y (List.mem_cons_of_mem _ hy)) ?_
          have := (hcl x hr).1
          split <;> omega
      exact key _ 1 0 (fun x hx => (hcl k h).2 x hx) rfl
/-- the signs of an instruction -/
theorem inf_signs (op : Int) (h : (ofL op).2 = true) : 0 ≤ op ∧ op < 33 ∧ (ofL op).1.ends = (op == 25 || op == 26 || op == 27) ∧ (ofL op).1.blocks = (op == 18 || op == 21 || op == 22 || op == 28) ∧ (ofL op).1.flow = (op == 11 || op == 12) := by
  have hop : 0 ≤ op ∧ op ≤ 32 := by
    by_cases h0 : 0 ≤ op ∧ op ≤ 32
    · exact h0
    · exfalso
      have e : ∀ j : Int, 0 ≤ j → j ≤ 32 → (op == j) = false := fun j h1 h2 => by rw [beq_eq_false_iff_ne]; omega
      revert h
      simp only [ofL, waitsL, e 0 (by decide) (by decide), e 1 (by decide) (by decide), e 2 (by decide) (by decide), e 3 (by decide) (by decide), e 4 (by decide) (by decide), e 5 (by decide) (by decide), e 6 (by decide) (by decide), e 7 (by decide) (by decide), e 8 (by decide) (by decide), e 9 (by decide) (by decide), e 10 (by decide) (by decide), e 11 (by decide) (by decide), e 12 (by decide) (by decide), e 13 (by decide) (by decide), e 14 (by decide) (by decide), e 15 (by decide) (by decide), e 16 (by decide) (by decide), e 17 (by decide) (by decide), e 18 (by decide) (by decide), e 19 (by decide) (by decide), e 20 (by decide) (by decide), e 21 (by decide) (by decide), e 22 (by decide) (by decide), e 23 (by decide) (by decide), e 24 (by decide) (by decide), e 25 (by decide) (by decide), e 26 (by decide) (by decide), e 27 (by decide) (by decide), e 28 (by decide) (by decide), e 29 (by decide) (by decide), e 30 (by decide) (by decide), e 31 (by decide) (by decide), e 32 (by decide) (by decide), cond_false]
      decide
  refine ⟨hop.1, by omega, ?_⟩
  obtain ⟨k, rfl⟩ : ∃ k : Nat, op = k := ⟨op.toNat, by omega⟩
  have H : ∀ k : Fin 33, (ofL (k.1 : Int)).1.ends = ((k.1 : Int) == 25 || (k.1 : Int) == 26 || (k.1 : Int) == 27) ∧ (ofL (k.1 : Int)).1.blocks = ((k.1 : Int) == 18 || (k.1 : Int) == 21 || (k.1 : Int) == 22 || (k.1 : Int) == 28) ∧ (ofL (k.1 : Int)).1.flow = ((k.1 : Int) == 11 || (k.1 : Int) == 12) := by decide +kernel
  exact H ⟨k, by omega⟩
end Go.Va
