/- The document's timers: a list in order; what is put in, taken out, due: plain lists. -/
import Derived.Test.YtkhphnidopbjjaaTz
import Derived.Test.YtkhphnidopbjjaaLib5
namespace Go.Hm
open Go.Own Go.Own.MapTy
/-- a thing that waits -/
structure Th where
  run : Int
  kind : Int
  id : Int
  due : Int
deriving DecidableEq
def It.th (x : It) : Th := ⟨x.run, x.kind, x.id, x.due⟩
def Th.key (x : Th) : Ky := ⟨x.run, x.kind, x.id⟩
theorem It.th_key (x : It) : x.th.key = x.key := rfl
/-- does one stand ahead of another one -/
def bef (a b : Th) : Bool := decide (a.due < b.due ∨ a.due = b.due ∧ (a.run < b.run ∨ a.run = b.run ∧ (a.kind < b.kind ∨ a.kind = b.kind ∧ a.id < b.id)))
theorem bef_iff {a b : Th} : bef a b = true ↔ a.due < b.due ∨ a.due = b.due ∧ (a.run < b.run ∨ a.run = b.run ∧ (a.kind < b.kind ∨ a.kind = b.kind ∧ a.id < b.id)) := by simp [bef]
theorem bef_asymm {a b : Th} (h : bef a b = true) : bef b a = false := by
  rw [Bool.eq_false_iff]; intro h2; rw [bef_iff] at h h2; omega
theorem bef_irrefl (a : Th) : bef a a = false := by
  rw [Bool.eq_false_iff]; intro h2; rw [bef_iff] at h2; omega
theorem bef_trans {a b c : Th} (h1 : bef a b = true) (h2 : bef b c = true) : bef a c = true := by
  rw [bef_iff] at *; omega
/-- of two that aren't one, one stands ahead -/
theorem bef_total {a b : Th} (h1 : bef a b = false) (h : a.key ≠ b.key) : bef b a = true := by
  rw [bef_iff]
  have h1' : ¬ bef a b = true := by simp [h1]
  rw [bef_iff] at h1'
  by_cases hr : a.run = b.run
  · by_cases hk : a.kind = b.kind
    · by_cases hi : a.id = b.id
      · exact absurd (by simp [Th.key, hr, hk, hi]) h
      · omega
    · omega
  · omega
theorem perm_sorted {α : Type} (r : α → α → Bool) (asy : ∀ a b, r a b = true → r b a = false) : ∀ (xs ys : List α), ys.Perm xs → ys.Pairwise (fun a b => r b a = false) → xs.Pairwise (fun a b => r a b = true) → ys = xs
  | [], ys, h, _, _ => by simpa using h.eq_nil
  | x :: xs, [], h, _, _ => by simpa using h.symm.eq_nil
  | x :: xs, y :: ys, h, h1, h2 => by
    have e : y = x := by
      rcases List.mem_cons.1 (h.mem_iff.1 (by simp : y ∈ y :: ys)) with e | hy
      · exact e
      · rcases List.mem_cons.1 (h.mem_iff.2 (by simp : x ∈ x :: xs)) with e | hx
        · exact e.symm
        · have a1 := (List.pairwise_cons.1 h2).1 y hy
          have a2 := (List.pairwise_cons.1 h1).1 x hx
          rw [a1] at a2; cases a2
    subst e
    rw [perm_sorted r asy xs ys h.cons_inv (List.pairwise_cons.1 h1).2 (List.pairwise_cons.1 h2).2]
/-- a thing put in, behind those that stand ahead of it -/
def insT (x : Th) : List Th → List Th
  | [] => [x]
  | y :: r => if bef y x then y :: insT x r else x :: y :: r
theorem insT_perm (x : Th) : ∀ l : List Th, (insT x l).Perm (x :: l)
  | [] => .refl _
  | y :: r => by
    simp only [insT]
    split
    · exact ((insT_perm x r).cons y).trans (.swap x y r)
    · exact .refl _
theorem insT_sorted (x : Th) : ∀ l : List Th, l.Pairwise (fun a b => bef a b = true) → (∀ y ∈ l, y.key ≠ x.key) → (insT x l).Pairwise (fun a b => bef a b = true)
  | [], _, _ => by simp [insT]
  | y :: r, h, hk => by
    have h' := List.pairwise_cons.1 h
    simp only [insT]
    split
    · rename_i hb
      refine List.pairwise_cons.2 ⟨fun z hz => ?_, insT_sorted x r h'.2 (fun z hz => hk z (by simp [hz]))⟩
      rcases List.mem_cons.1 ((insT_perm x r).mem_iff.1 hz) with rfl | hz
      · exact hb
      · exact h'.1 z hz
    · rename_i hb
      have hxy := bef_total (by simpa using hb) (hk y (by simp))
      refine List.pairwise_cons.2 ⟨fun z hz => ?_, h⟩
      rcases List.mem_cons.1 hz with rfl | hz
      · exact hxy
      · exact bef_trans hxy (h'.1 z hz)
/-- how many stand ahead -/
def befN (x : Th) : List Th → Nat
  | [] => 0
  | y :: r => if bef y x then befN x r + 1 else 0
theorem befN_le (x : Th) : ∀ l : List Th, befN x l ≤ l.length
  | [] => Nat.le_refl _
  | y :: r => by have := befN_le x r; simp only [befN]; split <;> simp <;> omega
theorem insT_eq (x : Th) : ∀ l : List Th, insT x l = l.take (befN x l) ++ [x] ++ l.drop (befN x l)
  | [] => rfl
  | y :: r => by
    simp only [insT, befN]
    split
    · simp only [List.take_succ_cons, List.drop_succ_cons, List.cons_append, insT_eq x r]
    · simp
theorem befN_lt (x : Th) : ∀ (l : List Th) (i : Nat) (y : Th), i < befN x l → l[i]? = some y → bef y x = true
  | [], i, y, h, _ => by simp [befN] at h
  | z :: r, i, y, h, hy => by
    simp only [befN] at h
    split at h
    · rename_i hb
      cases i with
      | zero => simp at hy; subst hy; exact hb
      | succ i => exact befN_lt x r i y (by omega) (by simpa using hy)
    · omega
theorem befN_at (x : Th) : ∀ (l : List Th) (y : Th), l[befN x l]? = some y → bef y x = false
  | [], y, h => by simp at h
  | z :: r, y, h => by
    simp only [befN] at h
    split at h
    · exact befN_at x r y (by simpa using h)
    · rename_i hb; simp at h; subst h; simpa using hb
/-- the place of a thing, or -1 -/
def idxT (k : Ky) : List Th → Nat → Int
  | [], _ => -1
  | x :: r, i => if x.key = k then i else idxT k r (i + 1)
def putL (l : List Th) (x : Th) : List Th × Int := if l.any (fun y => decide (y.key = x.key)) then (l, 5) else (insT x l, 0)
/-- an event: what waits then -/
def applyL (l : List Th) (run : Int) (e : Ev) : List Th × Int :=
  if e.kind = 1 then (if 0 < e.a then putL l ⟨run, 2, 0, satI e.time e.a⟩ else (l, 0))
  else if e.kind = 11 then putL l ⟨run, 1, e.a, e.b⟩
  else if e.kind = 12 ∨ e.kind = 13 then (if l.any (fun y => decide (y.key = ⟨run, 1, e.a⟩)) then (l.filter (fun y => !decide (y.key = ⟨run, 1, e.a⟩)), 0) else (l, 4))
  else if 16 ≤ e.kind ∧ e.kind ≤ 21 then (l.filter (fun y => !(y.run == run)), 0)
  else (l, 0)
/-- l: the heap's things, in the document's order -/
structure TRef (Z : List It) (l : List Th) : Prop where
  perm : (Z.map It.th).Perm l
  sorted : l.Pairwise (fun a b => bef a b = true)
theorem TRef.nil : TRef [] [] := ⟨.refl _, .nil⟩
theorem TRef.len {Z : List It} {l : List Th} (h : TRef Z l) : l.length = Z.length := by rw [← h.perm.length_eq, List.length_map]
theorem TRef.any {Z : List It} {l : List Th} (h : TRef Z l) (k : Ky) : l.any (fun y => decide (y.key = k)) = Z.any (fun x => decide (x.key = k)) := by
  rw [← h.perm.any_eq, List.any_map]; rfl
theorem TRef.filter {Z : List It} {l : List Th} (h : TRef Z l) (p : It → Bool) (q : Th → Bool) (hp : ∀ x : It, q x.th = p x) : TRef (Z.filter p) (l.filter q) := by
  refine ⟨?_, h.sorted.sublist List.filter_sublist⟩
  have := h.perm.filter q
  rw [List.filter_map] at this
  have e : (q ∘ It.th) = p := funext fun x => hp x
  rw [e] at this
  exact this
theorem TRef.put {Z : List It} {l : List Th} (h : TRef Z l) (sq : Int) (k : Ky) (d : Int) : (putL l ⟨k.run, k.kind, k.id, d⟩).2 = (putZ sq Z k d).2.2 ∧ TRef (putZ sq Z k d).1 (putL l ⟨k.run, k.kind, k.id, d⟩).1 := by
  unfold putL putZ
  have ha := h.any k
  have hk : (⟨k.run, k.kind, k.id, d⟩ : Th).key = k := rfl
  simp only [hk]
  rw [ha]
  by_cases hz : Z.any (fun x => decide (x.key = k)) = true
  · rw [if_pos hz, if_pos hz]; exact ⟨rfl, h⟩
  · rw [if_neg hz, if_neg hz]
    refine ⟨rfl, ?_, insT_sorted _ _ h.sorted fun y hy e => ?_⟩
    · have h1 := (insIt_perm ⟨k.run, k.kind, k.id, d, sq + 1⟩ Z).map It.th
      exact (h1.trans (h.perm.cons _)).trans (insT_perm _ l).symm
    · rw [← ha] at hz
      exact hz (List.any_eq_true.2 ⟨y, hy, decide_eq_true e⟩)
theorem TRef.apply {Z : List It} {l : List Th} (h : TRef Z l) (sq run : Int) (e : Ev) : (applyL l run e).2 = (applyZ sq Z run e).2.2 ∧ TRef (applyZ sq Z run e).1 (applyL l run e).1 := by
  unfold applyL applyZ
  by_cases g1 : e.kind = 1
  · rw [if_pos g1, if_pos g1]
    by_cases ga : 0 < e.a
    · rw [if_pos ga, if_pos ga]; exact h.put sq ⟨run, 2, 0⟩ _
    · rw [if_neg ga, if_neg ga]; exact ⟨rfl, h⟩
  · rw [if_neg g1, if_neg g1]
    by_cases g2 : e.kind = 11
    · rw [if_pos g2, if_pos g2]; exact h.put sq ⟨run, 1, e.a⟩ _
    · rw [if_neg g2, if_neg g2]
      by_cases g3 : e.kind = 12 ∨ e.kind = 13
      · rw [if_pos g3, if_pos g3, h.any]
        unfold cancelZ
        by_cases hz : Z.any (fun x => decide (x.key = ⟨run, 1, e.a⟩)) = true
        · rw [if_pos hz, if_pos hz]
          exact ⟨rfl, h.filter _ _ fun x => rfl⟩
        · rw [if_neg hz, if_neg hz]; exact ⟨rfl, h⟩
      · rw [if_neg g3, if_neg g3]
        by_cases g4 : 16 ≤ e.kind ∧ e.kind ≤ 21
        · rw [if_pos g4, if_pos g4]; exact ⟨rfl, h.filter _ _ fun x => rfl⟩
        · rw [if_neg g4, if_neg g4]; exact ⟨rfl, h⟩
/-- what is in the queue's own order, by the timers' comparison, is the document's list -/
theorem TRef.uniq {Z ys : List It} {l : List Th} (h : TRef Z l) (hp : (ys.map It.th).Perm (Z.map It.th)) (hs : (ys.map It.th).Pairwise (fun a b => bef b a = false)) : ys.map It.th = l :=
  perm_sorted bef (fun _ _ h => bef_asymm h) l _ (hp.trans h.perm) hs h.sorted
/-- what is written: a run, a tick, a kind, a number -/
structure Fr where
  run : Int
  time : Int
  kind : Int
  a : Int
def frEnc (x : Fr) : List Value := [.int .i64 x.run, .int .i64 0, .int .i64 x.time, .int .i64 x.kind, .int .i64 x.a, .int .i64 0, .string .empty, .string .empty, .int .i64 0, .int .i64 0, .string .empty, .slice none 0 0]
instance : Cells Fr where
  sz := 12
  enc := frEnc
  len := fun _ => rfl
  one := by
    intro x v hv
    simp [frEnc] at hv
    rcases hv with rfl | rfl | rfl | rfl | rfl | rfl | rfl | rfl | rfl | rfl <;> rfl
def thEnc (x : Th) : List Value := [.int .i64 x.run, .int .i64 x.kind, .int .i64 x.id, .int .i64 x.due]
instance : Cells Th where
  sz := 4
  enc := thEnc
  len := fun _ => rfl
  one := by
    intro x v hv
    simp [thEnc] at hv
    rcases hv with rfl | rfl | rfl | rfl <;> rfl
/-- whose runs are over -/
def over (m : List (Int × Bool)) (r : Int) : Bool := (get m r).getD false
def fireOf (now : Int) (x : Th) : Fr := if x.kind = 2 then ⟨x.run, now, 20, 0⟩ else ⟨x.run, now, 12, x.id⟩
def fireM (m : List (Int × Bool)) (x : Th) : List (Int × Bool) := if over m x.run = true then m else if x.kind = 2 then upd m x.run true else m
/-- what is to be written of things that are due, in order -/
def firesL (now : Int) : List Th → List (Int × Bool) → List Fr
  | [], _ => []
  | x :: r, m => if over m x.run = true then firesL now r m else fireOf now x :: firesL now r (fireM m x)
def firesM : List Th → List (Int × Bool) → List (Int × Bool)
  | [], m => m
  | x :: r, m => firesM r (fireM m x)
theorem firesM_append : ∀ (l r : List Th) (m : List (Int × Bool)), firesM (l ++ r) m = firesM r (firesM l m)
  | [], _, _ => rfl
  | x :: l, r, m => by simp only [List.cons_append, firesM]; exact firesM_append l r _
theorem firesL_append (now : Int) : ∀ (l r : List Th) (m : List (Int × Bool)), firesL now (l ++ r) m = firesL now l m ++ firesL now r (firesM l m)
  | [], _, _ => rfl
  | x :: l, r, m => by
    simp only [List.cons_append, firesL, firesM]
    by_cases h : over m x.run = true
    · rw [if_pos h, if_pos h]; have : fireM m x = m := by simp [fireM, h]
      rw [this]; exact firesL_append now l r m
    · rw [if_neg h, if_neg h, firesL_append now l r _]; rfl
theorem firesL_len (now : Int) : ∀ (l : List Th) (m : List (Int × Bool)), (firesL now l m).length ≤ l.length
  | [], _ => by simp [firesL]
  | x :: l, m => by
    simp only [firesL]
    split
    · have := firesL_len now l m; simp; omega
    · have := firesL_len now l (fireM m x); simp; omega
def dueTh (now : Int) (l : List Th) : List Th := l.filter (fun x => decide (x.due ≤ now))
end Go.Hm
