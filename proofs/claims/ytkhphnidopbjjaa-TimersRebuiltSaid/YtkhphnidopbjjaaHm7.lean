/- The heap and the document's queue: what is done to the one is done to the other: plain lists. -/
import Derived.Test.YtkhphnidopbjjaaHm6
import Derived.Test.YtkhphnidopbjjaaR4
namespace Go.Hm
open Go.Own Go.Own.MapTy

def toR (x : It) : RIt := ⟨x.run, x.kind, x.id, x.due, x.seq⟩
/-- Z: the heap's things, in order -/
structure Ref (s : Hp) (Z : List It) : Prop where
  good : Good s
  perm : Z.Perm s.L
  sorted : Z.Pairwise le
  seq : ∀ x ∈ Z, x.seq ≤ s.seq
  nd : (Z.map It.seq).Nodup
theorem Ref.zero : Ref ⟨[], [], 0⟩ [] := ⟨Good.zero, .refl _, .nil, by simp, by simp⟩
theorem Ref.len {s : Hp} {Z : List It} (h : Ref s Z) : Z.length = s.L.length := h.perm.length_eq
theorem Ref.anti {s : Hp} {Z : List It} (h : Ref s Z) : ∀ a ∈ Z, ∀ b ∈ Z, le a b → le b a → a = b := by
  intro a ha b hb h1 h2
  obtain ⟨i, hi, rfl⟩ := List.getElem_of_mem ha
  obtain ⟨j, hj, rfl⟩ := List.getElem_of_mem hb
  have e := (le_antisymm_seq h1 h2).2
  have : i = j := by
    refine (List.getElem?_inj (by simpa using hi) h.nd).1 ?_
    simp [hi, hj, e]
  subst this
  rfl
/-- a sorted list of the heap's things is this one -/
theorem Ref.uniq {s : Hp} {Z xs : List It} (h : Ref s Z) (hp : xs.Perm s.L) (hs : xs.Pairwise le) : xs = Z :=
  (sorted_unique (h.perm.trans hp.symm) h.sorted hs h.anti).symm
theorem Ref.get_some {s : Hp} {Z : List It} (h : Ref s Z) {i : Nat} {x : It} (hx : Z[i]? = some x) : ∃ j : Nat, get s.M x.key = some (j : Int) ∧ s.L[j]? = some x := by
  have hm := h.perm.mem_iff.1 (List.mem_of_getElem? hx)
  obtain ⟨j, hj, rfl⟩ := List.getElem_of_mem hm
  exact ⟨j, h.good.idx.at_ j _ (by simp), by simp⟩
theorem Ref.get_none {s : Hp} {Z : List It} (h : Ref s Z) {k : Ky} (hk : ∀ (i : Nat) x, Z[i]? = some x → x.key ≠ k) : get s.M k = none := by
  cases hg : get s.M k with
  | none => rfl
  | some v =>
    obtain ⟨j, y, _, h2, h3⟩ := h.good.idx.only k v hg
    have hm := h.perm.mem_iff.2 (List.mem_of_getElem? h2)
    obtain ⟨i, hi, rfl⟩ := List.getElem_of_mem hm
    exact absurd h3 (hk i _ (by simp))
theorem toR_at {Z : List It} {i : Nat} {y : RIt} (h : (Z.map toR)[i]? = some y) : ∃ x, Z[i]? = some x ∧ y = toR x := by
  rw [List.getElem?_map] at h
  cases hz : Z[i]? with
  | none => rw [hz] at h; cases h
  | some x => rw [hz] at h; cases h; exact ⟨x, rfl, rfl⟩
theorem is_toR (x : It) (a b c : Int) : (toR x).is a b c ↔ x.key = ⟨a, b, c⟩ := by
  simp [RIt.is, toR, It.key]
/-- what Find says, of the heap -/
theorem Ref.find {s : Hp} {Z : List It} (h : Ref s Z) {a b c r : Int} (hF : FindAt (Z.map toR) a b c r) :
    (∃ (i j : Nat) (x : It), r = i ∧ Z[i]? = some x ∧ x.key = ⟨a, b, c⟩ ∧ get s.M ⟨a, b, c⟩ = some (j : Int) ∧ s.L[j]? = some x) ∨ (r = -1 ∧ get s.M ⟨a, b, c⟩ = none ∧ ∀ (i : Nat) y, (Z.map toR)[i]? = some y → ¬ y.is a b c) := by
  rcases hF with ⟨i, y, rfl, h1, h2, _⟩ | ⟨rfl, h1⟩
  · obtain ⟨x, hx, rfl⟩ := toR_at h1
    have hk := (is_toR x a b c).1 h2
    obtain ⟨j, h3, h4⟩ := h.get_some hx
    exact .inl ⟨i, j, x, rfl, hx, hk, hk ▸ h3, h4⟩
  · refine .inr ⟨rfl, h.get_none fun i x hx hk => h1 i (toR x) (by simp [hx]) ((is_toR x a b c).2 hk), h1⟩
/-- a thing put in, behind those that are due no later -/
def insIt (x : It) : List It → List It
  | [] => [x]
  | y :: r => if x.due < y.due then x :: y :: r else y :: insIt x r
theorem insIt_map (x : It) : ∀ Z : List It, (insIt x Z).map toR = insR (toR x) (Z.map toR)
  | [] => rfl
  | y :: r => by
    simp only [insIt, List.map_cons, insR]
    by_cases h : x.due < y.due
    · rw [if_pos h, if_pos (show (toR x).due < (toR y).due from h)]; rfl
    · rw [if_neg h, if_neg (show ¬ (toR x).due < (toR y).due from h), List.map_cons, insIt_map x r]
theorem insIt_perm (x : It) : ∀ Z : List It, (insIt x Z).Perm (x :: Z)
  | [] => .refl _
  | y :: r => by
    simp only [insIt]
    split
    · exact .refl _
    · exact ((insIt_perm x r).cons y).trans (.swap x y r)
theorem insIt_sorted (x : It) : ∀ Z : List It, Z.Pairwise le → (∀ y ∈ Z, y.seq ≤ x.seq) → (insIt x Z).Pairwise le
  | [], _, _ => by simp [insIt]
  | y :: r, h, hs => by
    have h' := List.pairwise_cons.1 h
    simp only [insIt]
    split
    · rename_i hd
      refine List.pairwise_cons.2 ⟨fun z hz => ?_, h⟩
      rcases List.mem_cons.1 hz with rfl | hz
      · exact .inl hd
      · exact le_trans (.inl hd) (h'.1 z hz)
    · rename_i hd
      refine List.pairwise_cons.2 ⟨fun z hz => ?_, insIt_sorted x r h'.2 (fun z hz => hs z (by simp [hz]))⟩
      rcases List.mem_cons.1 ((insIt_perm x r).mem_iff.1 hz) with rfl | hz
      · have := hs y (by simp)
        unfold le
        omega
      · exact h'.1 z hz
theorem Ref.put {s : Hp} {Z : List It} (h : Ref s Z) {k : Ky} {d : Int} (hk : get s.M k = none) (hl : Z.length < 16384) :
    ∃ s', s.put k d = (s', 0) ∧ Ref s' (insIt ⟨k.run, k.kind, k.id, d, s.seq + 1⟩ Z) ∧ s'.seq = s.seq + 1 := by
  obtain ⟨h1, h2, h3, h4⟩ := h.good.put (k := k) (due := d) (by simp [hk]) (by rw [← h.len]; omega)
  refine ⟨(s.put k d).1, by rw [← h4], ⟨h1, ?_, insIt_sorted _ _ h.sorted (fun y hy => ?_), fun y hy => ?_, ?_⟩, h3⟩
  · refine (insIt_perm _ Z).trans (((h.perm.cons _).trans ?_).trans h2.symm)
    exact (List.perm_append_comm (l₁ := [_])).trans (.refl _)
  · have := h.seq y hy
    show y.seq ≤ s.seq + 1
    omega
  · rw [h3]
    rcases List.mem_cons.1 ((insIt_perm _ Z).mem_iff.1 hy) with rfl | hy
    · exact Int.le_refl _
    · have := h.seq y hy; omega
  · refine (((insIt_perm ⟨k.run, k.kind, k.id, d, s.seq + 1⟩ Z).map It.seq).nodup_iff).2 ?_
    rw [List.map_cons]
    refine List.nodup_cons.2 ⟨fun hm => ?_, h.nd⟩
    obtain ⟨y, hy, e⟩ := List.mem_map.1 hm
    have := h.seq y hy
    have e' : y.seq = s.seq + 1 := e
    omega
theorem put_there {s : Hp} {k : Ky} {d : Int} {i : Int} (hk : get s.M k = some i) : s.put k d = (s, 5) := put_twice (by simp [hk])
theorem woutR_none : ∀ (k : Nat) (q : List RIt) (a : Int), a < k → woutR a k q = q
  | _, [], _, _ => rfl
  | k, x :: r, a, h => by
    rw [woutR, if_neg (by omega), woutR_none (k + 1) r a (by omega)]
theorem woutR_at : ∀ (k : Nat) (Z : List It) (i : Nat), woutR ((k + i : Nat) : Int) k (Z.map toR) = (Z.eraseIdx i).map toR
  | k, [], i => by simp [woutR]
  | k, x :: r, 0 => by
    rw [List.map_cons, woutR, if_pos (by simp), woutR_none _ _ _ (by omega)]; rfl
  | k, x :: r, i + 1 => by
    rw [List.map_cons, woutR, if_neg (by omega), List.eraseIdx_cons_succ, List.map_cons]
    have := woutR_at (k + 1) r i
    rw [show k + 1 + i = k + (i + 1) by omega] at this
    rw [this]
theorem Ref.take {s : Hp} {Z : List It} (h : Ref s Z) {i j : Nat} {x : It} (hi : Z[i]? = some x) (hj : s.L[j]? = some x) : Ref (s.take j) (Z.eraseIdx i) ∧ (s.take j).seq = s.seq := by
  obtain ⟨h1, h2, h3⟩ := h.good.take hj
  have hil := (List.getElem?_eq_some_iff.1 hi).1
  have hs : (Z.eraseIdx i).Sublist Z := List.eraseIdx_sublist _ _
  refine ⟨⟨h1, ?_, h.sorted.sublist hs, fun y hy => by rw [h3]; exact h.seq y (hs.subset hy), h.nd.sublist (hs.map _)⟩, h3⟩
  have := cons_erase_perm Z i hil
  rw [(List.getElem?_eq_some_iff.1 hi).2] at this
  exact ((this.trans h.perm).trans h2.symm).cons_inv
theorem Ref.top {s : Hp} {Z : List It} (h : Ref s Z) {x : It} (hx : Z[0]? = some x) : s.L[0]? = some x := by
  have hl : 0 < s.L.length := by rw [← h.len]; exact (List.getElem?_eq_some_iff.1 hx).1
  have hy : s.L[0]? = some (s.L[0]'hl) := List.getElem?_eq_getElem _
  generalize s.L[0]'hl = y at hy
  have hym := h.perm.mem_iff.2 (List.mem_of_getElem? hy)
  have hxm := List.mem_of_getElem? hx
  obtain ⟨i, hi, hxi⟩ := List.getElem_of_mem (h.perm.mem_iff.1 hxm)
  have h1 : le y x := h.good.heap.min hy i x (by rw [List.getElem?_eq_getElem hi, hxi])
  have h2 : le x y := by
    cases Z with
    | nil => cases hx
    | cons z r =>
      cases hx
      rcases List.mem_cons.1 hym with rfl | hm
      · exact le_refl _
      · exact (List.pairwise_cons.1 h.sorted).1 y hm
  rw [hy, h.anti y hym x hxm h1 h2]
theorem notOf_map (r : Int) (Z : List It) : Go.Proofs.Ytkhphnidopbjjaa.notOf r (Z.map toR) = (Z.filter (fun x => !(x.run == r))).map toR := by
  unfold Go.Proofs.Ytkhphnidopbjjaa.notOf
  rw [List.filter_map]
  rfl
theorem Ref.drop {s s' : Hp} {Z : List It} (h : Ref s Z) {r : Int} (hg : Good s') (hp : s'.L.Perm (s.L.filter (fun x => !(x.run == r)))) (hq : s'.seq = s.seq) : Ref s' (Z.filter (fun x => !(x.run == r))) := by
  have hs : (Z.filter (fun x => !(x.run == r))).Sublist Z := List.filter_sublist
  exact ⟨hg, (h.perm.filter _).trans hp.symm, h.sorted.sublist hs, fun y hy => by rw [hq]; exact h.seq y (hs.subset hy), h.nd.sublist (hs.map _)⟩
theorem Ref.mine {s : Hp} {Z : List It} (h : Ref s Z) (r : Int) : (s.L.filter (fun x => x.run == r)).length = (Z.map toR).length - (Go.Proofs.Ytkhphnidopbjjaa.notOf r (Z.map toR)).length := by
  rw [notOf_map, List.length_map, List.length_map]
  have h1 := (List.filter_append_perm (fun x : It => x.run == r) s.L).length_eq
  have h2 := (h.perm.filter (fun x : It => !(x.run == r))).length_eq
  rw [List.length_append] at h1
  have := h.len
  omega
/-- how many of a sorted list are due -/
def dueN (now : Int) : List It → Nat
  | [] => 0
  | x :: r => if x.due ≤ now then dueN now r + 1 else 0
theorem dueN_le (now : Int) : ∀ Z : List It, dueN now Z ≤ Z.length
  | [] => Nat.le_refl _
  | x :: r => by have := dueN_le now r; simp only [dueN]; split <;> simp <;> omega
theorem dueN_lt (now : Int) : ∀ (Z : List It) (i : Nat), i < dueN now Z → ∃ x, Z[i]? = some x ∧ x.due ≤ now
  | [], i, h => by simp [dueN] at h
  | x :: r, i, h => by
    simp only [dueN] at h
    split at h
    · rename_i hd
      cases i with
      | zero => exact ⟨x, rfl, hd⟩
      | succ i => exact dueN_lt now r i (by omega)
    · omega
theorem dueN_at (now : Int) : ∀ (Z : List It) (x : It), Z[dueN now Z]? = some x → ¬ x.due ≤ now
  | [], x, h => by simp at h
  | y :: r, x, h => by
    simp only [dueN] at h
    split at h
    · exact dueN_at now r x (by simpa using h)
    · rename_i hd; simp at h; subst h; exact hd
theorem dueN_filter (now : Int) : ∀ (Z : List It), Z.Pairwise le → Z.filter (fun x => decide (x.due ≤ now)) = Z.take (dueN now Z)
  | [], _ => rfl
  | x :: r, h => by
    have h' := List.pairwise_cons.1 h
    simp only [dueN]
    by_cases hd : x.due ≤ now
    · rw [if_pos hd, List.take_succ_cons, List.filter_cons, if_pos (by simpa using hd), dueN_filter now r h'.2]
    · rw [if_neg hd, List.take_zero, List.filter_eq_nil_iff]
      intro y hy
      have : le x y := by
        rcases List.mem_cons.1 hy with rfl | hy
        · exact le_refl _
        · exact h'.1 y hy
      unfold le at this
      simp; omega
theorem Ref.due {s : Hp} {Z xs : List It} (h : Ref s Z) {now : Int} (hp : xs.Perm (dueL s now)) (hs : xs.Pairwise le) : xs = Z.take (dueN now Z) := by
  rw [← dueN_filter now Z h.sorted]
  have hp2 := (h.perm.filter (fun x => decide (x.due ≤ now))).trans (dueL_perm h.good.heap now).symm
  have hsub : (Z.filter (fun x => decide (x.due ≤ now))).Sublist Z := List.filter_sublist
  exact (sorted_unique (hp2.trans hp.symm) (h.sorted.sublist hsub) hs (fun a ha b hb => h.anti a (hsub.subset ha) b (hsub.subset hb))).symm
end Go.Hm
