/- What is known of programs that go straight on, or in one ring; plain. -/
import Derived.Test.YtielnengimninaaGreatDoorV27
import Derived.Test.YtielnengimninaaGreatDoorV26
namespace Go.Va
open Go.Own
/-- the walk, come to k in a row: the heights are H's -/
def StK (H : Nat → Int) (n k : Nat) (mo : Int) : KSt := ⟨(List.range (k + 1)).map H ++ List.replicate (n - (k + 1)) (-1), [k], mo⟩
def hsK (H : Nat → Int) (n k : Nat) : List Int := (List.range (k + 1)).map H ++ List.replicate (n - (k + 1)) (-1)
theorem hsK_le (H : Nat → Int) (n : Nat) {j k : Nat} (h : j ≤ k) : (hsK H n k)[j]? = some (H j) := by
  unfold hsK
  rw [List.getElem?_append_left (by simp; omega), List.getElem?_map, List.getElem?_range (by omega)]
  rfl
theorem hsK_gt (H : Nat → Int) {n j k : Nat} (h : k < j) (hn : j < n) : (hsK H n k)[j]? = some (-1) := by
  unfold hsK
  rw [List.getElem?_append_right (by simp; omega), List.getElem?_replicate, if_pos (by simp; omega)]
theorem hsK_len (H : Nat → Int) {n k : Nat} (h : k < n) : (hsK H n k).length = n := by
  unfold hsK
  simp
  omega
theorem hsK_set (H : Nat → Int) {n k : Nat} (h : k + 1 < n) : (hsK H n k).set (k + 1) (H (k + 1)) = hsK H n (k + 1) := by
  apply List.ext_getElem?
  intro j
  rw [List.getElem?_set]
  by_cases e : k + 1 = j
  · subst e
    rw [if_pos rfl, if_pos (by rw [hsK_len H (by omega)]; omega), hsK_le H n (Nat.le_refl _)]
  · rw [if_neg e]
    by_cases h1 : j ≤ k
    · rw [hsK_le H n h1, hsK_le H n (by omega)]
    · by_cases h2 : j < n
      · rw [hsK_gt H (by omega) h2, hsK_gt H (by omega) h2]
      · rw [List.getElem?_eq_none (by rw [hsK_len H (by omega)]; omega), List.getElem?_eq_none (by rw [hsK_len H (by omega)]; omega)]
theorem bfs_nil (code : List In) (f : Nat) (hs : List Int) (mo : Int) : bfsL code f ⟨hs, [], mo⟩ = ((-1, 0), ⟨hs, [], mo⟩) := by
  cases f <;> rfl
section
variable {code : List In} {H : Nat → Int} {n k f : Nat} {c : In} {mo : Int}
theorem bfs_one (hc : code[k]? = some c) : bfsL code (f + 1) ⟨hsK H n k, [k], mo⟩ = bif (stepL code.length c k ⟨hsK H n k, [], mo⟩).1 != 0 then (((k : Int), (stepL code.length c k ⟨hsK H n k, [], mo⟩).1), (stepL code.length c k ⟨hsK H n k, [], mo⟩).2) else bfsL code f (stepL code.length c k ⟨hsK H n k, [], mo⟩).2 := by
  rw [bfsL]
  dsimp only
  rw [hc]
theorem step_at (h1 : 0 ≤ H k - takesL c) (h2 : H k - takesL c + (ofL c.op).1.o ≤ 32) : stepL n c k ⟨hsK H n k, [], mo⟩ = comesL n (H k - takesL c + (ofL c.op).1.o) (followN c k) ⟨hsK H n k, [], max mo (H k - takesL c + (ofL c.op).1.o)⟩ := by
  unfold stepL
  dsimp only
  rw [List.getD_eq_getElem?_getD, hsK_le H n (Nat.le_refl k), Option.getD_some, decide_eq_false (by omega), decide_eq_false (by omega)]
  rfl
theorem bfs_next (hn : code.length = n) (hc : code[k]? = some c) (hf : followN c k = [k + 1]) (hk : k + 1 < n) (h1 : 0 ≤ H k - takesL c) (h3 : H k - takesL c + (ofL c.op).1.o = H (k + 1)) (h2 : H (k + 1) ≤ 32) :
    bfsL code (f + 1) ⟨hsK H n k, [k], mo⟩ = bfsL code f ⟨hsK H n (k + 1), [k + 1], max mo (H (k + 1))⟩ := by
  rw [bfs_one hc, hn, step_at h1 (by omega), hf, h3, comesL]
  have e : comeL n (k + 1) (H (k + 1)) ⟨hsK H n k, [], max mo (H (k + 1))⟩ = (0, ⟨hsK H n (k + 1), [k + 1], max mo (H (k + 1))⟩) := by
    unfold comeL
    dsimp only
    rw [decide_eq_false (by omega), List.getD_eq_getElem?_getD, hsK_gt H (Nat.lt_succ_self k) hk, Option.getD_some, hsK_set H hk]
    rfl
  rw [e]
  rfl
theorem bfs_end (hn : code.length = n) (hc : code[k]? = some c) (hf : followN c k = []) (h1 : 0 ≤ H k - takesL c) (h2 : H k - takesL c + (ofL c.op).1.o ≤ 32) :
    bfsL code (f + 1) ⟨hsK H n k, [k], mo⟩ = ((-1, 0), ⟨hsK H n k, [], max mo (H k - takesL c + (ofL c.op).1.o)⟩) := by
  rw [bfs_one hc, hn, step_at h1 h2, hf, comesL]
  exact bfs_nil ..
theorem bfs_back (hn : code.length = n) (hc : code[k]? = some c) {j : Nat} (hf : followN c k = [j]) (hj : j ≤ k) (hk : k < n) (h1 : 0 ≤ H k - takesL c) (h3 : H k - takesL c + (ofL c.op).1.o = H j) (h0 : 0 ≤ H j) (h2 : H j ≤ 32) :
    bfsL code (f + 1) ⟨hsK H n k, [k], mo⟩ = ((-1, 0), ⟨hsK H n k, [], max mo (H j)⟩) := by
  rw [bfs_one hc, hn, step_at h1 (by omega), hf, h3, comesL]
  have e : comeL n j (H j) ⟨hsK H n k, [], max mo (H j)⟩ = (0, ⟨hsK H n k, [], max mo (H j)⟩) := by
    unfold comeL
    dsimp only
    rw [decide_eq_false (by omega), List.getD_eq_getElem?_getD, hsK_le H n hj, Option.getD_some, decide_eq_false (by omega)]
    simp
  rw [e]
  exact bfs_nil ..
theorem bfs_out (hn : code.length = n) (hc : code[k]? = some c) (hf : followN c k = [k + 1]) (hk : k + 1 = n) (h1 : 0 ≤ H k - takesL c) (h2 : H k - takesL c + (ofL c.op).1.o ≤ 32) :
    (bfsL code (f + 1) ⟨hsK H n k, [k], mo⟩).1 = ((k : Int), 132) := by
  rw [bfs_one hc, hn, step_at h1 h2, hf, comesL]
  have e : ∀ m, comeL n (k + 1) (H k - takesL c + (ofL c.op).1.o) ⟨hsK H n k, [], m⟩ = (132, ⟨hsK H n k, [], m⟩) := fun m => by
    unfold comeL
    rw [decide_eq_true (by omega)]
    rfl
  rw [e]
  rfl
theorem bfs_low (hn : code.length = n) (hc : code[k]? = some c) (h1 : H k - takesL c < 0) : (bfsL code (f + 1) ⟨hsK H n k, [k], mo⟩).1 = ((k : Int), 131) := by
  rw [bfs_one hc, hn]
  have e : stepL n c k ⟨hsK H n k, [], mo⟩ = (131, ⟨hsK H n k, [], mo⟩) := by
    unfold stepL
    dsimp only
    rw [List.getD_eq_getElem?_getD, hsK_le H n (Nat.le_refl k), Option.getD_some, decide_eq_true h1]
    rfl
  rw [e]
  rfl
theorem bfs_high (hn : code.length = n) (hc : code[k]? = some c) (h1 : 0 ≤ H k - takesL c) (h2 : 32 < H k - takesL c + (ofL c.op).1.o) : (bfsL code (f + 1) ⟨hsK H n k, [k], mo⟩).1 = ((k : Int), 131) := by
  rw [bfs_one hc, hn]
  have e : stepL n c k ⟨hsK H n k, [], mo⟩ = (131, ⟨hsK H n k, [], mo⟩) := by
    unfold stepL
    dsimp only
    rw [List.getD_eq_getElem?_getD, hsK_le H n (Nat.le_refl k), Option.getD_some, decide_eq_false (by omega), decide_eq_true h2]
    rfl
  rw [e]
  rfl
/-- one instruction goes straight on -/
def Straight (code : List In) (H : Nat → Int) (k : Nat) : Prop := ∃ c, code[k]? = some c ∧ followN c k = [k + 1] ∧ 0 ≤ H k - takesL c ∧ H k - takesL c + (ofL c.op).1.o = H (k + 1) ∧ H (k + 1) ≤ 32
theorem bfs_run {M : Nat → Int} (hn : code.length = n) : ∀ (m k : Nat), k + m < n → (∀ j, k ≤ j → j < k + m → Straight code H j ∧ M (j + 1) = max (M j) (H (j + 1))) → bfsL code (f + m) ⟨hsK H n k, [k], M k⟩ = bfsL code f ⟨hsK H n (k + m), [k + m], M (k + m)⟩
  | 0, k, _, _ => rfl
  | m + 1, k, hk, h => by
    obtain ⟨⟨c, h1, h2, h3, h4, h5⟩, h6⟩ := h k (Nat.le_refl _) (by omega)
    rw [show f + (m + 1) = (f + m) + 1 by omega, bfs_next hn h1 h2 (by omega) h3 h4 h5, ← h6, bfs_run hn m (k + 1) (by omega) (fun j hj hj2 => h j (by omega) (by omega))]
    rw [show k + 1 + m = k + (m + 1) by omega]
theorem walk_start (hn : code.length = n) (h0 : 0 < n) (hH : H 0 = 0) : walkL code = bfsL code (n + 1) ⟨hsK H n 0, [0], 0⟩ := by
  unfold walkL
  dsimp only
  have e : comeL code.length 0 0 ⟨List.replicate code.length (-1), [], 0⟩ = (0, ⟨hsK H n 0, [0], 0⟩) := by
    unfold comeL
    dsimp only
    obtain ⟨m, rfl⟩ : ∃ m, n = m + 1 := ⟨n - 1, by omega⟩
    rw [hn, decide_eq_false (by omega)]
    have : (List.replicate (m + 1) (-1 : Int)).getD 0 0 = -1 := by rw [List.replicate_succ]; rfl
    rw [this]
    have hs : (List.replicate (m + 1) (-1 : Int)).set 0 0 = hsK H (m + 1) 0 := by
      unfold hsK
      simp [List.replicate_succ, List.range_succ, hH]
    rw [hs]
    rfl
  rw [e, hn]
  rfl
/-- all goes straight on up to k -/
theorem walk_run {M : Nat → Int} (hn : code.length = n) (hH : H 0 = 0) (hM : M 0 = 0) (k : Nat) (hk : k < n) (h : ∀ j, j < k → Straight code H j ∧ M (j + 1) = max (M j) (H (j + 1))) : walkL code = bfsL code (n - k + 1) ⟨hsK H n k, [k], M k⟩ := by
  rw [walk_start hn (by omega) hH, ← hM, show n + 1 = (n - k + 1) + k by omega]
  have := bfs_run (f := n - k + 1) (M := M) (H := H) (code := code) hn k 0 (by omega) (fun j _ hj => h j (by omega))
  rwa [Nat.zero_add] at this
end
/-- a number that grows along each way without waiting -/
theorem way_rank {code : List In} {φ : Nat → Nat} (h : ∀ k x, restsAt code k = false → x ∈ followAt code k → φ k < φ x) {p x : Nat} (w : Way code p x) : φ p < φ x := by
  induction w with
  | one h1 h2 => exact h _ _ h1 h2
  | more _ h2 h3 ih => have := h _ _ h2 h3; omega
theorem round_rank {code : List In} {φ : Nat → Nat} (hcl : ∀ k x, x ∈ followAt code k → x < code.length) (h : ∀ k x, restsAt code k = false → x ∈ followAt code k → φ k < φ x) (k : Nat) : roundL code k = false := by
  rw [Bool.eq_false_iff]
  intro e
  have := (roundL_law (fun k x _ hx => hcl k x hx)).1 e
  have := way_rank h this.2
  omega
theorem firstR_all {code : List In} : ∀ (l : List Int) (k : Nat), (∀ j, roundL code j = false) → firstR code k l = none
  | [], _, _ => rfl
  | y :: r, k, h => by
    rw [firstR, h k, Bool.and_false]
    exact firstR_all r (k + 1) h
theorem firstR_nil {code : List In} : ∀ (l : List Int) (k : Nat), (∀ (j : Nat) (h : Int), l[j]? = some h → 0 ≤ h → roundL code (k + j) = false) → firstR code k l = none
  | [], _, _ => rfl
  | y :: r, k, h => by
    have h1 : (decide (0 ≤ y) && roundL code k) = false := by
      by_cases h0 : 0 ≤ y
      · have := h 0 y rfl h0
        rw [Nat.add_zero] at this
        rw [this, Bool.and_false]
      · rw [decide_eq_false h0, Bool.false_and]
    rw [firstR, h1]
    exact firstR_nil r (k + 1) (fun j h' hj h0 => by rw [show k + 1 + j = k + (j + 1) by omega]; exact h (j + 1) h' (by simpa using hj) h0)
theorem firstR_some {code : List In} : ∀ (l : List Int) (k i : Nat) (h : Int), l[i]? = some h → 0 ≤ h → roundL code (k + i) = true → (∀ j, j < i → roundL code (k + j) = false) → firstR code k l = some (k + i)
  | [], _, _, _, h, _, _, _ => by simp at h
  | y :: r, k, 0, h, hh, h0, h1, _ => by
    simp at hh
    subst hh
    rw [Nat.add_zero] at h1
    rw [firstR, decide_eq_true h0, h1]
    rfl
  | y :: r, k, i + 1, h, hh, h0, h1, h2 => by
    have h3 := h2 0 (Nat.succ_pos _)
    rw [Nat.add_zero] at h3
    rw [firstR, h3, Bool.and_false]
    have := firstR_some r (k + 1) i h (by simpa using hh) h0 (by rw [show k + 1 + i = k + (i + 1) by omega]; exact h1) (fun j hj => by rw [show k + 1 + j = k + (j + 1) by omega]; exact h2 (j + 1) (by omega))
    rw [show k + 1 + i = k + (i + 1) by omega] at this
    exact this
theorem spanM_le {code : List In} {B : Nat} : ∀ (l : List Int) (k m : Nat), m ≤ B → (∀ (j : Nat) (h : Int), l[j]? = some h → 0 ≤ h → spF code (code.length + 1) (k + j) ≤ B) → spanM code k l m ≤ B
  | [], _, _, hm, _ => hm
  | y :: r, k, m, hm, h => by
    rw [spanM]
    refine spanM_le r (k + 1) _ ?_ (fun j hh hj h0 => ?_)
    · by_cases h0 : 0 ≤ y
      · rw [decide_eq_true h0]
        have := h 0 y rfl h0
        rw [Nat.add_zero] at this
        exact Nat.max_le.2 ⟨hm, this⟩
      · rw [decide_eq_false h0]
        exact hm
    · have := h (j + 1) hh (by simpa using hj) h0
      rwa [show k + (j + 1) = k + 1 + j by omega] at this
theorem spanM_ge {code : List In} : ∀ (l : List Int) (k m : Nat), m ≤ spanM code k l m
  | [], _, _ => Nat.le_refl _
  | y :: r, k, m => by
    rw [spanM]
    refine Nat.le_trans ?_ (spanM_ge (code := code) r (k + 1) _)
    cases decide (0 ≤ y)
    · exact Nat.le_refl _
    · exact Nat.le_max_left ..
theorem spanM_at {code : List In} : ∀ (l : List Int) (k m j : Nat) (h : Int), l[j]? = some h → 0 ≤ h → spF code (code.length + 1) (k + j) ≤ spanM code k l m
  | [], _, _, _, _, h, _ => by simp at h
  | y :: r, k, m, 0, h, hh, h0 => by
    simp at hh
    subst hh
    rw [spanM, decide_eq_true h0]
    have := spanM_ge (code := code) r (k + 1) (max m (spF code (code.length + 1) k))
    exact Nat.le_trans (Nat.le_max_right ..) this
  | y :: r, k, m, j + 1, h, hh, h0 => by
    rw [spanM, show k + (j + 1) = k + 1 + j by omega]
    exact spanM_at r (k + 1) _ j h (by simpa using hh) h0
/-- the spans, by a number that falls along each way by one -/
theorem spF_rank {code : List In} {ψ : Nat → Nat} (hr : ∀ k, restsAt code k = true → ψ k = 1) (hs : ∀ k, restsAt code k = false → ∃ x, followAt code k = [x] ∧ ψ k = ψ x + 1) : ∀ (f k : Nat), ψ k ≤ f → 0 < ψ k → spF code f k = ψ k
  | 0, k, h, h0 => by omega
  | f + 1, k, h, h0 => by
    rw [spF]
    cases hk : restsAt code k with
    | true => rw [hr k hk]; rfl
    | false =>
      obtain ⟨x, hx, he⟩ := hs k hk
      have hx0 : 0 < ψ x ∨ ψ x = 0 := by omega
      rcases hx0 with hx0 | hx0
      · have := spF_rank hr hs f x (by omega) hx0
        rw [hx]
        simp only [cond_false, List.foldl_cons, List.foldl_nil, this]
        omega
      · exfalso
        cases hkx : restsAt code x with
        | true => have := hr x hkx; omega
        | false => obtain ⟨y, _, e⟩ := hs x hkx; omega
end Go.Va
namespace Go.Proofs.YtielnengimninaaGreatDoor
open Go.Va
theorem check_err {p : Img} {k e : Int} (hi : imgL p = 0) (h : (walkL p.code).1 = (k, e)) (he : (e != 0) = true) : checkG p = (noFa, k, e) := by
  unfold checkG
  rw [hi, h]
  simp only [bne_self_eq_false, cond_false, he, cond_true]
theorem check_loop {p : Img} {k : Nat} {st : KSt} (hi : imgL p = 0) (h : walkL p.code = ((-1, 0), st)) (hf : firstR p.code 0 st.heights = some k) : checkG p = (noFa, (k : Int), 133) := by
  unfold checkG
  rw [hi, h]
  simp only [bne_self_eq_false, cond_false]
  rw [hf]
theorem check_some {p : Img} {st : KSt} (hi : imgL p = 0) (h : walkL p.code = ((-1, 0), st)) (hf : ∀ (j : Nat) (h : Int), st.heights[j]? = some h → 0 ≤ h → roundL p.code j = false) : checkG p = (⟨st.heights, st.most, (spanM p.code 0 st.heights 0 : Nat)⟩, -1, 0) := by
  unfold checkG
  rw [hi, h]
  simp only [bne_self_eq_false, cond_false]
  rw [firstR_nil _ _ (fun j h hj h0 => by rw [Nat.zero_add]; exact hf j h hj h0)]
theorem check_ok {p : Img} {st : KSt} (hi : imgL p = 0) (h : walkL p.code = ((-1, 0), st)) (hf : ∀ j, roundL p.code j = false) : checkG p = (⟨st.heights, st.most, (spanM p.code 0 st.heights 0 : Nat)⟩, -1, 0) := by
  unfold checkG
  rw [hi, h]
  simp only [bne_self_eq_false, cond_false]
  rw [firstR_all _ _ hf]
end Go.Proofs.YtielnengimninaaGreatDoor
