/- The programs of VerifyLoops: what they are read as, and what is known of them; plain. -/
import Derived.Test.YtielnengimninaaGreatDoorV29
namespace Go.Proofs.YtielnengimninaaGreatDoor
open Go.RowKit Go.Own Go.Own.MapTy Go.Va Go.Sort
open Go.Own.Cells (sz enc)
def jumpI (f : Nat) : In := ⟨11, f⟩
/-! ### without waiting -/
def ringP (f n : Nat) : Img := ⟨List.replicate (f + n) nopI ++ [jumpI f], [], [], 0⟩
def ringT (f n : Nat) : List (List UInt8) := List.replicate f nopB ++ (labB :: (List.replicate n nopB ++ [jumpB]))
section
variable {f n : Nat}
theorem ring_len : (ringP f n).code.length = f + n + 1 := by simp [ringP]
theorem ring_nop {j : Nat} (h : j < f + n) : (ringP f n).code[j]? = some nopI := by
  show (List.replicate (f + n) nopI ++ [jumpI f])[j]? = _
  rw [List.getElem?_append_left (by simpa using h), rep_at _ h]
theorem ring_jump : (ringP f n).code[f + n]? = some (jumpI f) := by
  show (List.replicate (f + n) nopI ++ [jumpI f])[f + n]? = _
  rw [List.getElem?_append_right (by simp)]
  simp
theorem ring_none {j : Nat} (h : f + n < j) : (ringP f n).code[j]? = none := List.getElem?_eq_none (by rw [ring_len]; omega)
theorem ring_img (h1 : f ≤ 20) (h2 : n ≤ 20) : imgL (ringP f n) = 0 := by
  refine imgL_all (by simp [ringP]) (by simp [ringP]; omega) rfl (by simp [ringP]) rfl (by kernel_rfl) (fun c hc => ?_)
  simp only [ringP, List.mem_append, List.mem_replicate, List.mem_singleton] at hc
  rcases hc with ⟨_, rfl⟩ | rfl
  · exact ⟨by kernel_rfl, by decide, by show (0 : Int) < mostL (ringP f n) 0; simp [mostL]⟩
  · exact ⟨rfl, by show (0 : Int) ≤ f; omega, by show (f : Int) < mostL (ringP f n) 4; simp [mostL, ring_len]; omega⟩
theorem setA_last (l : List In) (c : In) (tg : Int) : setA (l ++ [c]) l.length tg = l ++ [{ c with a := tg }] := by
  rw [setA_set (x := c) (by simp)]
  simp
theorem jumps_one {f : Nat} {l : List In} {n : Int} (h : f ≠ l.length + 1) : jumpsR [(l1N, (f : Int))] [⟨l.length, n, l1N⟩] (l ++ [⟨11, 0⟩]) = ((0, 0), l ++ [jumpI f]) := by
  have h1 : MapTy.get [(l1N, (f : Int))] l1N = some (f : Int) := rfl
  have h2 : ((f : Int) == ((l ++ [(⟨11, 0⟩ : In)]).length : Int)) = false := by
    rw [beq_eq_false_iff_ne, List.length_append, List.length_singleton]
    omega
  rw [jumpsR, h1]
  dsimp only
  rw [h2, Int.toNat_natCast, setA_last]
  rfl
theorem ring_asm {s : ByteArray} (h1 : f ≤ 20) (h2 : n ≤ 20) (hs : s.data.toList = textB (ringT f n)) : asmL s = (ringP f n, 0, 0) := by
  have hq : ∃ m : Int, linesR ((ringT f n).map mkB) 0 st0 = ((0, 0), ⟨List.replicate (f + n) nopI ++ [⟨11, 0⟩], [], [], 0, [(l1N, (f : Int))], [⟨(List.replicate (f + n) nopI).length, m, l1N⟩]⟩) := by
    refine ⟨((0 + ((List.replicate f nopB).map mkB).length + [mkB labB].length + ((List.replicate n nopB).map mkB).length : Nat) : Int) + 1, ?_⟩
    unfold ringT
    rw [List.map_append, List.map_cons, List.map_append, linesR_app (lr_rep line_nop f 0 st0), show mkB labB :: ((List.replicate n nopB).map mkB ++ List.map mkB [jumpB]) = [mkB labB] ++ ((List.replicate n nopB).map mkB ++ List.map mkB [jumpB]) from rfl,
      linesR_app (a := [mkB labB]) (linesR_one (line_lab _ _ rfl)), linesR_app (lr_rep line_nop n _ _)]
    simp only [List.map_cons, List.map_nil]
    refine (linesR_one (line_jump _ _ rfl)).trans ?_
    simp [st0, nopI, List.replicate_append_replicate]
  obtain ⟨m, hq⟩ := hq
  exact asmL_kind (by simp [ringT]; omega) hs (fun x hx => by
    simp only [ringT, List.mem_append, List.mem_replicate, List.mem_cons, List.not_mem_nil, or_false] at hx
    rcases hx with ⟨_, rfl⟩ | rfl | ⟨_, rfl⟩ | rfl
    · exact .inl rfl
    · exact .inr (.inr (.inr (.inr (.inl rfl))))
    · exact .inl rfl
    · exact .inr (.inr (.inr (.inr (.inr (.inr rfl)))))) (by simp [ringT]; omega) hq (jumps_one (f := f) (by simp; omega)) (ring_img h1 h2)
theorem ring_follow (j : Nat) : (followAt (ringP f n).code j = [j + 1] ∧ restsAt (ringP f n).code j = false ∧ j < f + n) ∨ (followAt (ringP f n).code j = [f] ∧ restsAt (ringP f n).code j = false ∧ j = f + n) ∨ (followAt (ringP f n).code j = [] ∧ f + n < j) := by
  unfold followAt restsAt
  by_cases hj : j < f + n
  · rw [ring_nop hj]
    exact .inl ⟨rfl, rfl, hj⟩
  · by_cases hj3 : j = f + n
    · subst hj3
      rw [ring_jump]
      exact .inr (.inl ⟨by show [((f : Int)).toNat] = [f]; rw [Int.toNat_natCast], rfl, rfl⟩)
    · rw [ring_none (by omega)]
      exact .inr (.inr ⟨rfl, by omega⟩)
theorem ring_loop (h0 : 0 < n) (h1 : f ≤ 20) (h2 : n ≤ 20) : checkG (ringP f n) = (noFa, (f : Int), 133) := by
  have hw := walk_run (H := fun _ => 0) (M := fun _ => 0) (ring_len (f := f) (n := n)) rfl rfl (f + n) (by omega) (fun j hj => ⟨⟨nopI, ring_nop hj, rfl, Int.le_refl 0, rfl, (by show (0 : Int) ≤ 32; decide)⟩, rfl⟩)
  have h4 := bfs_back (H := fun _ => 0) (f := f + n + 1 - (f + n)) (mo := 0) (ring_len (f := f) (n := n)) ring_jump (j := f) (by show [((f : Int)).toNat] = [f]; rw [Int.toNat_natCast]) (by omega) (by omega) (Int.le_refl 0) rfl (Int.le_refl 0) (by show (0 : Int) ≤ 32; decide)
  have hcl : ∀ k x, x ∈ followAt (ringP f n).code k → x < (ringP f n).code.length := fun k x hx => by
    rw [ring_len]
    rcases ring_follow (f := f) (n := n) k with ⟨e, _, h⟩ | ⟨e, _, h⟩ | ⟨e, _⟩
    · rw [e] at hx; have := List.mem_singleton.1 hx; omega
    · rw [e] at hx; have := List.mem_singleton.1 hx; omega
    · rw [e] at hx; cases hx
  have hfar : ∀ p x, p < f → Go.Va.Way (ringP f n).code p x → p < x := fun p x hp w => by
    induction w with
    | one _ hx =>
      rcases ring_follow (f := f) (n := n) _ with ⟨e, _, h⟩ | ⟨e, _, h⟩ | ⟨e, _⟩
      · rw [e] at hx; have := List.mem_singleton.1 hx; omega
      · omega
      · rw [e] at hx; cases hx
    | more _ _ hx ih =>
      have := ih
      rcases ring_follow (f := f) (n := n) _ with ⟨e, _, h⟩ | ⟨e, _, h⟩ | ⟨e, _⟩
      · rw [e] at hx; have := List.mem_singleton.1 hx; omega
      · rw [e] at hx; have := List.mem_singleton.1 hx; omega
      · rw [e] at hx; cases hx
  have hnext : ∀ j, j < f + n → j + 1 ∈ followAt (ringP f n).code j ∧ restsAt (ringP f n).code j = false := fun j hj => by
    rcases ring_follow (f := f) (n := n) j with ⟨e, h, _⟩ | ⟨_, _, h⟩ | ⟨_, h⟩
    · rw [e]; exact ⟨List.mem_singleton.2 rfl, h⟩
    · omega
    · omega
  have hup : ∀ i, i < n → Go.Va.Way (ringP f n).code f (f + i + 1) := fun i => by
    induction i with
    | zero => exact fun _ => .one (hnext f (by omega)).2 (hnext f (by omega)).1
    | succ i ih => exact fun hi => .more (ih (by omega)) (hnext _ (by omega)).2 (hnext _ (by omega)).1
  have hring : Go.Va.Way (ringP f n).code f f := by
    have h5 := hup (n - 1) (by omega)
    rw [show f + (n - 1) + 1 = f + n by omega] at h5
    rcases ring_follow (f := f) (n := n) (f + n) with ⟨_, _, h⟩ | ⟨e, h, _⟩ | ⟨_, h⟩
    · omega
    · exact .more h5 h (by rw [e]; exact List.mem_singleton.2 rfl)
    · omega
  refine check_loop (ring_img h1 h2) (hw.trans h4) ?_
  have := firstR_some (code := (ringP f n).code) (hsK (fun _ => 0) (f + n + 1) (f + n)) 0 f 0 (hsK_le _ _ (by omega)) (Int.le_refl 0) (by
    rw [Nat.zero_add]
    exact (roundL_law (fun k x _ hx => hcl k x hx)).2 ⟨(hnext f (by omega)).2, hring⟩) (fun j hj => by
    rw [Nat.zero_add, Bool.eq_false_iff]
    intro e
    have := hfar j j hj ((roundL_law (fun k x _ hx => hcl k x hx)).1 e).2
    omega)
  rwa [Nat.zero_add] at this
end
/-! ### with one that waits -/
def waitP (f w m : Nat) : Img := ⟨List.replicate (f + w) nopI ++ (sigI :: popI :: (List.replicate m nopI ++ [jumpI f])), [], [goN], 0⟩
def waitT (f w m : Nat) : List (List UInt8) := List.replicate f nopB ++ (labB :: (List.replicate w nopB ++ (sigB :: popB :: (List.replicate m nopB ++ [jumpB]))))
section
variable {f w m : Nat}
theorem wait_len : (waitP f w m).code.length = f + w + m + 3 := by simp [waitP]; omega
theorem wait_nop {j : Nat} (h : j < f + w) : (waitP f w m).code[j]? = some nopI := by
  show (List.replicate (f + w) nopI ++ _)[j]? = _
  rw [List.getElem?_append_left (by simpa using h), rep_at _ h]
theorem wait_sig : (waitP f w m).code[f + w]? = some sigI := by
  show (List.replicate (f + w) nopI ++ _)[f + w]? = _
  rw [List.getElem?_append_right (by simp)]
  simp
theorem wait_pop : (waitP f w m).code[f + w + 1]? = some popI := by
  show (List.replicate (f + w) nopI ++ _)[f + w + 1]? = _
  rw [List.getElem?_append_right (by simp), List.length_replicate, show f + w + 1 - (f + w) = 1 by omega]
  rfl
theorem wait_nop2 {j : Nat} (h : f + w + 1 < j) (h2 : j < f + w + m + 2) : (waitP f w m).code[j]? = some nopI := by
  show (List.replicate (f + w) nopI ++ _)[j]? = _
  rw [List.getElem?_append_right (by simp; omega), List.length_replicate]
  obtain ⟨i, hi⟩ : ∃ i, j - (f + w) = i + 2 := ⟨j - (f + w) - 2, by omega⟩
  rw [hi, List.getElem?_cons_succ, List.getElem?_cons_succ, List.getElem?_append_left (by simp; omega), rep_at _ (by omega)]
theorem wait_jump : (waitP f w m).code[f + w + m + 2]? = some (jumpI f) := by
  show (List.replicate (f + w) nopI ++ _)[f + w + m + 2]? = _
  rw [List.getElem?_append_right (by simp; omega), List.length_replicate, show f + w + m + 2 - (f + w) = m + 2 by omega, List.getElem?_cons_succ, List.getElem?_cons_succ, List.getElem?_append_right (by simp)]
  simp
theorem wait_none {j : Nat} (h : f + w + m + 2 < j) : (waitP f w m).code[j]? = none := List.getElem?_eq_none (by rw [wait_len]; omega)
theorem wait_img (h1 : f ≤ 20) (h2 : w + m ≤ 20) : imgL (waitP f w m) = 0 := by
  refine imgL_all (by rw [wait_len]; omega) (by rw [wait_len]; omega) rfl (by simp [waitP]) rfl (by kernel_rfl) (fun c hc => ?_)
  simp only [waitP, List.mem_append, List.mem_replicate, List.mem_cons, List.not_mem_nil, or_false] at hc
  rcases hc with ⟨_, rfl⟩ | rfl | rfl | ⟨_, rfl⟩ | rfl
  · exact ⟨by kernel_rfl, by decide, by show (0 : Int) < mostL (waitP f w m) 0; simp [mostL]⟩
  · exact ⟨by kernel_rfl, by decide, by show (0 : Int) < mostL (waitP f w m) 2; simp [mostL, waitP]⟩
  · exact ⟨by kernel_rfl, by decide, by show (0 : Int) < mostL (waitP f w m) 0; simp [mostL]⟩
  · exact ⟨by kernel_rfl, by decide, by show (0 : Int) < mostL (waitP f w m) 0; simp [mostL]⟩
  · exact ⟨rfl, by show (0 : Int) ≤ f; omega, by show (f : Int) < mostL (waitP f w m) 4; simp [mostL, wait_len]; omega⟩
theorem wait_asm {s : ByteArray} (h1 : f ≤ 20) (h2 : w + m ≤ 20) (hs : s.data.toList = textB (waitT f w m)) : asmL s = (waitP f w m, 0, 0) := by
  have hq : ∃ k : Int, linesR ((waitT f w m).map mkB) 0 st0 = ((0, 0), ⟨(List.replicate (f + w) nopI ++ (sigI :: popI :: List.replicate m nopI)) ++ [⟨11, 0⟩], [], [goN], 0, [(l1N, (f : Int))], [⟨(List.replicate (f + w) nopI ++ (sigI :: popI :: List.replicate m nopI)).length, k, l1N⟩]⟩) := by
    refine ⟨((0 + ((List.replicate f nopB).map mkB).length + [mkB labB].length + ((List.replicate w nopB).map mkB).length + [mkB sigB].length + [mkB popB].length + ((List.replicate m nopB).map mkB).length : Nat) : Int) + 1, ?_⟩
    unfold waitT
    rw [List.map_append, List.map_cons, List.map_append, List.map_cons, List.map_cons, List.map_append, linesR_app (lr_rep line_nop f 0 st0)]
    rw [show mkB labB :: ((List.replicate w nopB).map mkB ++ (mkB sigB :: mkB popB :: ((List.replicate m nopB).map mkB ++ List.map mkB [jumpB]))) = [mkB labB] ++ ((List.replicate w nopB).map mkB ++ ([mkB sigB] ++ ([mkB popB] ++ ((List.replicate m nopB).map mkB ++ List.map mkB [jumpB])))) from rfl]
    rw [linesR_app (a := [mkB labB]) (linesR_one (line_lab _ _ rfl)), linesR_app (lr_rep line_nop w _ _), linesR_app (a := [mkB sigB]) (linesR_one (line_sig _ _ rfl)), linesR_app (a := [mkB popB]) (linesR_one (line_pop _ _)), linesR_app (lr_rep line_nop m _ _)]
    simp only [List.map_cons, List.map_nil]
    refine (linesR_one (line_jump _ _ rfl)).trans ?_
    simp [st0, nopI, sigI, popI, ← List.replicate_append_replicate]
  obtain ⟨k, hq⟩ := hq
  have hj := jumps_one (f := f) (l := List.replicate (f + w) nopI ++ (sigI :: popI :: List.replicate m nopI)) (n := k) (by simp; omega)
  have hc : (List.replicate (f + w) nopI ++ (sigI :: popI :: List.replicate m nopI)) ++ [jumpI f] = (waitP f w m).code := by simp [waitP]
  rw [hc] at hj
  exact asmL_kind (by simp [waitT]; omega) hs (fun x hx => by
    simp only [waitT, List.mem_append, List.mem_replicate, List.mem_cons, List.not_mem_nil, or_false] at hx
    rcases hx with ⟨_, rfl⟩ | rfl | ⟨_, rfl⟩ | rfl | rfl | ⟨_, rfl⟩ | rfl
    · exact .inl rfl
    · exact .inr (.inr (.inr (.inr (.inl rfl))))
    · exact .inl rfl
    · exact .inr (.inr (.inr (.inr (.inr (.inl rfl)))))
    · exact .inr (.inl rfl)
    · exact .inl rfl
    · exact .inr (.inr (.inr (.inr (.inr (.inr rfl)))))) (by simp [waitT]; omega) hq hj (wait_img h1 h2)
def waH (f w : Nat) (j : Nat) : Int := if j = f + w + 1 then 1 else 0
def waM (f w : Nat) (j : Nat) : Int := if j ≤ f + w then 0 else 1
theorem wait_straight {j : Nat} (h : j < f + w + m + 2) : Straight (waitP f w m).code (waH f w) j ∧ waM f w (j + 1) = max (waM f w j) (waH f w (j + 1)) := by
  unfold waM
  by_cases h1 : j < f + w
  · refine ⟨⟨nopI, wait_nop h1, rfl, ?_, ?_, ?_⟩, ?_⟩
    · show 0 ≤ waH f w j - 0
      unfold waH; split <;> omega
    · show waH f w j - 0 + 0 = waH f w (j + 1)
      unfold waH; rw [if_neg (by omega), if_neg (by omega)]; rfl
    · unfold waH; split <;> omega
    · unfold waH; rw [if_pos (by omega), if_pos (by omega), if_neg (by omega)]; rfl
  · by_cases h2 : j = f + w
    · subst h2
      refine ⟨⟨sigI, wait_sig, rfl, ?_, ?_, ?_⟩, ?_⟩
      · show 0 ≤ waH f w (f + w) - 0
        unfold waH; split <;> omega
      · show waH f w (f + w) - 0 + 1 = waH f w (f + w + 1)
        unfold waH; rw [if_neg (by omega), if_pos rfl]; rfl
      · unfold waH; split <;> omega
      · unfold waH; rw [if_neg (by omega), if_pos (by omega), if_pos rfl]; rfl
    · by_cases h3 : j = f + w + 1
      · subst h3
        refine ⟨⟨popI, wait_pop, rfl, ?_, ?_, ?_⟩, ?_⟩
        · show 0 ≤ waH f w (f + w + 1) - 1
          unfold waH; rw [if_pos rfl]; decide
        · show waH f w (f + w + 1) - 1 + 0 = waH f w (f + w + 1 + 1)
          unfold waH; rw [if_pos rfl, if_neg (by omega)]; rfl
        · unfold waH; split <;> omega
        · unfold waH; rw [if_neg (by omega), if_neg (by omega), if_neg (by omega)]; rfl
      · refine ⟨⟨nopI, wait_nop2 (by omega) h, rfl, ?_, ?_, ?_⟩, ?_⟩
        · show 0 ≤ waH f w j - 0
          unfold waH; split <;> omega
        · show waH f w j - 0 + 0 = waH f w (j + 1)
          unfold waH; rw [if_neg (by omega), if_neg (by omega)]; rfl
        · unfold waH; split <;> omega
        · unfold waH; rw [if_neg (by omega), if_neg (by omega), if_neg (by omega)]; rfl
theorem wait_follow (j : Nat) : (followAt (waitP f w m).code j = [j + 1] ∧ restsAt (waitP f w m).code j = false ∧ j < f + w + m + 2 ∧ j ≠ f + w) ∨ (followAt (waitP f w m).code j = [j + 1] ∧ restsAt (waitP f w m).code j = true ∧ j = f + w) ∨ (followAt (waitP f w m).code j = [f] ∧ restsAt (waitP f w m).code j = false ∧ j = f + w + m + 2) ∨ (followAt (waitP f w m).code j = [] ∧ restsAt (waitP f w m).code j = true ∧ f + w + m + 2 < j) := by
  unfold followAt restsAt
  by_cases h1 : j < f + w
  · rw [wait_nop h1]
    exact .inl ⟨rfl, rfl, by omega, by omega⟩
  · by_cases h2 : j = f + w
    · subst h2
      rw [wait_sig]
      exact .inr (.inl ⟨rfl, rfl, rfl⟩)
    · by_cases h3 : j = f + w + 1
      · subst h3
        rw [wait_pop]
        exact .inl ⟨rfl, rfl, by omega, by omega⟩
      · by_cases h4 : j < f + w + m + 2
        · rw [wait_nop2 (by omega) h4]
          exact .inl ⟨rfl, rfl, h4, h2⟩
        · by_cases h5 : j = f + w + m + 2
          · subst h5
            rw [wait_jump]
            exact .inr (.inr (.inl ⟨by show [((f : Int)).toNat] = [f]; rw [Int.toNat_natCast], rfl, rfl⟩))
          · rw [wait_none (by omega)]
            exact .inr (.inr (.inr ⟨rfl, rfl, by omega⟩))
theorem wait_ok (h1 : f ≤ 20) (h2 : w + m ≤ 20) : ∃ fa : Fa, checkG (waitP f w m) = (fa, -1, 0) ∧ fa.most = 1 ∧ fa.span = ((max (f + w + 1) (w + m + 3) : Nat) : Int) := by
  have hw := walk_run (H := waH f w) (M := waM f w) (wait_len (f := f) (w := w) (m := m)) (by unfold waH; rw [if_neg (by omega)]) (by unfold waM; rw [if_pos (by omega)]) (f + w + m + 2) (by omega) (fun j hj => wait_straight hj)
  have hf0 : waH f w f = 0 := by unfold waH; rw [if_neg (by omega)]
  have hl0 : waH f w (f + w + m + 2) = 0 := by unfold waH; rw [if_neg (by omega)]
  have h4 := bfs_back (H := waH f w) (f := f + w + m + 3 - (f + w + m + 2)) (mo := waM f w (f + w + m + 2)) (wait_len (f := f) (w := w) (m := m)) wait_jump (j := f) (by show [((f : Int)).toNat] = [f]; rw [Int.toNat_natCast]) (by omega) (by omega) (by show 0 ≤ waH f w (f + w + m + 2) - 0; omega) (by show waH f w (f + w + m + 2) - 0 + 0 = waH f w f; omega) (by omega) (by omega)
  have hro := round_rank (code := (waitP f w m).code) (φ := fun j => if f ≤ j ∧ j ≤ f + w then j + (f + w + m + 3) else j) (fun k x hx => by
    rw [wait_len]
    rcases wait_follow (f := f) (w := w) (m := m) k with ⟨e, _, h, _⟩ | ⟨e, _, h⟩ | ⟨e, _, h⟩ | ⟨e, _, _⟩
    · rw [e] at hx; have := List.mem_singleton.1 hx; omega
    · rw [e] at hx; have := List.mem_singleton.1 hx; omega
    · rw [e] at hx; have := List.mem_singleton.1 hx; omega
    · rw [e] at hx; cases hx) (fun k x hr hx => by
    rcases wait_follow (f := f) (w := w) (m := m) k with ⟨e, _, h, h'⟩ | ⟨e, e2, h⟩ | ⟨e, _, h⟩ | ⟨e, _, _⟩
    · rw [e] at hx
      have := List.mem_singleton.1 hx
      subst this
      split <;> split <;> omega
    · rw [hr] at e2; cases e2
    · rw [e] at hx
      have := List.mem_singleton.1 hx
      subst this
      rw [if_neg (by omega), if_pos (by omega)]
      omega
    · rw [e] at hx; cases hx)
  have hsp : ∀ j, j ≤ f + w + m + 2 → spF (waitP f w m).code ((waitP f w m).code.length + 1) j = if j ≤ f + w then f + w + 1 - j else f + w + m + 3 - j + (w + 1) := fun j hj => by
    have := spF_rank (code := (waitP f w m).code) (ψ := fun j => if j ≤ f + w then f + w + 1 - j else if j ≤ f + w + m + 2 then f + w + m + 3 - j + (w + 1) else 1) (fun k hk => by
      rcases wait_follow (f := f) (w := w) (m := m) k with ⟨_, e, _⟩ | ⟨_, _, h⟩ | ⟨_, e, _⟩ | ⟨_, _, h⟩
      · rw [hk] at e; cases e
      · rw [if_pos (by omega)]; omega
      · rw [hk] at e; cases e
      · rw [if_neg (by omega), if_neg (by omega)]) (fun k hk => by
      rcases wait_follow (f := f) (w := w) (m := m) k with ⟨e, _, h, h'⟩ | ⟨_, e, _⟩ | ⟨e, _, h⟩ | ⟨_, e, _⟩
      · refine ⟨k + 1, e, ?_⟩
        by_cases hk2 : k < f + w
        · rw [if_pos (by omega), if_pos (by omega)]; omega
        · rw [if_neg (by omega), if_pos (by omega), if_neg (by omega), if_pos (by omega)]; omega
      · rw [hk] at e; cases e
      · refine ⟨f, e, ?_⟩
        rw [if_neg (by omega), if_pos (by omega), if_pos (by omega)]; omega
      · rw [hk] at e; cases e) ((waitP f w m).code.length + 1) j (by rw [wait_len]; split <;> (try split) <;> omega) (by split <;> (try split) <;> omega)
    rw [this]
    split
    · rfl
    · first | rfl | rw [if_pos hj]
  have hk := check_ok (wait_img h1 h2) (hw.trans h4) hro
  refine ⟨_, hk, ?_, ?_⟩
  · show max (waM f w (f + w + m + 2)) (waH f w f) = 1
    unfold waM
    rw [hf0, if_neg (by omega)]
    rfl
  · show ((spanM (waitP f w m).code 0 (hsK (waH f w) (f + w + m + 3) (f + w + m + 2)) 0 : Nat) : Int) = _
    have a1 := spanM_le (code := (waitP f w m).code) (B := max (f + w + 1) (w + m + 3)) (hsK (waH f w) (f + w + m + 3) (f + w + m + 2)) 0 0 (by omega) (fun j h hj h0 => by
      have : j < f + w + m + 3 := by
        have := (List.getElem?_eq_some_iff.1 hj).1
        rwa [hsK_len _ (by omega)] at this
      rw [Nat.zero_add, hsp j (by omega)]
      split <;> omega)
    have a2 := spanM_at (code := (waitP f w m).code) (hsK (waH f w) (f + w + m + 3) (f + w + m + 2)) 0 0 0 _ (hsK_le _ _ (by omega)) (by unfold waH; split <;> omega)
    have a3 := spanM_at (code := (waitP f w m).code) (hsK (waH f w) (f + w + m + 3) (f + w + m + 2)) 0 0 (f + w + 1) _ (hsK_le _ _ (by omega)) (by unfold waH; split <;> omega)
    rw [Nat.zero_add, hsp 0 (by omega), if_pos (by omega)] at a2
    rw [Nat.zero_add, hsp (f + w + 1) (by omega), if_neg (by omega)] at a3
    have : spanM (waitP f w m).code 0 (hsK (waH f w) (f + w + m + 3) (f + w + m + 2)) 0 = max (f + w + 1) (w + m + 3) := by omega
    rw [this]
end
end Go.Proofs.YtielnengimninaaGreatDoor
