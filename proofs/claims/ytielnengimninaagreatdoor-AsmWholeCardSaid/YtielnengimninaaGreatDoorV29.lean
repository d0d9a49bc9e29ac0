/- The programs of the laws VerifyEnds, VerifyStack, VerifyLoops: what they are read as, and what is known of them; plain. -/
import Derived.Test.YtielnengimninaaGreatDoorV28
namespace Go.Proofs.YtielnengimninaaGreatDoor
open Go.RowKit Go.Own Go.Own.MapTy Go.Va Go.Sort
open Go.Own.Cells (sz enc)
def mkB (x : List UInt8) : ByteArray := ⟨x.toArray⟩
theorem textB_len (ls : List (List UInt8)) (b : Nat) (h : ∀ x ∈ ls, x.length + 1 ≤ b) : (textB ls).length ≤ ls.length * b := by
  induction ls with
  | nil => simp [textB]
  | cons x r ih =>
    have h1 := h x (List.mem_cons_self ..)
    have h2 := ih (fun y hy => h y (List.mem_cons_of_mem _ hy))
    unfold textB at h2 ⊢
    have h3 : (x :: r).length * b = r.length * b + b := by rw [List.length_cons, Nat.add_mul, Nat.one_mul]
    rw [List.flatMap_cons, List.length_append, List.length_append, h3, List.length_singleton]
    omega
theorem textB_app (a b : List (List UInt8)) : textB (a ++ b) = textB a ++ textB b := List.flatMap_append
/-- the lines of the laws -/
def Kind (x : List UInt8) : Prop := x = nopB ∨ x = popB ∨ x = nowB ∨ x = failB ∨ x = labB ∨ x = sigB ∨ x = jumpB
theorem Kind.nl {x : List UInt8} (h : Kind x) : 10 ∉ x := by
  rcases h with rfl | rfl | rfl | rfl | rfl | rfl | rfl <;> decide
theorem Kind.len {x : List UInt8} (h : Kind x) : x.length + 1 ≤ 16 := by
  rcases h with rfl | rfl | rfl | rfl | rfl | rfl | rfl <;> decide
/-- a text of such lines is read -/
theorem asmL_kind {s : ByteArray} {ls : List (List UInt8)} (h0 : 0 < ls.length) (hs : s.data.toList = textB ls) (hk : ∀ x ∈ ls, Kind x) (hl : ls.length ≤ 200) {st : RSt} (hq : linesR (ls.map mkB) 0 st0 = ((0, 0), st)) {code : List In} (hj : jumpsR st.labels st.jumps st.code = ((0, 0), code)) (hi : imgL ⟨code, st.consts, st.names, st.places⟩ = 0) :
    asmL s = (⟨code, st.consts, st.names, st.places⟩, 0, 0) := by
  cases ls with
  | nil => simp at h0
  | cons l r =>
    refine asmL_text hs (fun x hx => (hk x hx).nl) ?_ hq hj hi
    have h1 := textB_len (l :: r) 16 (fun x hx => (hk x hx).len)
    have h2 : s.size = (textB (l :: r)).length := by rw [← hs]; exact Lib.size_eq s
    have h3 : (l :: r).length * 16 ≤ 200 * 16 := Nat.mul_le_mul_right _ hl
    omega
def nopI : In := ⟨0, 0⟩
def popI : In := ⟨2, 0⟩
def nowI : In := ⟨16, 0⟩
def failI : In := ⟨26, 0⟩
def sigI : In := ⟨22, 0⟩
theorem lr_rep {x : List UInt8} {c : In} (h : ∀ (n : Int) (st : RSt), lineL n ⟨x.toArray⟩ st = (0, { st with code := st.code ++ [c] })) (k n : Nat) (st : RSt) : linesR ((List.replicate k x).map mkB) n st = ((0, 0), { st with code := st.code ++ List.replicate k c }) := by
  rw [List.map_replicate]
  exact linesR_rep h k n st
/-! ### VerifyEnds -/
def endsP (n : Nat) (e : Bool) : Img := ⟨(bif e then [failI] else []) ++ List.replicate n nopI, [], bif e then [xN] else [], 0⟩
def endsT (n : Nat) (e : Bool) : List (List UInt8) := (bif e then [failB] else []) ++ List.replicate n nopB
theorem ends_img (n : Nat) (e : Bool) (h0 : 0 < n) (h1 : n ≤ 40) : imgL (endsP n e) = 0 := by
  refine imgL_all (by simp [endsP]; omega) (by cases e <;> simp [endsP] <;> omega) rfl (by cases e <;> simp [endsP]) rfl (by cases e <;> kernel_rfl) (fun c hc => ?_)
  simp only [endsP, List.mem_append, List.mem_replicate] at hc
  rcases hc with hc | ⟨_, rfl⟩
  · cases e with
    | false => simp at hc
    | true =>
      simp only [cond_true, List.mem_singleton] at hc
      subst hc
      exact ⟨by kernel_rfl, by decide, by show (0 : Int) < mostL (endsP n true) 2; simp [mostL, endsP]⟩
  · exact ⟨by kernel_rfl, by decide, by show (0 : Int) < mostL (endsP n e) 0; simp [mostL]⟩
theorem ends_asm {s : ByteArray} (n : Nat) (e : Bool) (h0 : 0 < n) (h1 : n ≤ 40) (hs : s.data.toList = textB (endsT n e)) : asmL s = (endsP n e, 0, 0) := by
  have hq : linesR ((endsT n e).map mkB) 0 st0 = ((0, 0), ⟨(endsP n e).code, [], (endsP n e).names, 0, [], []⟩) := by
    unfold endsT
    rw [List.map_append]
    cases e with
    | false =>
      simp only [cond_false, List.map_nil, List.nil_append]
      rw [lr_rep line_nop]
      rfl
    | true =>
      simp only [cond_true, List.map_cons, List.map_nil]
      rw [linesR_app (a := [mkB failB]) (linesR_one (line_fail _ st0 rfl)), lr_rep line_nop]
      rfl
  exact asmL_kind (by cases e <;> simp [endsT] <;> omega) hs (fun x hx => by
    simp only [endsT, List.mem_append, List.mem_replicate] at hx
    rcases hx with hx | ⟨_, rfl⟩
    · cases e with
      | false => simp at hx
      | true =>
        simp only [cond_true, List.mem_singleton] at hx
        subst hx
        exact .inr (.inr (.inr (.inl rfl)))
    · exact .inl rfl) (by cases e <;> simp [endsT] <;> omega) hq rfl (ends_img n e h0 h1)
theorem nop_follow (k : Nat) : followN nopI k = [k + 1] := rfl
theorem rep_at {α : Type} {n k : Nat} (x : α) (h : k < n) : (List.replicate n x)[k]? = some x := by rw [List.getElem?_replicate, if_pos h]
theorem ends_no (n : Nat) (h0 : 0 < n) (h1 : n ≤ 40) : checkG (endsP n false) = (noFa, (n : Int) - 1, 132) := by
  have hn : (endsP n false).code.length = n := by simp [endsP]
  have hc : ∀ j, j < n → (endsP n false).code[j]? = some nopI := fun j hj => by simp [endsP, hj]
  have hw := walk_run (H := fun _ => 0) (M := fun _ => 0) hn rfl rfl (n - 1) (by omega) (fun j hj => ⟨⟨nopI, hc j (by omega), rfl, Int.le_refl 0, rfl, (by show (0 : Int) ≤ 32; decide)⟩, rfl⟩)
  have h2 := bfs_out (H := fun _ => 0) (f := n - (n - 1)) (mo := 0) hn (hc (n - 1) (by omega)) rfl (by omega) (by decide) (by decide)
  refine check_err (ends_img n false h0 h1) ?_ rfl
  rw [hw, h2]
  have : (((n - 1 : Nat) : Int)) = (n : Int) - 1 := by omega
  rw [this]
theorem ends_yes (n : Nat) (h0 : 0 < n) (h1 : n ≤ 40) : ∃ fa : Fa, checkG (endsP n true) = (fa, -1, 0) ∧ reachL fa.heights = 1 ∧ fa.span = 1 ∧ fa.heights.length = n + 1 ∧ fa.heights[n]? = some (-1) := by
  have hn : (endsP n true).code.length = n + 1 := by simp [endsP]
  have hc0 : (endsP n true).code[0]? = some failI := by simp [endsP]
  have hw := walk_start (H := fun _ => 0) hn (by omega) rfl
  have h2 := bfs_end (H := fun _ => 0) (f := n + 1) (mo := 0) hn hc0 rfl (by decide) (by decide)
  have hra : restsAt (endsP n true).code 0 = true := by
    unfold restsAt
    rw [hc0]
    rfl
  have hh : ∀ (j : Nat) (h : Int), (hsK (fun _ => 0) (n + 1) 0)[j]? = some h → 0 ≤ h → j = 0 := fun j h hj h0 => by
    by_cases h1 : j = 0
    · exact h1
    · exfalso
      by_cases h2 : j < n + 1
      · rw [hsK_gt _ (by omega) h2] at hj
        cases hj
        omega
      · rw [List.getElem?_eq_none (by rw [hsK_len _ (by omega)]; omega)] at hj
        cases hj
  have hk := check_some (ends_img n true h0 h1) (hw.trans h2) (fun j h hj h0 => by
    obtain rfl := hh j h hj h0
    unfold roundL
    rw [hra]
    rfl)
  have hs : spF (endsP n true).code ((endsP n true).code.length + 1) 0 = 1 := by
    rw [spF, hra]
    rfl
  have hsp : spanM (endsP n true).code 0 (hsK (fun _ => 0) (n + 1) 0) 0 = 1 := by
    have a1 := spanM_le (code := (endsP n true).code) (B := 1) (hsK (fun _ => 0) (n + 1) 0) 0 0 (by omega) (fun j h hj h0 => by
      obtain rfl := hh j h hj h0
      exact Nat.le_of_eq hs)
    have a2 := spanM_at (code := (endsP n true).code) (hsK (fun _ => 0) (n + 1) 0) 0 0 0 0 (hsK_le _ _ (Nat.le_refl 0)) (by omega)
    rw [hs] at a2
    omega
  refine ⟨_, hk, ?_, ?_, hsK_len _ (by omega), hsK_gt _ h0 (by omega)⟩
  · show reachL (hsK (fun _ => 0) (n + 1) 0) = 1
    have hrep : ∀ m : Nat, reachL (List.replicate m (-1)) = 0 := fun m => by
      induction m with
      | zero => rfl
      | succ m ih => rw [List.replicate_succ, reachL, ih]; rfl
    unfold hsK
    simp only [List.range_succ, List.range_zero, List.nil_append, List.map_cons, List.map_nil, List.cons_append, reachL, hrep]
    rfl
  · show ((spanM (endsP n true).code 0 (hsK (fun _ => 0) (n + 1) 0) 0 : Nat) : Int) = 1
    rw [hsp]
    rfl
/-! ### VerifyStack -/
def stackP (a b : Nat) : Img := ⟨List.replicate a nowI ++ (List.replicate b popI ++ [failI]), [], [xN], 0⟩
def stackT (a b : Nat) : List (List UInt8) := List.replicate a nowB ++ (List.replicate b popB ++ [failB])
theorem stack_img (a b : Nat) (h1 : a ≤ 40) (h2 : b ≤ 40) : imgL (stackP a b) = 0 := by
  refine imgL_all (by simp [stackP]; omega) (by simp [stackP]; omega) rfl (by simp [stackP]) rfl (by kernel_rfl) (fun c hc => ?_)
  simp only [stackP, List.mem_append, List.mem_replicate, List.mem_singleton] at hc
  rcases hc with ⟨_, rfl⟩ | ⟨_, rfl⟩ | rfl
  · exact ⟨by kernel_rfl, by decide, by show (0 : Int) < mostL (stackP a b) 0; simp [mostL]⟩
  · exact ⟨by kernel_rfl, by decide, by show (0 : Int) < mostL (stackP a b) 0; simp [mostL]⟩
  · exact ⟨by kernel_rfl, by decide, by show (0 : Int) < mostL (stackP a b) 2; simp [mostL, stackP]⟩
theorem stack_asm {s : ByteArray} (a b : Nat) (h1 : a ≤ 40) (h2 : b ≤ 40) (hs : s.data.toList = textB (stackT a b)) : asmL s = (stackP a b, 0, 0) := by
  have hq : linesR ((stackT a b).map mkB) 0 st0 = ((0, 0), ⟨(stackP a b).code, [], [xN], 0, [], []⟩) := by
    unfold stackT
    rw [List.map_append, List.map_append, linesR_app (lr_rep line_now a 0 st0), linesR_app (lr_rep line_pop b _ _)]
    simp only [List.map_cons, List.map_nil]
    refine (linesR_one (line_fail _ _ rfl)).trans ?_
    simp [stackP, st0, nowI, popI, failI]
  exact asmL_kind (by simp [stackT]; omega) hs (fun x hx => by
    simp only [stackT, List.mem_append, List.mem_replicate, List.mem_singleton] at hx
    rcases hx with ⟨_, rfl⟩ | ⟨_, rfl⟩ | rfl
    · exact .inr (.inr (.inl rfl))
    · exact .inr (.inl rfl)
    · exact .inr (.inr (.inr (.inl rfl)))) (by simp [stackT]; omega) hq rfl (stack_img a b h1 h2)
section
variable {a b : Nat}
theorem stack_len : (stackP a b).code.length = a + b + 1 := by simp [stackP]; omega
theorem stack_now {j : Nat} (h : j < a) : (stackP a b).code[j]? = some nowI := by
  show (List.replicate a nowI ++ (List.replicate b popI ++ [failI]))[j]? = _
  rw [List.getElem?_append_left (by simpa using h), rep_at _ h]
theorem stack_pop {j : Nat} (h : a ≤ j) (h2 : j < a + b) : (stackP a b).code[j]? = some popI := by
  show (List.replicate a nowI ++ (List.replicate b popI ++ [failI]))[j]? = _
  rw [List.getElem?_append_right (by simpa using h), List.getElem?_append_left (by simp; omega), List.length_replicate, rep_at _ (by omega)]
theorem stack_fail : (stackP a b).code[a + b]? = some failI := by
  show (List.replicate a nowI ++ (List.replicate b popI ++ [failI]))[a + b]? = _
  rw [List.getElem?_append_right (by simp), List.getElem?_append_right (by simp)]
  simp
theorem stack_none {j : Nat} (h : a + b < j) : (stackP a b).code[j]? = none := List.getElem?_eq_none (by rw [stack_len]; omega)
def stH (a : Nat) (j : Nat) : Int := if j ≤ a then (j : Int) else 2 * a - j
def stM (a : Nat) (j : Nat) : Int := min (j : Int) a
theorem stack_straight {j : Nat} (h1 : j < a + b) (h2 : j < 32 ∨ a ≤ 32) (h3 : j < 2 * a ∨ j < a) : Straight (stackP a b).code (stH a) j ∧ stM a (j + 1) = max (stM a j) (stH a (j + 1)) := by
  unfold stM
  by_cases hj : j < a
  · refine ⟨⟨nowI, stack_now hj, rfl, ?_, ?_, ?_⟩, ?_⟩
    · show 0 ≤ stH a j - 0
      unfold stH
      rw [if_pos (by omega)]
      omega
    · show stH a j - 0 + 1 = stH a (j + 1)
      unfold stH
      rw [if_pos (by omega), if_pos (by omega)]
      omega
    · unfold stH
      rw [if_pos (by omega)]
      omega
    · unfold stH
      rw [if_pos (by omega)]
      omega
  · refine ⟨⟨popI, stack_pop (by omega) h1, rfl, ?_, ?_, ?_⟩, ?_⟩
    · show 0 ≤ stH a j - 1
      unfold stH
      split <;> omega
    · show stH a j - 1 + 0 = stH a (j + 1)
      unfold stH
      rw [if_neg (show ¬ j + 1 ≤ a by omega)]
      split <;> omega
    · unfold stH
      rw [if_neg (by omega)]
      omega
    · unfold stH
      rw [if_neg (by omega)]
      omega
theorem stack_high (h1 : 32 < a) (h2 : a ≤ 40) (h3 : b ≤ 40) : checkG (stackP a b) = (noFa, 32, 131) := by
  have hw := walk_run (H := stH a) (M := stM a) (stack_len (a := a) (b := b)) (by unfold stH; simp) (by unfold stM; omega) 32 (by omega) (fun j hj => by
    refine ⟨⟨nowI, stack_now (by omega), rfl, ?_, ?_, ?_⟩, ?_⟩
    · show 0 ≤ stH a j - 0
      unfold stH
      rw [if_pos (by omega)]
      omega
    · show stH a j - 0 + 1 = stH a (j + 1)
      unfold stH
      rw [if_pos (by omega), if_pos (by omega)]
      omega
    · unfold stH
      rw [if_pos (by omega)]
      omega
    · unfold stH stM
      rw [if_pos (by omega)]
      omega)
  have h4 := bfs_high (H := stH a) (f := a + b + 1 - 32) (mo := stM a 32) stack_len (stack_now (b := b) h1) (by show 0 ≤ stH a 32 - 0; unfold stH; rw [if_pos (by omega)]; omega) (by show 32 < stH a 32 - 0 + 1; unfold stH; rw [if_pos (by omega)]; omega)
  exact check_err (stack_img a b h2 h3) (by rw [hw]; exact h4) rfl
theorem stack_low (h1 : a ≤ 32) (h2 : a < b) (h3 : b ≤ 40) : checkG (stackP a b) = (noFa, 2 * (a : Int), 131) := by
  have hw := walk_run (H := stH a) (M := stM a) (stack_len (a := a) (b := b)) (by unfold stH; simp) (by unfold stM; omega) (2 * a) (by omega) (fun j hj => stack_straight (b := b) (by omega) (.inr h1) (.inl hj))
  have h4 := bfs_low (H := stH a) (f := a + b + 1 - 2 * a) (mo := stM a (2 * a)) stack_len (stack_pop (b := b) (show a ≤ 2 * a by omega) (by omega)) (by show stH a (2 * a) - 1 < 0; unfold stH; split <;> omega)
  refine check_err (k := 2 * (a : Int)) (stack_img a b (by omega) h3) (by rw [hw, h4]; simp) rfl
theorem stack_ok (h1 : a ≤ 32) (h2 : b ≤ a) : ∃ fa : Fa, checkG (stackP a b) = (fa, -1, 0) ∧ fa.most = a ∧ fa.span = (a : Int) + b + 1 := by
  have hw := walk_run (H := stH a) (M := stM a) (stack_len (a := a) (b := b)) (by unfold stH; simp) (by unfold stM; omega) (a + b) (by omega) (fun j hj => stack_straight (b := b) hj (.inr h1) (by omega))
  have hH : 0 ≤ stH a (a + b) ∧ stH a (a + b) ≤ a := by unfold stH; split <;> omega
  have h4 := bfs_end (H := stH a) (f := a + b + 1 - (a + b)) (mo := stM a (a + b)) stack_len (stack_fail (a := a) (b := b)) rfl (by show 0 ≤ stH a (a + b) - 0; omega) (by show stH a (a + b) - 0 + 0 ≤ 32; omega)
  have hfo : ∀ j, (followAt (stackP a b).code j = [j + 1] ∧ restsAt (stackP a b).code j = false ∧ j < a + b) ∨ (followAt (stackP a b).code j = [] ∧ restsAt (stackP a b).code j = true ∧ a + b ≤ j) := fun j => by
    unfold followAt restsAt
    by_cases hj : j < a
    · rw [stack_now hj]
      exact .inl ⟨rfl, rfl, by omega⟩
    · by_cases hj2 : j < a + b
      · rw [stack_pop (by omega) hj2]
        exact .inl ⟨rfl, rfl, hj2⟩
      · by_cases hj3 : j = a + b
        · subst hj3
          rw [stack_fail]
          exact .inr ⟨rfl, rfl, by omega⟩
        · rw [stack_none (by omega)]
          exact .inr ⟨rfl, rfl, by omega⟩
  have hro := round_rank (code := (stackP a b).code) (φ := id) (fun k x hx => by
    rw [stack_len]
    rcases hfo k with ⟨e, _, h⟩ | ⟨e, _, _⟩
    · rw [e] at hx
      have := List.mem_singleton.1 hx
      omega
    · rw [e] at hx; cases hx) (fun k x hr hx => by
    rcases hfo k with ⟨e, _, h⟩ | ⟨e, _, _⟩
    · rw [e] at hx
      have := List.mem_singleton.1 hx
      show k < x
      omega
    · rw [e] at hx; cases hx)
  have hsp : ∀ j, j ≤ a + b → spF (stackP a b).code ((stackP a b).code.length + 1) j = a + b + 1 - j := fun j hj => by
    have := spF_rank (code := (stackP a b).code) (ψ := fun j => if j ≤ a + b then a + b + 1 - j else 1) (fun k hk => by
      rcases hfo k with ⟨_, e, h⟩ | ⟨_, e, h⟩
      · rw [hk] at e; cases e
      · split <;> omega) (fun k hk => by
      rcases hfo k with ⟨e, _, h⟩ | ⟨_, e, h⟩
      · refine ⟨k + 1, e, ?_⟩
        rw [if_pos (by omega), if_pos (by omega)]
        omega
      · rw [hk] at e; cases e) ((stackP a b).code.length + 1) j (by rw [if_pos hj, stack_len]; omega) (by rw [if_pos hj]; omega)
    rwa [if_pos hj] at this
  have hk := check_ok (stack_img a b (by omega) (by omega)) (hw.trans h4) hro
  refine ⟨_, hk, ?_, ?_⟩
  · show max (stM a (a + b)) (stH a (a + b) - 0 + 0) = (a : Int)
    unfold stM
    omega
  · show ((spanM (stackP a b).code 0 (hsK (stH a) (a + b + 1) (a + b)) 0 : Nat) : Int) = (a : Int) + b + 1
    have a1 := spanM_le (code := (stackP a b).code) (B := a + b + 1) (hsK (stH a) (a + b + 1) (a + b)) 0 0 (by omega) (fun j h hj h0 => by
      have : j < a + b + 1 := by
        have := (List.getElem?_eq_some_iff.1 hj).1
        rwa [hsK_len _ (by omega)] at this
      rw [Nat.zero_add, hsp j (by omega)]
      omega)
    have a2 := spanM_at (code := (stackP a b).code) (hsK (stH a) (a + b + 1) (a + b)) 0 0 0 _ (hsK_le _ _ (by omega)) (by unfold stH; simp)
    rw [Nat.zero_add, hsp 0 (by omega)] at a2
    omega
end
end Go.Proofs.YtielnengimninaaGreatDoor
