/- the tidy program: plain. -/
import Derived.Test.YtielnengimninaaGreatDoorV53
import Derived.Test.YtielnengimninaaGreatDoorV27
import Derived.Test.YtielnengimninaaGreatDoorV59
namespace Go.Va
open Go.Own Go.RowKit Go.Own.MapTy
mutual
theorem walk_clone : ∀ (x : Val) (d p : Nat) (e : Int), walkV (cloneV x) d (p, e) = walkV x d (p, e)
  | .mk k n s l, d, p, e => by
    have h := walk_cloneL l
    rw [walkV_eq, walkV_eq (.mk k n s l), clone_kind, clone_txt, clone_list]
    show (bif e != 0 then (p, e) else bif decide (256 ≤ p) then (p + 1, 2) else bif k == 0 || k == 1 then (p + 1, 0) else bif k == 2 then (p + 1, bif decide (256 < (bif k == 2 then s else (⟨#[]⟩ : ByteArray)).size) then 2 else 0) else bif k == 3 then walkV.walkL (bif k == 3 then l.map cloneV else []) (d + 1) (p + 1, bif decide (8 ≤ d) then 30 else bif decide (64 < (bif k == 3 then l.map cloneV else []).length) then 2 else 0) else (p + 1, 9)) = (bif e != 0 then (p, e) else bif decide (256 ≤ p) then (p + 1, 2) else bif k == 0 || k == 1 then (p + 1, 0) else bif k == 2 then (p + 1, bif decide (256 < s.size) then 2 else 0) else bif k == 3 then walkV.walkL l (d + 1) (p + 1, bif decide (8 ≤ d) then 30 else bif decide (64 < l.length) then 2 else 0) else (p + 1, 9))
    cases (e != 0)
    · cases decide (256 ≤ p)
      · cases (k == 0 || k == 1)
        · cases (k == 2)
          · cases (k == 3)
            · rfl
            · simp only [cond_true, cond_false, List.length_map]
              exact h _ _
          · rfl
        · rfl
      · rfl
    · rfl
theorem walk_cloneL : ∀ (l : List Val) (d : Nat) (c : Nat × Int), walkV.walkL (l.map cloneV) d c = walkV.walkL l d c
  | [], d, c => rfl
  | x :: r, d, (p, e) => by
    have h1 := walk_clone x d p e
    have h2 := walk_cloneL r
    rw [List.map_cons, walkL_cons, walkL_cons, h1, h2]
end
theorem check_clone (x : Val) : checkL (cloneV x) = checkL x := by
  unfold checkL
  rw [walk_clone, bytes_clone]
theorem distinct_len {α : Type} : ∀ (l m : List α), (∀ (i k : Nat) (x y : α), k < i → l[i]? = some x → l[k]? = some y → x ≠ y) → (∀ x ∈ l, x ∈ m) → l.length ≤ m.length
  | [], _, _, _ => Nat.zero_le _
  | x :: r, m, hd, hm => by
    classical
    have hx : x ∈ m := hm x List.mem_cons_self
    have h := distinct_len r (m.erase x) (fun i k a b hk ha hb => hd (i + 1) (k + 1) a b (by omega) (by simpa using ha) (by simpa using hb)) (fun y hy => by
      have hne : y ≠ x := by
        obtain ⟨j, hj⟩ := List.getElem?_of_mem hy
        exact hd (j + 1) 0 y x (by omega) (by simpa using hj) rfl
      exact (List.mem_erase_of_ne hne).2 (hm y (List.mem_cons_of_mem _ hy)))
    have h2 := List.length_erase_of_mem hx
    have h3 : 0 < m.length := List.length_pos_of_mem hx
    rw [List.length_cons]
    omega
end Go.Va
namespace Go.Proofs.YtielnengimninaaGreatDoor
open Go.RowKit Go.Own Go.Own.MapTy Go.Va Go.Sort
theorem constErr_all : ∀ {l : List Val}, (∀ x ∈ l, checkL x = 0) → constErr l = 0
  | [], _ => rfl
  | x :: r, h => by
    rw [constErr, h x List.mem_cons_self]
    exact constErr_all (fun y hy => h y (List.mem_cons_of_mem _ hy))
theorem nameErr_all : ∀ {l : List ByteArray}, (∀ x ∈ l, x.size ≤ 64) → nameErr l = 0
  | [], _ => rfl
  | x :: r, h => by
    have := h x List.mem_cons_self
    rw [nameErr, decide_eq_false (show ¬ 64 < x.size by omega)]
    exact nameErr_all (fun y hy => h y (List.mem_cons_of_mem _ hy))
theorem imgL_zero {p : Img} (h0 : 0 < p.code.length) (h1 : p.code.length ≤ 512) (h2 : p.consts.length ≤ 64) (h3 : p.names.length ≤ 32) (h4 : 0 ≤ p.places) (h5 : p.places ≤ 16) (h6 : ∀ x ∈ p.consts, checkL x = 0) (h7 : ∀ x ∈ p.names, x.size ≤ 64) (h8 : ∀ c ∈ p.code, (ofL c.op).2 = true ∧ 0 ≤ c.a ∧ c.a < mostL p (ofL c.op).1.operand) : imgL p = 0 := by
  unfold imgL
  rw [constErr_all h6, nameErr_all h7, codeErr_all h8, decide_eq_false (show ¬ p.code.length = 0 by omega), decide_eq_false (show ¬ 512 < p.code.length by omega), decide_eq_false (show ¬ 64 < p.consts.length by omega), decide_eq_false (show ¬ 32 < p.names.length by omega), decide_eq_false (show ¬ p.places < 0 by omega), decide_eq_false (show ¬ 16 < p.places by omega)]
  rfl
/-- what an instruction of a program speaks of -/
def argOf (p : Img) (c : In) : Arg :=
  bif (ofL c.op).1.operand == 1 then .val (cloneV (p.consts[c.a.toNat]?.getD vNil)) else
  bif (ofL c.op).1.operand == 2 then .name (p.names[c.a.toNat]?.getD ⟨#[]⟩) else
  bif (ofL c.op).1.operand == 3 then .place c.a else .int c.a
def meanP (p : Img) : List (Int × Arg) := p.code.map fun c => (c.op, argOf p c)
theorem tidyS_put (p : Img) (c : In) (st : RSt) : tidyS p c st = putI (c.op, argOf p c) st := by
  unfold tidyS argOf putI
  cases (ofL c.op).1.operand == 1
  · cases (ofL c.op).1.operand == 2
    · cases (ofL c.op).1.operand == 3
      · rfl
      · rfl
    · rfl
  · rfl
theorem tidyR_puts (p : Img) : ∀ (l : List In) (st : RSt), tidyR p l st = putsI (l.map fun c => (c.op, argOf p c)) st
  | [], _ => rfl
  | c :: r, st => by rw [tidyR, tidyS_put, List.map_cons, putsI, tidyR_puts p r]
theorem tidyP_puts {p : Img} (h : imgL p = 0) : tidyP p = (imgOf (putsI (meanP p) st0), 0) := by
  unfold tidyP
  rw [h, tidyR_puts]
  rfl
theorem argOf_1 {p : Img} {c : In} (h : (ofL c.op).1.operand = 1) : argOf p c = .val (cloneV (p.consts[c.a.toNat]?.getD vNil)) := by unfold argOf; rw [h]; rfl
theorem argOf_2 {p : Img} {c : In} (h : (ofL c.op).1.operand = 2) : argOf p c = .name (p.names[c.a.toNat]?.getD ⟨#[]⟩) := by unfold argOf; rw [h]; rfl
theorem argOf_3 {p : Img} {c : In} (h : (ofL c.op).1.operand = 3) : argOf p c = .place c.a := by unfold argOf; rw [h]; rfl
theorem argOf_4 {p : Img} {c : In} (h1 : (ofL c.op).1.operand ≠ 1) (h2 : (ofL c.op).1.operand ≠ 2) (h3 : (ofL c.op).1.operand ≠ 3) : argOf p c = .int c.a := by
  unfold argOf
  rw [show ((ofL c.op).1.operand == 1) = false by simpa using h1, show ((ofL c.op).1.operand == 2) = false by simpa using h2, show ((ofL c.op).1.operand == 3) = false by simpa using h3]
  rfl
theorem fit_arg {p : Img} {c : In} (h : 0 ≤ c.a) : fitA (c.op, argOf p c) := by
  by_cases h1 : (ofL c.op).1.operand = 1
  · rw [argOf_1 h1]; exact h1
  · by_cases h2 : (ofL c.op).1.operand = 2
    · rw [argOf_2 h2]; exact h2
    · by_cases h3 : (ofL c.op).1.operand = 3
      · rw [argOf_3 h3]; exact ⟨h3, h⟩
      · rw [argOf_4 h1 h2 h3]; exact ⟨h1, h2, h3⟩
/-- what a program that was put together must keep to be one that may be -/
structure PutOk (l : List (Int × Arg)) (n : Nat) : Prop where
  fit : ∀ m ∈ l, fitA m
  op : ∀ m ∈ l, (ofL m.1).2 = true
  val : ∀ op x, (op, Arg.val x) ∈ l → checkL x = 0
  int : ∀ op k, (op, Arg.int k) ∈ l → 0 ≤ k ∧ k < (if (ofL op).1.operand = 4 then (n : Int) else if (ofL op).1.operand = 5 then 17 else 1)
/-- the operands of a program that was put together are ones that there are -/
theorem put_opers {l : List (Int × Arg)} (h : PutOk l l.length) : ∀ c ∈ (putsI l st0).code, (ofL c.op).2 = true ∧ 0 ≤ c.a ∧ c.a < mostL (imgOf (putsI l st0)) (ofL c.op).1.operand := by
  intro c hc
  obtain ⟨i, hi⟩ := List.getElem?_of_mem hc
  obtain ⟨hl, hm⟩ := means_all l
  have hli : i < l.length := by have := lt_of_get hi; omega
  have hmi : l[i]? = some l[i] := List.getElem?_eq_getElem hli
  have hM := hm i c _ hi hmi
  have hmem : l[i] ∈ l := List.getElem_mem hli
  generalize l[i] = m at hM hmem
  obtain ⟨op, a⟩ := m
  obtain ⟨h1, h2⟩ := hM
  have h1 : c.op = op := h1
  have hf := h.fit _ hmem
  have ho := h.op _ hmem
  rw [h1]
  refine ⟨ho, ?_⟩
  cases a with
  | val x =>
    obtain ⟨j, y, e, hy, _⟩ := h2
    have hf : (ofL op).1.operand = 1 := hf
    rw [hf, e]
    refine ⟨by omega, ?_⟩
    show (j : Int) < ((putsI l st0).consts.length : Int)
    have := lt_of_get hy
    omega
  | name s =>
    obtain ⟨j, e, hy⟩ := h2
    have hf : (ofL op).1.operand = 2 := hf
    rw [hf, e]
    refine ⟨by omega, ?_⟩
    show (j : Int) < ((putsI l st0).names.length : Int)
    have := lt_of_get hy
    omega
  | place n =>
    have h2 : c.a = n := h2
    have hf : (ofL op).1.operand = 3 ∧ 0 ≤ n := hf
    rw [hf.1, h2]
    refine ⟨hf.2, ?_⟩
    show n < (putsI l st0).places
    have := place_le l st0 op n hmem
    omega
  | int n =>
    have h2 : c.a = n := h2
    have hf : (ofL op).1.operand ≠ 1 ∧ (ofL op).1.operand ≠ 2 ∧ (ofL op).1.operand ≠ 3 := hf
    have hk := h.int op n hmem
    rw [h2]
    refine ⟨hk.1, ?_⟩
    have hlen : ((imgOf (putsI l st0)).code.length : Int) = l.length := by show ((putsI l st0).code.length : Int) = _; rw [hl]
    rcases operand_bd6 op with e | e | e | e | e | e
    · rw [e] at hk ⊢; simpa [mostL] using hk.2
    · omega
    · omega
    · omega
    · rw [e] at hk ⊢
      show n < ((imgOf (putsI l st0)).code.length : Int)
      rw [hlen]
      simpa using hk.2
    · rw [e] at hk ⊢; simpa [mostL] using hk.2
theorem put_img {l : List (Int × Arg)} (h : PutOk l l.length) (h0 : 0 < l.length) (h1 : l.length ≤ 512) (h2 : (putsI l st0).consts.length ≤ 64) (h3 : (putsI l st0).names.length ≤ 32) (h4 : 0 ≤ (putsI l st0).places ∧ (putsI l st0).places ≤ 16) (h5 : ∀ x ∈ (putsI l st0).names, x.size ≤ 64) : imgL (imgOf (putsI l st0)) = 0 := by
  obtain ⟨hl, _⟩ := means_all l
  refine imgL_zero (by show 0 < (putsI l st0).code.length; omega) (by show (putsI l st0).code.length ≤ 512; omega) h2 h3 h4.1 h4.2 (fun x hx => ?_) h5 (put_opers h)
  rcases (puts_mem l st0).1 x hx with hx | ⟨op, hx⟩
  · simp [st0] at hx
  · exact h.val op x hx
/-- do two programs do the same, instruction by instruction? -/
def SameAt (p q : Img) (c d : In) : Prop :=
  c.op = d.op ∧ ((ofL c.op).1.operand = 1 → ∃ (i j : Nat) (x y : Val), c.a = i ∧ d.a = j ∧ p.consts[i]? = some x ∧ q.consts[j]? = some y ∧ cloneV x = cloneV y) ∧
  ((ofL c.op).1.operand = 2 → ∃ (i j : Nat) (s : ByteArray), c.a = i ∧ d.a = j ∧ p.names[i]? = some s ∧ q.names[j]? = some s) ∧
  ((ofL c.op).1.operand ≠ 0 → (ofL c.op).1.operand ≠ 1 → (ofL c.op).1.operand ≠ 2 → c.a = d.a)
def SameP (p q : Img) : Prop := p.code.length = q.code.length ∧ ∀ (i : Nat) c d, p.code[i]? = some c → q.code[i]? = some d → SameAt p q c d
/-- what a program that may be has at an instruction -/
theorem at_ok {p : Img} (h : imgL p = 0) {c : In} (hc : c ∈ p.code) : (ofL c.op).2 = true ∧ 0 ≤ c.a ∧ ((ofL c.op).1.operand = 1 → ∃ x, p.consts[c.a.toNat]? = some x) ∧ ((ofL c.op).1.operand = 2 → ∃ x, p.names[c.a.toNat]? = some x) ∧ ((ofL c.op).1.operand = 3 → c.a + 1 ≤ p.places) ∧ ((ofL c.op).1.operand = 4 → c.a < p.code.length) ∧ ((ofL c.op).1.operand = 5 → c.a < 17) ∧ ((ofL c.op).1.operand = 0 → c.a < 1) := by
  obtain ⟨_, _, _, _, _, _, _, _, h6⟩ := imgL_ok h
  obtain ⟨h1, h2, h3⟩ := h6 c hc
  refine ⟨h1, h2, fun e => ?_, fun e => ?_, fun e => ?_, fun e => ?_, fun e => ?_, fun e => ?_⟩
  · rw [e] at h3
    have h3 : c.a < (p.consts.length : Int) := h3
    exact ⟨_, List.getElem?_eq_getElem (by omega)⟩
  · rw [e] at h3
    have h3 : c.a < (p.names.length : Int) := h3
    exact ⟨_, List.getElem?_eq_getElem (by omega)⟩
  · rw [e] at h3; have h3 : c.a < p.places := h3; omega
  · rw [e] at h3; exact h3
  · rw [e] at h3; exact h3
  · rw [e] at h3; exact h3
theorem mean_ok {p : Img} (h : imgL p = 0) : PutOk (meanP p) (meanP p).length := by
  have hlen : (meanP p).length = p.code.length := by unfold meanP; simp
  have hc := consts_ok (imgL_ok h).2.2.2.2.2.2.1
  refine ⟨fun m hm => ?_, fun m hm => ?_, fun op x hm => ?_, fun op k hm => ?_⟩
  · obtain ⟨c, hc, rfl⟩ := List.mem_map.1 hm
    exact fit_arg (at_ok h hc).2.1
  · obtain ⟨c, hc, rfl⟩ := List.mem_map.1 hm
    exact (at_ok h hc).1
  · obtain ⟨c, hcc, e⟩ := List.mem_map.1 hm
    have ha := at_ok h hcc
    by_cases h1 : (ofL c.op).1.operand = 1
    · rw [argOf_1 h1] at e
      cases e
      obtain ⟨y, hy⟩ := ha.2.2.1 h1
      rw [hy, check_clone]
      exact hc y (mem_of_get hy)
    · by_cases h2 : (ofL c.op).1.operand = 2
      · rw [argOf_2 h2] at e; cases e
      · by_cases h3 : (ofL c.op).1.operand = 3
        · rw [argOf_3 h3] at e; cases e
        · rw [argOf_4 h1 h2 h3] at e; cases e
  · obtain ⟨c, hcc, e⟩ := List.mem_map.1 hm
    obtain ⟨_, a1, _, _, _, a4, a5, a0⟩ := at_ok h hcc
    by_cases h1 : (ofL c.op).1.operand = 1
    · rw [argOf_1 h1] at e; cases e
    · by_cases h2 : (ofL c.op).1.operand = 2
      · rw [argOf_2 h2] at e; cases e
      · by_cases h3 : (ofL c.op).1.operand = 3
        · rw [argOf_3 h3] at e; cases e
        · rw [argOf_4 h1 h2 h3] at e
          cases e
          refine ⟨a1, ?_⟩
          rcases operand_bd6 c.op with e | e | e | e | e | e
          · rw [if_neg (by omega), if_neg (by omega)]; exact a0 e
          · omega
          · omega
          · omega
          · rw [if_pos e, hlen]; exact a4 e
          · rw [if_neg (by omega), if_pos e]; exact a5 e
theorem same_means {p : Img} (h : imgL p = 0) {l : List (Int × Arg)} (hl : l = meanP p) : SameP p (imgOf (putsI l st0)) := by
  obtain ⟨h1, h2⟩ := means_all l
  have hlen : l.length = p.code.length := by rw [hl]; unfold meanP; simp
  refine ⟨by show p.code.length = (putsI l st0).code.length; omega, fun i c d hc hd => ?_⟩
  have hm : l[i]? = some (c.op, argOf p c) := by rw [hl]; unfold meanP; rw [List.getElem?_map, hc]; rfl
  obtain ⟨e1, e2⟩ := h2 i d _ hd hm
  have e1 : d.op = c.op := e1
  obtain ⟨_, a1, aC, aN, _, _, _, _⟩ := at_ok h (mem_of_get hc)
  refine ⟨e1.symm, fun k1 => ?_, fun k2 => ?_, fun k0 k1 k2 => ?_⟩
  · rw [argOf_1 k1] at e2
    obtain ⟨x, hx⟩ := aC k1
    rw [hx] at e2
    obtain ⟨j, y, e, hy, he⟩ := e2
    refine ⟨c.a.toNat, j, x, y, by omega, e, hx, hy, ?_⟩
    rw [he]
    exact (clone_clone x).symm
  · rw [argOf_2 k2] at e2
    obtain ⟨x, hx⟩ := aN k2
    rw [hx] at e2
    obtain ⟨j, e, hy⟩ := e2
    exact ⟨c.a.toNat, j, x, by omega, e, hx, hy⟩
  · by_cases k3 : (ofL c.op).1.operand = 3
    · rw [argOf_3 k3] at e2; exact e2.symm
    · rw [argOf_4 k1 k2 k3] at e2; exact e2.symm
/-- the tidy program may be -/
theorem tidy_img {p : Img} (h : imgL p = 0) : imgL (imgOf (putsI (meanP p) st0)) = 0 := by
  obtain ⟨c0, c1, c2, c3, c4, c5, c6, c7, _⟩ := imgL_ok h
  have hlen : (meanP p).length = p.code.length := by unfold meanP; simp
  have hT := tdOk_puts (meanP p) st0 tdOk0 (mean_ok h).fit
  have hmem := puts_mem (meanP p) st0
  have hk : ∀ x ∈ (putsI (meanP p) st0).consts, x ∈ p.consts.map cloneV := fun x hx => by
    rcases hmem.1 x hx with hx | ⟨op, hx⟩
    · simp [st0] at hx
    · obtain ⟨c, hcc, e⟩ := List.mem_map.1 hx
      by_cases h1 : (ofL c.op).1.operand = 1
      · rw [argOf_1 h1] at e
        cases e
        obtain ⟨y, hy⟩ := (at_ok h hcc).2.2.1 h1
        rw [hy]
        exact List.mem_map.2 ⟨y, mem_of_get hy, rfl⟩
      · by_cases h2 : (ofL c.op).1.operand = 2
        · rw [argOf_2 h2] at e; cases e
        · by_cases h3 : (ofL c.op).1.operand = 3
          · rw [argOf_3 h3] at e; cases e
          · rw [argOf_4 h1 h2 h3] at e; cases e
  have hn : ∀ x ∈ (putsI (meanP p) st0).names, x ∈ p.names := fun x hx => by
    rcases hmem.2 x hx with hx | ⟨op, hx⟩
    · simp [st0] at hx
    · obtain ⟨c, hcc, e⟩ := List.mem_map.1 hx
      by_cases h1 : (ofL c.op).1.operand = 1
      · rw [argOf_1 h1] at e; cases e
      · by_cases h2 : (ofL c.op).1.operand = 2
        · rw [argOf_2 h2] at e
          cases e
          obtain ⟨y, hy⟩ := (at_ok h hcc).2.2.2.1 h2
          rw [hy]
          exact mem_of_get hy
        · by_cases h3 : (ofL c.op).1.operand = 3
          · rw [argOf_3 h3] at e; cases e
          · rw [argOf_4 h1 h2 h3] at e; cases e
  have hp := puts_places (meanP p) st0 p.places (by decide) (by show (0 : Int) ≤ p.places; omega) (fun op n hm => by
    obtain ⟨c, hcc, e⟩ := List.mem_map.1 hm
    by_cases h1 : (ofL c.op).1.operand = 1
    · rw [argOf_1 h1] at e; cases e
    · by_cases h2 : (ofL c.op).1.operand = 2
      · rw [argOf_2 h2] at e; cases e
      · by_cases h3 : (ofL c.op).1.operand = 3
        · rw [argOf_3 h3] at e; cases e; exact (at_ok h hcc).2.2.2.2.1 h3
        · rw [argOf_4 h1 h2 h3] at e; cases e)
  have l1 := distinct_len (putsI (meanP p) st0).consts (p.consts.map cloneV) (fun i k x y hk' hx hy e => hT.consts i k x y hk' hx hy (by rw [e])) hk
  have l2 := distinct_len (putsI (meanP p) st0).names p.names hT.names hn
  rw [List.length_map] at l1
  exact put_img (mean_ok h) (by omega) (by omega) (by omega) (by omega) ⟨hp.1, by omega⟩ (fun x hx => names_ok c7 x (hn x hx))
/-- a tidy program is its own tidy one -/
theorem tidy_tidy {p : Img} (h : imgL p = 0) : tidyP (imgOf (putsI (meanP p) st0)) = (imgOf (putsI (meanP p) st0), 0) := by
  rw [tidyP_puts (tidy_img h)]
  have e : meanP (imgOf (putsI (meanP p) st0)) = meanP p := by
    obtain ⟨h1, h2⟩ := means_all (meanP p)
    refine List.ext_getElem? fun i => ?_
    by_cases hi : i < (meanP p).length
    · have hd : (putsI (meanP p) st0).code[i]? = some ((putsI (meanP p) st0).code[i]'(by omega)) := List.getElem?_eq_getElem (by omega)
      have hc : p.code[i]? = some (p.code[i]'(by unfold meanP at hi; simpa using hi)) := List.getElem?_eq_getElem _
      generalize (putsI (meanP p) st0).code[i]'(by omega) = d at hd
      generalize p.code[i]'(by unfold meanP at hi; simpa using hi) = c at hc
      have hm : (meanP p)[i]? = some (c.op, argOf p c) := by unfold meanP; rw [List.getElem?_map, hc]; rfl
      obtain ⟨e1, e2⟩ := h2 i d _ hd hm
      have e1 : d.op = c.op := e1
      rw [hm]
      show ((putsI (meanP p) st0).code.map _)[i]? = _
      rw [List.getElem?_map, hd]
      show some (d.op, argOf (imgOf (putsI (meanP p) st0)) d) = some (c.op, argOf p c)
      have e3 : argOf (imgOf (putsI (meanP p) st0)) d = argOf p c := by
        by_cases k1 : (ofL c.op).1.operand = 1
        · rw [argOf_1 k1] at e2 ⊢
          rw [argOf_1 (by rw [e1]; exact k1)]
          obtain ⟨j, y, ha, hy, he⟩ := e2
          have hy' : (imgOf (putsI (meanP p) st0)).consts[d.a.toNat]? = some y := by rw [ha]; exact hy
          rw [hy']
          show Arg.val (cloneV y) = _
          rw [he, clone_clone]
        · by_cases k2 : (ofL c.op).1.operand = 2
          · rw [argOf_2 k2] at e2 ⊢
            rw [argOf_2 (by rw [e1]; exact k2)]
            obtain ⟨j, ha, hy⟩ := e2
            have hy' : (imgOf (putsI (meanP p) st0)).names[d.a.toNat]? = some (p.names[c.a.toNat]?.getD ⟨#[]⟩) := by rw [ha]; exact hy
            rw [hy']
            rfl
          · by_cases k3 : (ofL c.op).1.operand = 3
            · rw [argOf_3 k3] at e2 ⊢
              rw [argOf_3 (by rw [e1]; exact k3)]
              have e2 : d.a = c.a := e2
              rw [e2]
            · rw [argOf_4 k1 k2 k3] at e2 ⊢
              rw [argOf_4 (by rw [e1]; exact k1) (by rw [e1]; exact k2) (by rw [e1]; exact k3)]
              have e2 : d.a = c.a := e2
              rw [e2]
      rw [e1, e3]
    · rw [List.getElem?_eq_none (l := meanP (imgOf (putsI (meanP p) st0))) (by show ((putsI (meanP p) st0).code.map _).length ≤ i; rw [List.length_map]; omega), List.getElem?_eq_none (by omega)]
  rw [e]
/-- all that the law asks of a tidy program -/
theorem tidy_laws {p : Img} (h : imgL p = 0) : ∃ q, tidyP p = (q, 0) ∧ tidyP q = (q, 0) ∧ imgL q = 0 ∧ SameP p q ∧ TdOk q :=
  ⟨_, tidyP_puts h, tidy_tidy h, tidy_img h, same_means h rfl, tdOk_puts _ _ tdOk0 (mean_ok h).fit⟩
end Go.Proofs.YtielnengimninaaGreatDoor
