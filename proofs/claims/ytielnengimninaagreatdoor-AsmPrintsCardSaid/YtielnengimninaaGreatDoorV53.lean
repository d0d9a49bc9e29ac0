/- programs put together instruction by instruction: each value, each name once, in the order of their use; plain. -/
import Derived.Test.YtielnengimninaaGreatDoorV52
import Derived.Test.YtielnengimninaaGreatDoorV45
namespace Go.Proofs.YtielnengimninaaGreatDoor
open Go.RowKit Go.Own Go.Own.MapTy Go.Va Go.Sort
/-- what an instruction speaks of -/
inductive Arg where
  | val (x : Val)
  | name (s : ByteArray)
  | place (n : Int)
  | int (n : Int)
/-- one instruction more -/
def putI (m : Int × Arg) (st : RSt) : RSt :=
  match m.2 with
  | .val x => { st with consts := (addV x st.consts).2, code := st.code ++ [⟨m.1, ((addV x st.consts).1 : Nat)⟩] }
  | .name s => { st with names := (addN s st.names).2, code := st.code ++ [⟨m.1, ((addN s st.names).1 : Nat)⟩] }
  | .place n => { st with places := max st.places (n + 1), code := st.code ++ [⟨m.1, n⟩] }
  | .int n => { st with code := st.code ++ [⟨m.1, n⟩] }
def putsI : List (Int × Arg) → RSt → RSt
  | [], st => st
  | m :: r, st => putsI r (putI m st)
theorem putsI_app : ∀ (a b : List (Int × Arg)) (st : RSt), putsI (a ++ b) st = putsI b (putsI a st)
  | [], _, _ => rfl
  | m :: r, b, st => putsI_app r b (putI m st)
def imgOf (st : RSt) : Img := ⟨st.code, st.consts, st.names, st.places⟩
/-- does the argument fit the instruction? -/
def fitA (m : Int × Arg) : Prop :=
  match m.2 with
  | .val _ => (ofL m.1).1.operand = 1
  | .name _ => (ofL m.1).1.operand = 2
  | .place n => (ofL m.1).1.operand = 3 ∧ 0 ≤ n
  | .int _ => (ofL m.1).1.operand ≠ 1 ∧ (ofL m.1).1.operand ≠ 2 ∧ (ofL m.1).1.operand ≠ 3
/-- in the order of use -/
def tdRun : List In → Int → Int → Int → Option (Int × Int × Int)
  | [], c, n, p => some (c, n, p)
  | x :: r, c, n, p =>
    if (ofL x.op).1.operand = 1 then (if c < x.a then none else tdRun r (if x.a = c then c + 1 else c) n p) else
    if (ofL x.op).1.operand = 2 then (if n < x.a then none else tdRun r c (if x.a = n then n + 1 else n) p) else
    if (ofL x.op).1.operand = 3 then tdRun r c n (if p < x.a + 1 then x.a + 1 else p) else tdRun r c n p
theorem tdRun_app : ∀ (l : List In) (x : In) (c n p c1 n1 p1 : Int), tdRun l c n p = some (c1, n1, p1) → tdRun (l ++ [x]) c n p = tdRun [x] c1 n1 p1
  | [], x, c, n, p, c1, n1, p1, h => by cases h; rfl
  | y :: r, x, c, n, p, c1, n1, p1, h => by
    rw [List.cons_append, tdRun]
    rw [tdRun] at h
    split
    · rename_i h1
      rw [if_pos h1] at h
      split
      · rename_i h2; rw [if_pos h2] at h; cases h
      · rename_i h2; rw [if_neg h2] at h; exact tdRun_app r x _ _ _ _ _ _ h
    · rename_i h1
      rw [if_neg h1] at h
      split
      · rename_i h2
        rw [if_pos h2] at h
        split
        · rename_i h3; rw [if_pos h3] at h; cases h
        · rename_i h3; rw [if_neg h3] at h; exact tdRun_app r x _ _ _ _ _ _ h
      · rename_i h2
        rw [if_neg h2] at h
        split
        · rename_i h3; rw [if_pos h3] at h; exact tdRun_app r x _ _ _ _ _ _ h
        · rename_i h3; rw [if_neg h3] at h; exact tdRun_app r x _ _ _ _ _ _ h
/-- tidy -/
structure TdOk (p : Img) : Prop where
  run : tdRun p.code 0 0 0 = some ((p.consts.length : Int), (p.names.length : Int), p.places)
  consts : ∀ (i k : Nat) (x y : Val), k < i → p.consts[i]? = some x → p.consts[k]? = some y → cloneV x ≠ cloneV y
  names : ∀ (i k : Nat) (x y : ByteArray), k < i → p.names[i]? = some x → p.names[k]? = some y → x ≠ y
theorem seekV_some {x : Val} : ∀ {l : List Val} {i j : Nat}, seekV x l i = some j → ∃ y, i ≤ j ∧ l[j - i]? = some y ∧ cloneV x = cloneV y
  | [], _, _, h => by cases h
  | y :: r, i, j, h => by
    rw [seekV] at h
    cases hc : (cmpV x y == 0) with
    | true =>
      rw [hc] at h
      cases h
      exact ⟨y, Nat.le_refl _, by simp, (cmp_zero x y).1 (by simpa using hc)⟩
    | false =>
      rw [hc] at h
      obtain ⟨z, h1, h2, h3⟩ := seekV_some h
      refine ⟨z, by omega, ?_, h3⟩
      rw [show j - i = (j - (i + 1)) + 1 by omega, List.getElem?_cons_succ]
      exact h2
theorem seekV_none {x : Val} : ∀ {l : List Val} {i : Nat}, seekV x l i = none → ∀ y ∈ l, cloneV x ≠ cloneV y
  | [], _, _, y, hy => by cases hy
  | z :: r, i, h, y, hy => by
    rw [seekV] at h
    cases hc : (cmpV x z == 0) with
    | true => rw [hc] at h; cases h
    | false =>
      rw [hc] at h
      rcases List.mem_cons.1 hy with rfl | hy
      · intro e
        rw [(cmp_zero x y).2 e] at hc
        cases hc
      · exact seekV_none h y hy
theorem seekN_some {x : ByteArray} : ∀ {l : List ByteArray} {i j : Nat}, seekN x l i = some j → i ≤ j ∧ l[j - i]? = some x
  | [], _, _, h => by cases h
  | y :: r, i, j, h => by
    rw [seekN] at h
    cases hc : (x.data.toList == y.data.toList) with
    | true =>
      rw [hc] at h
      cases h
      have e : x = y := bytes_inj.1 (by simpa using hc)
      rw [e]
      exact ⟨Nat.le_refl _, by simp⟩
    | false =>
      rw [hc] at h
      obtain ⟨h1, h2⟩ := seekN_some h
      refine ⟨by omega, ?_⟩
      rw [show j - i = (j - (i + 1)) + 1 by omega, List.getElem?_cons_succ]
      exact h2
theorem seekN_none {x : ByteArray} : ∀ {l : List ByteArray} {i : Nat}, seekN x l i = none → ∀ y ∈ l, x ≠ y
  | [], _, _, y, hy => by cases hy
  | z :: r, i, h, y, hy => by
    rw [seekN] at h
    cases hc : (x.data.toList == z.data.toList) with
    | true => rw [hc] at h; cases h
    | false =>
      rw [hc] at h
      rcases List.mem_cons.1 hy with rfl | hy
      · intro e
        rw [e] at hc
        simp at hc
      · exact seekN_none h y hy
/-- where a value is put -/
theorem addV_cases (x : Val) (l : List Val) : (∃ i y, addV x l = (i, l) ∧ l[i]? = some y ∧ cloneV x = cloneV y) ∨ (addV x l = (l.length, l ++ [x]) ∧ ∀ y ∈ l, cloneV x ≠ cloneV y) := by
  unfold addV
  cases h : seekV x l 0 with
  | some i =>
    obtain ⟨y, _, h2, h3⟩ := seekV_some h
    exact .inl ⟨i, y, rfl, h2, h3⟩
  | none => exact .inr ⟨rfl, seekV_none h⟩
theorem addN_cases (x : ByteArray) (l : List ByteArray) : (∃ i, addN x l = (i, l) ∧ l[i]? = some x) ∨ (addN x l = (l.length, l ++ [x]) ∧ ∀ y ∈ l, x ≠ y) := by
  unfold addN
  cases h : seekN x l 0 with
  | some i =>
    obtain ⟨_, h2⟩ := seekN_some h
    exact .inl ⟨i, rfl, h2⟩
  | none => exact .inr ⟨rfl, seekN_none h⟩
theorem lt_of_get {α : Type} {l : List α} {i : Nat} {x : α} (h : l[i]? = some x) : i < l.length := (List.getElem?_eq_some_iff.1 h).1
theorem mem_of_get {α : Type} {l : List α} {i : Nat} {x : α} (h : l[i]? = some x) : x ∈ l := List.mem_of_getElem? h
theorem get_app_last {α : Type} {l : List α} {i : Nat} {x y : α} (h : (l ++ [x])[i]? = some y) : l[i]? = some y ∨ (i = l.length ∧ y = x) := by
  by_cases hi : i < l.length
  · rw [List.getElem?_append_left hi] at h; exact .inl h
  · rw [List.getElem?_append_right (by omega)] at h
    have := lt_of_get h
    simp at this
    have e : i = l.length := by omega
    subst e
    simp at h
    exact .inr ⟨rfl, h.symm⟩
theorem tdOk_put {m : Int × Arg} {st : RSt} (h : TdOk (imgOf st)) (hm : fitA m) : TdOk (imgOf (putI m st)) := by
  obtain ⟨op, a⟩ := m
  have hr : tdRun st.code 0 0 0 = some ((st.consts.length : Int), (st.names.length : Int), st.places) := h.run
  cases a with
  | val x =>
    have hm : (ofL op).1.operand = 1 := hm
    rcases addV_cases x st.consts with ⟨i, y, h1, h2, h3⟩ | ⟨h1, h2⟩
    · refine ⟨?_, ?_, h.names⟩
      · show tdRun (st.code ++ [⟨op, ((addV x st.consts).1 : Nat)⟩]) 0 0 0 = some (((addV x st.consts).2.length : Int), _, _)
        rw [tdRun_app _ _ _ _ _ _ _ _ hr, h1]
        have := lt_of_get h2
        rw [tdRun, if_pos hm, if_neg (by show ¬ ((st.consts.length : Int) < (i : Int)); omega), if_neg (by show ¬ ((i : Int) = st.consts.length); omega)]
        rfl
      · show ∀ (i k : Nat) (a b : Val), k < i → (addV x st.consts).2[i]? = some a → (addV x st.consts).2[k]? = some b → _
        rw [h1]
        exact h.consts
    · refine ⟨?_, ?_, h.names⟩
      · show tdRun (st.code ++ [⟨op, ((addV x st.consts).1 : Nat)⟩]) 0 0 0 = some (((addV x st.consts).2.length : Int), _, _)
        rw [tdRun_app _ _ _ _ _ _ _ _ hr, h1]
        rw [tdRun, if_pos hm, if_neg (by show ¬ ((st.consts.length : Int) < (st.consts.length : Int)); omega), if_pos rfl, tdRun]
        simp only [List.length_append, List.length_singleton]
        rfl
      · show ∀ (i k : Nat) (a b : Val), k < i → (addV x st.consts).2[i]? = some a → (addV x st.consts).2[k]? = some b → _
        rw [h1]
        intro i k a b hk ha hb
        rcases get_app_last hb with hb2 | ⟨e, _⟩
        · rcases get_app_last ha with ha2 | ⟨_, e1⟩
          · exact h.consts i k a b hk ha2 hb2
          · rw [e1]; exact h2 b (mem_of_get hb2)
        · rcases get_app_last ha with ha2 | ⟨e2, _⟩
          · have := lt_of_get ha2; omega
          · omega
  | name x =>
    have hm : (ofL op).1.operand = 2 := hm
    have n1 : ¬ (ofL op).1.operand = 1 := by omega
    rcases addN_cases x st.names with ⟨i, h1, h2⟩ | ⟨h1, h2⟩
    · refine ⟨?_, h.consts, ?_⟩
      · show tdRun (st.code ++ [⟨op, ((addN x st.names).1 : Nat)⟩]) 0 0 0 = some (_, ((addN x st.names).2.length : Int), _)
        rw [tdRun_app _ _ _ _ _ _ _ _ hr, h1]
        have := lt_of_get h2
        rw [tdRun, if_neg n1, if_pos hm, if_neg (by show ¬ ((st.names.length : Int) < (i : Int)); omega), if_neg (by show ¬ ((i : Int) = st.names.length); omega)]
        rfl
      · show ∀ (i k : Nat) (a b : ByteArray), k < i → (addN x st.names).2[i]? = some a → (addN x st.names).2[k]? = some b → _
        rw [h1]
        exact h.names
    · refine ⟨?_, h.consts, ?_⟩
      · show tdRun (st.code ++ [⟨op, ((addN x st.names).1 : Nat)⟩]) 0 0 0 = some (_, ((addN x st.names).2.length : Int), _)
        rw [tdRun_app _ _ _ _ _ _ _ _ hr, h1]
        rw [tdRun, if_neg n1, if_pos hm, if_neg (by show ¬ ((st.names.length : Int) < (st.names.length : Int)); omega), if_pos rfl, tdRun]
        simp only [List.length_append, List.length_singleton]
        rfl
      · show ∀ (i k : Nat) (a b : ByteArray), k < i → (addN x st.names).2[i]? = some a → (addN x st.names).2[k]? = some b → _
        rw [h1]
        intro i k a b hk ha hb
        rcases get_app_last hb with hb2 | ⟨e, _⟩
        · rcases get_app_last ha with ha2 | ⟨_, e1⟩
          · exact h.names i k a b hk ha2 hb2
          · rw [e1]; exact h2 b (mem_of_get hb2)
        · rcases get_app_last ha with ha2 | ⟨e2, _⟩
          · have := lt_of_get ha2; omega
          · omega
  | place n =>
    have hm : (ofL op).1.operand = 3 ∧ 0 ≤ n := hm
    refine ⟨?_, h.consts, h.names⟩
    show tdRun (st.code ++ [⟨op, n⟩]) 0 0 0 = some (_, _, max st.places (n + 1))
    rw [tdRun_app _ _ _ _ _ _ _ _ hr, tdRun, if_neg (by show ¬ (ofL op).1.operand = 1; omega), if_neg (by show ¬ (ofL op).1.operand = 2; omega), if_pos hm.1, tdRun]
    by_cases hp : st.places < n + 1
    · rw [if_pos hp, Int.max_eq_right (by omega)]; rfl
    · rw [if_neg hp, Int.max_eq_left (by omega)]; rfl
  | int n =>
    have hm : (ofL op).1.operand ≠ 1 ∧ (ofL op).1.operand ≠ 2 ∧ (ofL op).1.operand ≠ 3 := hm
    refine ⟨?_, h.consts, h.names⟩
    show tdRun (st.code ++ [⟨op, n⟩]) 0 0 0 = some (_, _, _)
    rw [tdRun_app _ _ _ _ _ _ _ _ hr, tdRun, if_neg hm.1, if_neg hm.2.1, if_neg hm.2.2]
    rfl
theorem tdOk0 : TdOk (imgOf st0) := ⟨rfl, fun i k x y _ h _ => by simp [imgOf, st0] at h, fun i k x y _ h _ => by simp [imgOf, st0] at h⟩
theorem tdOk_puts : ∀ (l : List (Int × Arg)) (st : RSt), TdOk (imgOf st) → (∀ m ∈ l, fitA m) → TdOk (imgOf (putsI l st))
  | [], _, h, _ => h
  | m :: r, _, h, hl => tdOk_puts r _ (tdOk_put h (hl m List.mem_cons_self)) (fun x hx => hl x (List.mem_cons_of_mem _ hx))
/-- what an instruction of a program says -/
def Means (consts : List Val) (names : List ByteArray) (c : In) (m : Int × Arg) : Prop :=
  c.op = m.1 ∧ match m.2 with
  | .val x => ∃ i : Nat, ∃ y, c.a = i ∧ consts[i]? = some y ∧ cloneV y = cloneV x
  | .name s => ∃ i : Nat, c.a = i ∧ names[i]? = some s
  | .place n => c.a = n
  | .int n => c.a = n
theorem Means.mono {k k' : List Val} {n n' : List ByteArray} {c : In} {m : Int × Arg} (h : Means k n c m) (hk : ∀ (i : Nat) x, k[i]? = some x → k'[i]? = some x) (hn : ∀ (i : Nat) x, n[i]? = some x → n'[i]? = some x) : Means k' n' c m := by
  obtain ⟨op, a⟩ := m
  refine ⟨h.1, ?_⟩
  have h2 := h.2
  cases a with
  | val x => obtain ⟨i, y, e, hy, hc⟩ := h2; exact ⟨i, y, e, hk i y hy, hc⟩
  | name s => obtain ⟨i, e, hy⟩ := h2; exact ⟨i, e, hn i _ hy⟩
  | place n => exact h2
  | int n => exact h2
theorem put_mono (m : Int × Arg) (st : RSt) : (∀ (i : Nat) x, st.consts[i]? = some x → (putI m st).consts[i]? = some x) ∧ (∀ (i : Nat) x, st.names[i]? = some x → (putI m st).names[i]? = some x) := by
  obtain ⟨op, a⟩ := m
  cases a with
  | val x =>
    refine ⟨?_, fun i y h => h⟩
    show ∀ (i : Nat) y, st.consts[i]? = some y → (addV x st.consts).2[i]? = some y
    intro i y h
    rcases addV_cases x st.consts with ⟨_, _, h1, _⟩ | ⟨h1, _⟩ <;> rw [h1]
    · exact h
    · rw [List.getElem?_append_left (lt_of_get h)]; exact h
  | name x =>
    refine ⟨fun i y h => h, ?_⟩
    show ∀ (i : Nat) y, st.names[i]? = some y → (addN x st.names).2[i]? = some y
    intro i y h
    rcases addN_cases x st.names with ⟨_, h1, _⟩ | ⟨h1, _⟩ <;> rw [h1]
    · exact h
    · rw [List.getElem?_append_left (lt_of_get h)]; exact h
  | place n => exact ⟨fun i y h => h, fun i y h => h⟩
  | int n => exact ⟨fun i y h => h, fun i y h => h⟩
theorem put_code (m : Int × Arg) (st : RSt) : ∃ c, (putI m st).code = st.code ++ [c] ∧ Means (putI m st).consts (putI m st).names c m := by
  obtain ⟨op, a⟩ := m
  cases a with
  | val x =>
    refine ⟨_, rfl, rfl, ?_⟩
    show ∃ i : Nat, ∃ y, (((addV x st.consts).1 : Nat) : Int) = i ∧ (addV x st.consts).2[i]? = some y ∧ cloneV y = cloneV x
    rcases addV_cases x st.consts with ⟨i, y, h1, h2, h3⟩ | ⟨h1, _⟩ <;> rw [h1]
    · exact ⟨i, y, rfl, h2, h3.symm⟩
    · exact ⟨_, x, rfl, by simp, rfl⟩
  | name x =>
    refine ⟨_, rfl, rfl, ?_⟩
    show ∃ i : Nat, (((addN x st.names).1 : Nat) : Int) = i ∧ (addN x st.names).2[i]? = some x
    rcases addN_cases x st.names with ⟨i, h1, h2⟩ | ⟨h1, _⟩ <;> rw [h1]
    · exact ⟨i, rfl, h2⟩
    · exact ⟨_, rfl, by simp⟩
  | place n => exact ⟨_, rfl, rfl, rfl⟩
  | int n => exact ⟨_, rfl, rfl, rfl⟩
/-- the instructions of a program that was put together say what was put -/
theorem puts_means : ∀ (l done : List (Int × Arg)) (st : RSt), st.code.length = done.length → (∀ (i : Nat) c m, st.code[i]? = some c → done[i]? = some m → Means st.consts st.names c m) →
    (putsI l st).code.length = (done ++ l).length ∧ ∀ (i : Nat) c m, (putsI l st).code[i]? = some c → (done ++ l)[i]? = some m → Means (putsI l st).consts (putsI l st).names c m
  | [], done, st, h1, h2 => by rw [List.append_nil]; exact ⟨h1, h2⟩
  | m :: r, done, st, h1, h2 => by
    have hh := puts_means r (done ++ [m]) (putI m st) (by obtain ⟨c, e, _⟩ := put_code m st; rw [e]; simp [h1]) (fun i c m' hc hm => by
      obtain ⟨c0, e, hm0⟩ := put_code m st
      rw [e] at hc
      rcases get_app_last hc with hc | ⟨e1, rfl⟩
      · have hi := lt_of_get hc
        rw [List.getElem?_append_left (by omega)] at hm
        exact (h2 i c m' hc hm).mono (put_mono m st).1 (put_mono m st).2
      · subst e1
        rw [h1, List.getElem?_append_right (Nat.le_refl _)] at hm
        simp at hm
        subst hm
        exact hm0)
    rw [List.append_assoc, List.singleton_append] at hh
    exact hh
theorem means_all (l : List (Int × Arg)) : (putsI l st0).code.length = l.length ∧ ∀ (i : Nat) c m, (putsI l st0).code[i]? = some c → l[i]? = some m → Means (putsI l st0).consts (putsI l st0).names c m := by
  have := puts_means l [] st0 rfl (fun i c m h => by simp [st0] at h)
  simpa using this
/-- the values and names of a program that was put together were put -/
theorem puts_mem : ∀ (l : List (Int × Arg)) (st : RSt), (∀ x ∈ (putsI l st).consts, x ∈ st.consts ∨ ∃ op, (op, Arg.val x) ∈ l) ∧ (∀ x ∈ (putsI l st).names, x ∈ st.names ∨ ∃ op, (op, Arg.name x) ∈ l)
  | [], st => ⟨fun x h => .inl h, fun x h => .inl h⟩
  | (op, a) :: r, st => by
    obtain ⟨h1, h2⟩ := puts_mem r (putI (op, a) st)
    refine ⟨fun x hx => ?_, fun x hx => ?_⟩
    · rcases h1 x hx with h | ⟨o, h⟩
      · cases a with
        | val y =>
          have h : x ∈ (addV y st.consts).2 := h
          rcases addV_cases y st.consts with ⟨_, _, e, _⟩ | ⟨e, _⟩ <;> rw [e] at h
          · exact .inl h
          · rcases List.mem_append.1 h with h | h
            · exact .inl h
            · rw [List.mem_singleton] at h
              subst h
              exact .inr ⟨op, List.mem_cons_self⟩
        | name s => exact .inl h
        | place n => exact .inl h
        | int n => exact .inl h
      · exact .inr ⟨o, List.mem_cons_of_mem _ h⟩
    · rcases h2 x hx with h | ⟨o, h⟩
      · cases a with
        | name y =>
          have h : x ∈ (addN y st.names).2 := h
          rcases addN_cases y st.names with ⟨_, e, _⟩ | ⟨e, _⟩ <;> rw [e] at h
          · exact .inl h
          · rcases List.mem_append.1 h with h | h
            · exact .inl h
            · rw [List.mem_singleton] at h
              subst h
              exact .inr ⟨op, List.mem_cons_self⟩
        | val s => exact .inl h
        | place n => exact .inl h
        | int n => exact .inl h
      · exact .inr ⟨o, List.mem_cons_of_mem _ h⟩
/-- the places -/
theorem puts_places : ∀ (l : List (Int × Arg)) (st : RSt) (b : Int), 0 ≤ st.places → st.places ≤ b → (∀ op n, (op, Arg.place n) ∈ l → n + 1 ≤ b) → 0 ≤ (putsI l st).places ∧ (putsI l st).places ≤ b
  | [], st, b, h0, h, _ => ⟨h0, h⟩
  | (op, a) :: r, st, b, h0, h, hl => by
    refine puts_places r _ b ?_ ?_ (fun o n hn => hl o n (List.mem_cons_of_mem _ hn))
    · cases a with
      | place n => show 0 ≤ max st.places (n + 1); omega
      | _ => exact h0
    · cases a with
      | place n => have := hl op n List.mem_cons_self; show max st.places (n + 1) ≤ b; omega
      | _ => exact h
theorem place_le : ∀ (l : List (Int × Arg)) (st : RSt) (op n : Int), (op, Arg.place n) ∈ l → n + 1 ≤ (putsI l st).places
  | (op, a) :: r, st, o, n, h => by
    rcases List.mem_cons.1 h with e | h
    · cases e
      have g : ∀ (l : List (Int × Arg)) (st : RSt), st.places ≤ (putsI l st).places := fun l => by
        induction l with
        | nil => exact fun st => Int.le_refl _
        | cons m r ih =>
          intro st
          refine Int.le_trans ?_ (ih (putI m st))
          obtain ⟨o, a⟩ := m
          cases a with
          | place n => show st.places ≤ max st.places (n + 1); omega
          | _ => exact Int.le_refl _
      refine Int.le_trans ?_ (g r _)
      show n + 1 ≤ max st.places (n + 1)
      omega
    · exact place_le r _ o n h
end Go.Proofs.YtielnengimninaaGreatDoor
