/- verify: what the walk of the heights, the rounds and the spans come to; plain. -/
import Derived.Test.YtielnengimninaaGreatDoorV21
namespace Go.Va
/-- a way without waiting -/
inductive Way (code : List In) : Nat → Nat → Prop
  | one {p x : Nat} : restsAt code p = false → x ∈ followAt code p → Way code p x
  | more {p k x : Nat} : Way code p k → restsAt code k = false → x ∈ followAt code k → Way code p x
/-- what a round knows -/
structure Rn (code : List In) (k0 : Nat) (seen : List Bool) (todo : List Nat) : Prop where
  td : ∀ k ∈ todo, k = k0 ∨ seen[k]? = some true
  way : ∀ k, seen[k]? = some true → Way code k0 k ∧ restsAt code k = false
  ok : ∀ k, (k = k0 ∨ seen[k]? = some true) → k ∈ todo ∨ ∀ x ∈ followAt code k, x ≠ k0 ∧ (restsAt code x = true ∨ seen[x]? = some true)
/-- within a row of followers -/
theorem roundIn_law {code : List In} {k0 k : Nat} (hr : restsAt code k0 = false) (hk : k = k0 ∨ Way code k0 k) (hkr : restsAt code k = false) : ∀ (l : List Nat) (seen : List Bool) (todo : List Nat), (∀ x ∈ l, x ∈ followAt code k) → (∀ x ∈ l, x < seen.length) →
    (∀ j ∈ todo, j = k0 ∨ seen[j]? = some true) → (∀ j : Nat, seen[j]? = some true → Way code k0 j ∧ restsAt code j = false) → (∀ j : Nat, (j = k0 ∨ seen[j]? = some true) → j = k ∨ j ∈ todo ∨ ∀ x ∈ followAt code j, x ≠ k0 ∧ (restsAt code x = true ∨ seen[x]? = some true)) →
    match roundIn code k0 l seen todo with
    | none => Way code k0 k0
    | some q => q.1.length = seen.length ∧ (∀ j ∈ q.2, j = k0 ∨ q.1[j]? = some true) ∧ (∀ j : Nat, q.1[j]? = some true → Way code k0 j ∧ restsAt code j = false) ∧ (∀ j : Nat, (j = k0 ∨ q.1[j]? = some true) → j = k ∨ j ∈ q.2 ∨ ∀ x ∈ followAt code j, x ≠ k0 ∧ (restsAt code x = true ∨ q.1[x]? = some true)) ∧ (∀ x ∈ l, x ≠ k0 ∧ (restsAt code x = true ∨ q.1[x]? = some true)) ∧ (∀ j : Nat, seen[j]? = some true → q.1[j]? = some true)
  | [], seen, todo, _, _, h1, h2, h3 => ⟨rfl, h1, h2, h3, (fun x hx => by cases hx), fun _ h => h⟩
  | x :: r, seen, todo, hl, hn, h1, h2, h3 => by
    have hxf := hl x (List.mem_cons_self ..)
    have hxn := hn x (List.mem_cons_self ..)
    have hwx : Way code k0 x := by
      rcases hk with rfl | hk
      · exact .one hr hxf
      · exact .more hk hkr hxf
    rw [roundIn]
    cases hx0 : (x == k0) with
    | true =>
      simp only [cond_true]
      rw [beq_iff_eq] at hx0
      rw [← hx0]
      rw [hx0] at hwx ⊢
      exact hwx
    | false =>
      simp only [cond_false]
      rw [beq_eq_false_iff_ne] at hx0
      cases hs : (!(seen.getD x false) && !(restsAt code x)) with
      | true =>
        simp only [cond_true]
        rw [Bool.and_eq_true, Bool.not_eq_true', Bool.not_eq_true'] at hs
        have hset : ∀ j, (seen.set x true)[j]? = some true ↔ j = x ∨ seen[j]? = some true := fun j => by
          rw [List.getElem?_set]
          by_cases e : x = j
          · subst e
            simp [hxn]
          · rw [if_neg e]
            exact ⟨.inr, fun h => h.resolve_left (fun h => e h.symm)⟩
        have := roundIn_law hr hk hkr r (seen.set x true) (todo ++ [x]) (fun y hy => hl y (List.mem_cons_of_mem _ hy)) (fun y hy => by rw [List.length_set]; exact hn y (List.mem_cons_of_mem _ hy))
          (fun j hj => by
            simp only [List.mem_append, List.mem_singleton] at hj
            rcases hj with hj | rfl
            · exact (h1 j hj).imp id (fun h => (hset j).2 (.inr h))
            · exact .inr ((hset j).2 (.inl rfl)))
          (fun j hj => by
            rcases (hset j).1 hj with rfl | hj
            · exact ⟨hwx, hs.2⟩
            · exact h2 j hj)
          (fun j hj => by
            have hj2 : j = x ∨ (j = k0 ∨ seen[j]? = some true) := by
              rcases hj with hj | hj
              · exact .inr (.inl hj)
              · exact ((hset j).1 hj).imp id .inr
            rcases hj2 with rfl | hj2
            · exact .inr (.inl (by simp))
            · rcases h3 j hj2 with h | h | h
              · exact .inl h
              · exact .inr (.inl (List.mem_append_left _ h))
              · exact .inr (.inr (fun y hy => ⟨(h y hy).1, (h y hy).2.imp id (fun e => (hset y).2 (.inr e))⟩)))
        revert this
        cases roundIn code k0 r (seen.set x true) (todo ++ [x]) with
        | none => exact id
        | some q =>
          rintro ⟨g0, g1, g2, g3, g4, g5⟩
          refine ⟨by rw [g0, List.length_set], g1, g2, g3, fun y hy => ?_, fun j hj => g5 j ((hset j).2 (.inr hj))⟩
          rcases List.mem_cons.1 hy with rfl | hy
          · exact ⟨hx0, .inr (g5 y ((hset y).2 (.inl rfl)))⟩
          · exact g4 y hy
      | false =>
        simp only [cond_false]
        have := roundIn_law hr hk hkr r seen todo (fun y hy => hl y (List.mem_cons_of_mem _ hy)) (fun y hy => hn y (List.mem_cons_of_mem _ hy)) h1 h2 h3
        revert this
        cases roundIn code k0 r seen todo with
        | none => exact id
        | some q =>
          rintro ⟨g0, g1, g2, g3, g4, g5⟩
          refine ⟨g0, g1, g2, g3, fun y hy => ?_, g5⟩
          rcases List.mem_cons.1 hy with rfl | hy
          · refine ⟨hx0, ?_⟩
            cases hra : restsAt code y with
            | true => exact .inl rfl
            | false =>
              rw [hra, Bool.not_false, Bool.and_true, Bool.not_eq_false'] at hs
              rw [List.getD_eq_getElem?_getD] at hs
              refine .inr (g5 y ?_)
              rw [List.getElem?_eq_getElem hxn] at hs ⊢
              simpa using hs
          · exact g4 y hy
theorem roundIn_frees (code : List In) (k0 : Nat) : ∀ (l : List Nat) (seen : List Bool) (todo : List Nat) (q : List Bool × List Nat), (∀ x ∈ l, x < seen.length) → roundIn code k0 l seen todo = some q → frees q.1 + q.2.length ≤ frees seen + todo.length
  | [], seen, todo, q, _, h => by
    rw [roundIn] at h
    cases h
    exact Nat.le_refl _
  | x :: r, seen, todo, q, hl, h => by
    rw [roundIn] at h
    cases hx : (x == k0) with
    | true => rw [hx] at h; cases h
    | false =>
      rw [hx] at h
      simp only [cond_false] at h
      cases hs : (!(seen.getD x false) && !(restsAt code x)) with
      | false =>
        rw [hs] at h
        exact roundIn_frees code k0 r seen todo q (fun y hy => hl y (List.mem_cons_of_mem _ hy)) h
      | true =>
        rw [hs] at h
        have := roundIn_frees code k0 r _ _ q (fun y hy => by rw [List.length_set]; exact hl y (List.mem_cons_of_mem _ hy)) h
        simp only [List.length_append, List.length_singleton] at this
        rw [Bool.and_eq_true, Bool.not_eq_true'] at hs
        rw [List.getD_eq_getElem?_getD] at hs
        have hxl := hl x (List.mem_cons_self ..)
        have h3 : seen[x]? = some false := by
          rw [List.getElem?_eq_getElem hxl] at hs ⊢
          simpa using hs.1
        have := frees_set seen x h3
        omega
theorem roundF_law {code : List In} {k0 : Nat} (hr : restsAt code k0 = false) (hcl : ∀ k x, Way code k0 k ∨ k = k0 → x ∈ followAt code k → x < code.length) : ∀ (f : Nat) (seen : List Bool) (todo : List Nat), seen.length = code.length → frees seen + todo.length ≤ f → Rn code k0 seen todo → (roundF code k0 f seen todo = true ↔ Way code k0 k0)
  | f, seen, [], hn, hf, R => by
    have hne : ¬ Way code k0 k0 := by
      have cl : ∀ k, Way code k0 k → k ≠ k0 ∧ (restsAt code k = true ∨ seen[k]? = some true) := fun k h => by
        generalize hp : k0 = p at h
        induction h with
        | one h1 h2 => subst hp; exact (R.ok _ (.inl rfl)).resolve_left (by simp) _ h2
        | more h1 h2 h3 ih =>
          subst hp
          have hi := ih
          have := hi.2.resolve_left (by rw [h2]; simp)
          exact (R.ok _ (.inr this)).resolve_left (by simp) _ h3
      exact fun h => (cl k0 h).1 rfl
    have hf : roundF code k0 f seen [] = false := by cases f <;> rfl
    rw [hf]
    simp [hne]
  | 0, seen, k :: r, hn, hf, R => by simp at hf
  | f + 1, seen, k :: r, hn, hf, R => by
    rw [roundF]
    have hk := R.td k (List.mem_cons_self ..)
    have hkw : k = k0 ∨ Way code k0 k := hk.imp id (fun h => (R.way k h).1)
    have hkr : restsAt code k = false := by
      rcases hk with rfl | h
      · exact hr
      · exact (R.way k h).2
    have L := roundIn_law hr hkw hkr (followAt code k) seen r (fun x hx => hx) (fun x hx => by rw [hn]; exact hcl k x (hkw.symm) hx) (fun j hj => R.td j (List.mem_cons_of_mem _ hj)) R.way (fun j hj => by
      rcases R.ok j hj with h | h
      · rcases List.mem_cons.1 h with h | h
        · exact .inl h
        · exact .inr (.inl h)
      · exact .inr (.inr h))
    have LF := roundIn_frees code k0 (followAt code k) seen r
    revert L LF
    cases roundIn code k0 (followAt code k) seen r with
    | none => exact fun L _ => by simp [L]
    | some q =>
      rintro ⟨g0, g1, g2, g3, g4, g5⟩ LF
      refine roundF_law hr hcl f q.1 q.2 (g0.trans hn) ?_ ⟨g1, g2, fun j hj => ?_⟩
      · have := LF q (fun x hx => by rw [hn]; exact hcl k x (hkw.symm) hx) rfl
        simp only [List.length_cons] at hf
        omega
      · rcases g3 j hj with rfl | h | h
        · exact .inr g4
        · exact .inl h
        · exact .inr h
/-- the rounds, as told -/
theorem roundL_law {code : List In} {k0 : Nat} (hcl : ∀ k x, Way code k0 k ∨ k = k0 → x ∈ followAt code k → x < code.length) : roundL code k0 = true ↔ restsAt code k0 = false ∧ Way code k0 k0 := by
  unfold roundL
  cases hr : restsAt code k0 with
  | true => simp
  | false =>
    simp only [cond_false, true_and]
    refine roundF_law hr hcl _ _ _ (by simp) (by rw [frees_replicate]; simp) ⟨fun k hk => .inl (List.mem_singleton.1 hk), fun k hk => ?_, fun k hk => ?_⟩
    · rw [List.getElem?_replicate] at hk
      split at hk <;> cases hk
    · rcases hk with rfl | hk
      · exact .inl (by simp)
      · rw [List.getElem?_replicate] at hk
        split at hk <;> cases hk
theorem Way.rests {code : List In} {p k : Nat} (h : Way code p k) : restsAt code p = false := by
  induction h with
  | one h _ => exact h
  | more _ _ _ ih => exact ih
theorem nodup_len : ∀ (n : Nat) (l : List Nat), l.Nodup → (∀ x ∈ l, x < n) → l.length ≤ n
  | 0, [], _, _ => Nat.le_refl _
  | 0, x :: _, _, h => by have := h x (List.mem_cons_self ..); omega
  | n + 1, l, hd, h => by
    have h1 := nodup_len n (l.erase n) (hd.erase n) (fun x hx => by
      have := (hd.mem_erase_iff).1 hx
      have := h x this.2
      omega)
    by_cases hm : n ∈ l
    · rw [List.length_erase_of_mem hm] at h1
      omega
    · rw [List.erase_of_not_mem hm] at h1
      omega
/-- where nobody goes round each way ends -/
theorem dn_of_rounds {code : List In} {Rc : Nat → Prop} (hcl : ∀ k, Rc k → k < code.length ∧ ∀ x ∈ followAt code k, Rc x) (hno : ∀ k, Rc k → ¬ Way code k k) : ∀ (f k : Nat) (P : List Nat), Rc k → P.Nodup → (∀ p ∈ P, p < code.length ∧ Way code p k) → code.length + 1 ≤ P.length + f → dnF code f k
  | 0, k, P, _, hd, hP, hl => by
    have := nodup_len _ P hd (fun p hp => (hP p hp).1)
    omega
  | f + 1, k, P, hk, hd, hP, hl => by
    rw [dnF]
    cases hr : restsAt code k with
    | true => exact .inl rfl
    | false =>
      refine .inr (fun x hx => dn_of_rounds hcl hno f x (k :: P) ((hcl k hk).2 x hx) (List.nodup_cons.2 ⟨fun h => hno k hk (hP k h).2, hd⟩) (fun p hp => ?_) (by simp only [List.length_cons]; omega))
      rcases List.mem_cons.1 hp with rfl | hp
      · exact ⟨(hcl _ hk).1, .one hr hx⟩
      · exact ⟨(hP p hp).1, .more (hP p hp).2 hr hx⟩
theorem dn_all {code : List In} {Rc : Nat → Prop} (hcl : ∀ k, Rc k → k < code.length ∧ ∀ x ∈ followAt code k, Rc x) (hno : ∀ k, Rc k → roundL code k = false) {k : Nat} (hk : Rc k) : dnF code (code.length + 1) k := by
  have hway : ∀ {a k}, Rc a → Way code a k → Rc k := fun {a k} ha h => by
    induction h with
    | one _ h2 => exact (hcl _ ha).2 _ h2
    | more _ _ h3 ih => exact (hcl _ ih).2 _ h3
  refine dn_of_rounds hcl (fun j hj hw => ?_) _ k [] hk List.nodup_nil (fun p hp => by cases hp) (by simp)
  have := (roundL_law (fun k x h hx => by
    have hk : Rc k := h.elim (fun h => hway hj h) (fun h => by rw [h]; exact hj)
    exact (hcl _ ((hcl _ hk).2 _ hx)).1)).2 ⟨hw.rests, hw⟩
  rw [hno j hj] at this
  cases this
end Go.Va
