/- what is printed of a value is read as that value: plain. -/
import Derived.Test.YtielnengimninaaGreatDoorV52
import Derived.Test.YtielnengimninaaGreatDoorV42
namespace Go.Va
open Go.Own Go.RowKit Go.Own.MapTy
--[[digs
theorem ofNat_digit {d : Nat} (h : d < 10) : (UInt8.ofNat (48 + d)).toNat = 48 + d := by
  rw [UInt8.toNat_ofNat']
  omega
theorem decDigits_digC (u : Nat) : ∀ c ∈ Lib.decDigits u, digC c = true := by
  induction u using Nat.strongRecOn with
  | _ u ih =>
    intro c hc
    rw [Lib.decDigits] at hc
    have key : ∀ d, d < 10 → digC (UInt8.ofNat (48 + d)) = true := fun d hd => by
      unfold digC
      rw [ofNat_digit hd]
      exact decide_eq_true (by omega)
    split at hc
    · rename_i h
      rw [List.mem_singleton] at hc
      rw [hc]
      exact key u h
    · rename_i h
      rcases List.mem_append.1 hc with hc | hc
      · exact ih (u / 10) (by omega) c hc
      · rw [List.mem_singleton] at hc
        rw [hc]
        exact key (u % 10) (by omega)
theorem parseUintM_app (M : Nat) (c : UInt8) : ∀ (l : List UInt8) (acc a : Nat), Lib.parseUintM M acc l = .ok a → Lib.parseUintM M acc (l ++ [c]) = Lib.parseUintM M a [c]
  | [], acc, a, h => by cases h; rfl
  | d :: r, acc, a, h => by
    rw [Lib.parseUintM] at h
    rw [List.cons_append, Lib.parseUintM]
    split at h
    · rename_i h1
      rw [if_pos h1]
      split at h
      · cases h
      · rename_i h2
        rw [if_neg h2]
        split at h
        · cases h
        · rename_i h3
          rw [if_neg h3]
          exact parseUintM_app M c r _ _ h
    · cases h
theorem parse_decDigits (u : Nat) : ∀ M, u ≤ M → M ≤ 18446744073709551615 → Lib.parseUintM M 0 (Lib.decDigits u) = .ok u := by
  induction u using Nat.strongRecOn with
  | _ u ih =>
    intro M h1 h2
    rw [Lib.decDigits]
    split
    · rename_i h
      rw [Lib.parseUintM, ofNat_digit h, if_pos (by omega), if_neg (by omega), if_neg (by omega), Lib.parseUintM]
      congr 1
      omega
    · rename_i h
      rw [parseUintM_app M _ _ 0 (u / 10) (ih (u / 10) (by omega) M (by omega) h2)]
      rw [Lib.parseUintM, ofNat_digit (by omega), if_pos (by omega), if_neg (by omega), if_neg (by omega), Lib.parseUintM]
      congr 1
      omega
theorem decDigits_cons (u : Nat) : ∃ c r, Lib.decDigits u = c :: r ∧ 48 ≤ c.toNat ∧ c.toNat ≤ 57 := by
  have h := decDigits_digC u
  have hl := Lib.decDigits_length u
  have hp := Lib.nDigits_pos u
  cases hd : Lib.decDigits u with
  | nil => rw [hd] at hl; simp at hl; omega
  | cons c r =>
    refine ⟨c, r, rfl, ?_⟩
    have := h c (by rw [hd]; exact List.mem_cons_self)
    unfold digC at this
    exact of_decide_eq_true this
theorem parse_itoa {v : Int} (h0 : -9223372036854775808 ≤ v) (h1 : v ≤ 9223372036854775807) : Lib.parseIntB 64 (Lib.itoa v) = .ok v := by
  unfold Lib.itoa
  by_cases hv : v < 0
  · rw [if_pos hv]
    obtain ⟨c, r, hc, _⟩ := decDigits_cons v.natAbs
    rw [Lib.parseIntB_minus]
    unfold Lib.parseUintB
    rw [if_neg (by rw [hc]; simp), parse_decDigits _ _ (by simp; omega) (by decide)]
    unfold Lib.signedC
    simp only []
    split
    · rename_i hh; simp at hh; omega
    · congr 1; omega
  · rw [if_neg hv]
    obtain ⟨c, r, hc, h2, h3⟩ := decDigits_cons v.toNat
    rw [hc, Lib.parseIntB_plain 64 c r (by omega) (by omega), ← hc]
    unfold Lib.parseUintB
    rw [if_neg (by rw [hc]; simp), parse_decDigits _ _ (by simp; omega) (by decide)]
    unfold Lib.signlessC
    simp only []
    split
    · rename_i hh; simp at hh; omega
    · congr 1; omega
--]]digs
--[[num
theorem digN_all : ∀ (l r : List UInt8), (∀ c ∈ l, digC c = true) → (∀ c r', r = c :: r' → digC c = false) → digN (l ++ r) = l.length
  | [], [], _, _ => rfl
  | [], c :: r, _, h => by
    show digN (c :: r) = 0
    rw [digN, h c r rfl]
    rfl
  | c :: l, r, h1, h2 => by
    rw [List.cons_append, digN, h1 c List.mem_cons_self, cond_true, digN_all l r (fun d hd => h1 d (List.mem_cons_of_mem _ hd)) h2]
    rfl
theorem eat_here (pre : List UInt8) (c d : UInt8) (r : List UInt8) : eatL (pre ++ c :: r) pre.length d = (c == d) := by
  unfold eatL
  rw [List.getElem?_append_right (Nat.le_refl _)]
  simp
theorem drop_here (pre r : List UInt8) : (pre ++ r).drop pre.length = r := by simp
theorem drop_one (pre : List UInt8) (c : UInt8) (r : List UInt8) : (pre ++ c :: r).drop (pre.length + 1) = r := by
  rw [show pre ++ c :: r = (pre ++ [c]) ++ r by simp, show pre.length + 1 = (pre ++ [c]).length by simp, drop_here]
theorem numEnd_itoa {v : Int} {pre rest : List UInt8} (hr : ∀ c r', rest = c :: r' → digC c = false) : numEnd (pre ++ (Lib.itoa v ++ rest)) pre.length = pre.length + (Lib.itoa v).length := by
  unfold numEnd Lib.itoa
  by_cases hv : v < 0
  · rw [if_pos hv]
    have e : numAt (pre ++ (45 :: Lib.decDigits v.natAbs ++ rest)) pre.length = pre.length + 1 := by
      unfold numAt
      rw [List.cons_append, eat_here, if_pos (by decide)]
    rw [e, List.cons_append, drop_one, digN_all _ _ (decDigits_digC _) hr]
    simp only [List.length_cons]
    omega
  · rw [if_neg hv]
    obtain ⟨c, r, hc, h2, h3⟩ := decDigits_cons v.toNat
    have e : numAt (pre ++ (Lib.decDigits v.toNat ++ rest)) pre.length = pre.length := by
      unfold numAt
      rw [hc, List.cons_append, eat_here, if_neg]
      intro hh
      have : c = 45 := by simpa using hh
      rw [this] at h2
      revert h2
      decide
    rw [e, drop_here, digN_all _ _ (decDigits_digC _) hr]
theorem numR_itoa {v : Int} (h0 : -9223372036854775808 ≤ v) (h1 : v ≤ 9223372036854775807) {pre rest : List UInt8} (hr : ∀ c r', rest = c :: r' → digC c = false) : numR (pre ++ (Lib.itoa v ++ rest)) pre.length = .ok (.mk 1 v ⟨#[]⟩ []) (pre.length + (Lib.itoa v).length) := by
  have e : numT (pre ++ (Lib.itoa v ++ rest)) pre.length = Lib.itoa v := by
    unfold numT
    rw [numEnd_itoa hr, drop_here, show pre.length + (Lib.itoa v).length - pre.length = (Lib.itoa v).length by omega, List.take_append_of_le_length (Nat.le_refl _), List.take_length]
  unfold numR
  rw [e, parse_itoa h0 h1]
  dsimp only
  rw [if_pos rfl, numEnd_itoa hr]
--]]num
--[[quot
theorem hexD_fin : ∀ n : Fin 256, hexBad (hexD (n.1 / 16)) (hexD (n.1 % 16)) = decide (32 ≤ n.1 ∧ n.1 ≤ 126) ∧ UInt8.ofNat (hexV (hexD (n.1 / 16)) (hexD (n.1 % 16))).toNat = UInt8.ofNat n.1 := by decide +kernel
theorem quotL_step (c : UInt8) (acc : List UInt8) (k : Nat) (r : List UInt8) : quotL acc k (escL c ++ r) = quotL (acc ++ [c]) (k + (escL c).length) r := by
  unfold escL
  by_cases h1 : c.toNat = 34 ∨ c.toNat = 92
  · rw [if_pos h1, List.cons_append, List.cons_append, List.nil_append, quotL_cons]
    rw [if_neg (by decide), if_neg (by decide), if_neg (by decide)]
    dsimp only
    rcases h1 with h1 | h1
    · rw [if_pos h1]
      have : c = 34 := UInt8.toNat_inj.1 h1
      rw [this]
      rfl
    · rw [if_neg (by omega), if_pos h1]
      have : c = 92 := UInt8.toNat_inj.1 h1
      rw [this]
      rfl
  · rw [if_neg h1]
    by_cases h2 : c.toNat < 32 ∨ 126 < c.toNat
    · rw [if_pos h2]
      simp only [List.cons_append, List.nil_append]
      rw [quotL_cons, if_neg (by decide), if_neg (by decide), if_neg (by decide)]
      dsimp only
      rw [if_neg (by decide), if_neg (by decide), if_neg (by decide)]
      have hc := c.toNat_lt
      obtain ⟨e1, e2⟩ := hexD_fin ⟨c.toNat, hc⟩
      dsimp only at e1 e2
      rw [e1, decide_eq_false (by omega), e2]
      simp
    · rw [if_neg h2, List.cons_append, List.nil_append, quotL_cons, if_neg (by omega), if_neg h2, if_pos (by omega)]
      rfl
theorem quotL_esc : ∀ (s acc : List UInt8) (k : Nat) (r : List UInt8), quotL acc k (s.flatMap escL ++ 34 :: r) = some (acc ++ s, k + (s.flatMap escL).length + 1)
  | [], acc, k, r => by
    show quotL acc k (34 :: r) = _
    rw [quotL_cons, if_pos (by decide)]
    simp
  | c :: s, acc, k, r => by
    rw [List.flatMap_cons, List.append_assoc, quotL_step, quotL_esc s]
    simp
    omega
--]]quot
/-- a value that is read as it was printed, within so many lists -/
inductive OkV : Nat → Val → Prop
  | nil (n : Nat) (x : Val) (h : x.kind = 0) : OkV n x
  | int (n : Nat) (x : Val) (h : x.kind = 1) (h0 : -9223372036854775808 ≤ x.num) (h1 : x.num ≤ 9223372036854775807) : OkV n x
  | txt (n : Nat) (x : Val) (h : x.kind = 2) : OkV n x
  | list (n : Nat) (x : Val) (h : x.kind = 3) (hl : ∀ y ∈ x.list, OkV n y) : OkV (n + 1) x
def prL (x : Val) : List UInt8 := (printV x).data.toList
theorem prL_nil {x : Val} (h : x.kind = 0) : prL x = [110, 105, 108] := by unfold prL; rw [printV_eq, h]; rfl
theorem prL_int {x : Val} (h : x.kind = 1) : prL x = Lib.itoa x.num := by unfold prL; rw [printV_eq, h]; rfl
theorem prL_txt {x : Val} (h : x.kind = 2) : prL x = 34 :: (x.txt.data.toList.flatMap escL ++ [34]) := by unfold prL; rw [printV_eq, h]; rfl
def sepL (l : List Val) : List UInt8 := l.flatMap fun y => 32 :: prL y
def bodyL : List Val → List UInt8
  | [] => []
  | x :: r => prL x ++ sepL r
theorem join_sep : ∀ (r : List Val) (x : Val), Lib.join (((printV.printsL (x :: r)).map (·.data.toList))) [32] = prL x ++ sepL r
  | [], x => by
    rw [printV.printsL, printV.printsL]
    simp [Lib.join, List.intercalate, sepL, prL]
  | y :: r, x => by
    have h := join_sep r y
    rw [printV.printsL] at h ⊢
    rw [printV.printsL]
    unfold Lib.join List.intercalate at h ⊢
    rw [List.map_cons, List.map_cons, List.intersperse_cons_cons, List.flatten_cons, List.flatten_cons]
    rw [List.map_cons] at h
    rw [h]
    simp [sepL, prL]
theorem prL_list {x : Val} (h : x.kind = 3) : prL x = 91 :: (bodyL x.list ++ [93]) := by
  unfold prL
  rw [printV_eq, h]
  show ((⟨#[91]⟩ ++ joinB (printV.printsL x.list)) ++ ⟨#[93]⟩ : ByteArray).data.toList = _
  rw [ByteArray.data_append, ByteArray.data_append, Array.toList_append, Array.toList_append]
  have : (joinB (printV.printsL x.list)).data.toList = bodyL x.list := by
    unfold joinB
    cases hx : x.list with
    | nil => rw [printV.printsL]; rfl
    | cons y r => exact join_sep r y
  rw [this]
  simp
/-- the first sign of a printed value is none of those between values -/
theorem prL_head {n : Nat} {x : Val} (h : OkV n x) : ∃ c r, prL x = c :: r ∧ c ≠ 93 ∧ c ≠ 32 := by
  cases h with
  | nil _ _ h => exact ⟨_, _, prL_nil h, by decide, by decide⟩
  | int _ _ h h0 h1 =>
    rw [prL_int h]
    unfold Lib.itoa
    split
    · exact ⟨_, _, rfl, by decide, by decide⟩
    · obtain ⟨c, r, hc, h2, h3⟩ := decDigits_cons x.num.toNat
      refine ⟨c, r, hc, ?_, ?_⟩
      · rintro rfl; revert h3; decide
      · rintro rfl; revert h2; decide
  | txt _ _ h => exact ⟨_, _, prL_txt h, by decide, by decide⟩
  | list _ _ h hl => exact ⟨_, _, prL_list h, by decide, by decide⟩
theorem headR_of {L : Nat → PR} {pre : List UInt8} {c : UInt8} {r : List UInt8} (hc : c ≠ 110) (h34 : c ≠ 34) (h91 : c ≠ 91) : headR L (pre ++ c :: r) pre.length = numR (pre ++ c :: r) pre.length := by
  unfold headR
  rw [drop_here, eat_here, eat_here]
  have e : Lib.hasPrefix (c :: r) [110, 105, 108] = false := by
    show ((110 == c) && _) = false
    rw [show ((110 : UInt8) == c) = false by simpa using (fun e => hc e.symm)]
    rfl
  rw [e, if_neg (by simp), if_neg (by simpa using h34), if_neg (by simpa using h91)]
theorem list_read {V : Nat → PR} {s : List UInt8} (pre : List UInt8) (rest : List UInt8) : ∀ (l done : List Val) (f : Nat) (mid : List UInt8), s = pre ++ (mid ++ ((if done = [] then bodyL l else sepL l) ++ 93 :: rest)) → l.length < f → (∀ y ∈ l, ∃ c r, prL y = c :: r ∧ c ≠ 93 ∧ c ≠ 32) →
    (∀ y ∈ l, ∀ (p q : List UInt8), s = p ++ (prL y ++ q) → (∃ c r, q = c :: r ∧ digC c = false) → V p.length = .ok (cloneV y) (p.length + (prL y).length)) →
    listR V s f (pre.length + mid.length) (done.map cloneV) = .ok (.mk 3 0 ⟨#[]⟩ ((done ++ l).map cloneV)) (pre.length + mid.length + (if done = [] then bodyL l else sepL l).length + 1)
  | [], done, f, mid, hs, hf, _, _ => by
    cases f with
    | zero => omega
    | succ f =>
      have hb : (if done = [] then bodyL [] else sepL []) = [] := by split <;> rfl
      rw [hb] at hs ⊢
      have e : eatL s (pre.length + mid.length) 93 = true := by
        rw [hs, List.nil_append, ← List.append_assoc, show pre.length + mid.length = (pre ++ mid).length by simp, eat_here]
        rfl
      rw [listR, if_pos e, List.append_nil]
      rfl
  | y :: r, done, f, mid, hs, hf, hh, hV => by
    cases f with
    | zero => simp at hf
    | succ f =>
      obtain ⟨c, t, hc, n93, n32⟩ := hh y List.mem_cons_self
      have hq : ∃ c q, sepL r ++ 93 :: rest = c :: q ∧ digC c = false := by
        cases r with
        | nil => exact ⟨93, rest, rfl, by decide⟩
        | cons z r => exact ⟨32, _, rfl, by decide⟩
      by_cases hd : done = []
      · subst hd
        rw [if_pos rfl] at hs ⊢
        have hs2 : s = (pre ++ mid) ++ (prL y ++ (sepL r ++ 93 :: rest)) := by rw [hs]; simp [bodyL]
        have e1 : eatL s (pre.length + mid.length) 93 = false := by
          rw [hs2, hc, List.cons_append, show pre.length + mid.length = (pre ++ mid).length by simp, eat_here]
          simpa using n93
        have hv := hV y List.mem_cons_self (pre ++ mid) _ hs2 hq
        rw [List.length_append] at hv
        rw [listR, if_neg (by rw [e1]; simp), if_neg (by simp), show (if (([] : List Val).map cloneV).length = 0 then pre.length + mid.length else pre.length + mid.length + 1) = pre.length + mid.length from rfl, hv]
        dsimp only
        have ih := list_read pre rest r [y] f (mid ++ prL y) (by rw [hs2, if_neg (by simp)]; simp) (by simp at hf; omega) (fun z hz => hh z (List.mem_cons_of_mem _ hz)) (fun z hz => hV z (List.mem_cons_of_mem _ hz))
        rw [if_neg (by simp), List.length_append] at ih
        rw [show pre.length + mid.length + (prL y).length = pre.length + (mid.length + (prL y).length) by omega]
        rw [show ([] : List Val).map cloneV ++ [cloneV y] = [y].map cloneV from rfl, ih]
        congr 1
        rw [bodyL, List.length_append]
        omega
      · rw [if_neg hd] at hs ⊢
        have hs1 : s = (pre ++ mid) ++ 32 :: (prL y ++ (sepL r ++ 93 :: rest)) := by rw [hs]; simp [sepL]
        have hs2 : s = (pre ++ mid ++ [32]) ++ (prL y ++ (sepL r ++ 93 :: rest)) := by rw [hs1]; simp
        have e1 : eatL s (pre.length + mid.length) 93 = false := by
          rw [hs1, show pre.length + mid.length = (pre ++ mid).length by simp, eat_here]
          rfl
        have e2 : eatL s (pre.length + mid.length) 32 = true := by
          rw [hs1, show pre.length + mid.length = (pre ++ mid).length by simp, eat_here]
          rfl
        have hv := hV y List.mem_cons_self (pre ++ mid ++ [32]) _ hs2 hq
        have hl : (pre ++ mid ++ [32]).length = pre.length + mid.length + 1 := by simp only [List.length_append, List.length_singleton]
        rw [hl] at hv
        have hd2 : ¬ (done.map cloneV).length = 0 := by simpa using hd
        rw [listR, if_neg (by rw [e1]; simp), if_neg (by rw [e2]; simp), if_neg hd2, hv]
        dsimp only
        have ih := list_read pre rest r (done ++ [y]) f (mid ++ 32 :: prL y) (by rw [hs1, if_neg (by simp)]; simp) (by simp at hf; omega) (fun z hz => hh z (List.mem_cons_of_mem _ hz)) (fun z hz => hV z (List.mem_cons_of_mem _ hz))
        rw [if_neg (by simp), List.length_append, List.length_cons] at ih
        rw [show pre.length + mid.length + 1 + (prL y).length = pre.length + (mid.length + ((prL y).length + 1)) by omega]
        rw [show done.map cloneV ++ [cloneV y] = (done ++ [y]).map cloneV by simp, ih]
        congr 1
        · simp
        · unfold sepL
          rw [List.flatMap_cons, List.length_append, List.length_cons]
          omega
theorem read_print {n : Nat} {x : Val} (h : OkV n x) : ∀ (pre rest : List UInt8), (∀ c r, rest = c :: r → digC c = false) → valR n (pre ++ (prL x ++ rest)) pre.length = .ok (cloneV x) (pre.length + (prL x).length) := by
  induction h with
  | nil n x h =>
    intro pre rest _
    obtain ⟨L, hL⟩ := valR_head n (pre ++ (prL x ++ rest)) pre.length
    rw [hL]
    unfold headR
    rw [drop_here, prL_nil h, if_pos (show Lib.hasPrefix ([110, 105, 108] ++ rest) [110, 105, 108] = true from rfl)]
    have e : cloneV x = vNil := by rw [cloneV_eq, h]; rfl
    rw [e]
    rfl
  | int n x h h0 h1 =>
    intro pre rest hr
    obtain ⟨L, hL⟩ := valR_head n (pre ++ (prL x ++ rest)) pre.length
    rw [hL, prL_int h]
    have e : cloneV x = .mk 1 x.num ⟨#[]⟩ [] := by rw [cloneV_eq, h]; rfl
    have hn := numR_itoa h0 h1 (pre := pre) hr
    have hc : ∃ c r, Lib.itoa x.num = c :: r ∧ c ≠ 110 ∧ c ≠ 34 ∧ c ≠ 91 := by
      unfold Lib.itoa
      split
      · exact ⟨_, _, rfl, by decide, by decide, by decide⟩
      · obtain ⟨c, r, hc, h2, h3⟩ := decDigits_cons x.num.toNat
        refine ⟨c, r, hc, ?_, ?_, ?_⟩
        · rintro rfl; revert h3; decide
        · rintro rfl; revert h2; decide
        · rintro rfl; revert h3; decide
    obtain ⟨c, r, hc, n1, n2, n3⟩ := hc
    have hg : headR L (pre ++ (Lib.itoa x.num ++ rest)) pre.length = numR (pre ++ (Lib.itoa x.num ++ rest)) pre.length := by
      rw [hc, List.cons_append]
      exact headR_of n1 n2 n3
    rw [hg, hn, e]
  | txt n x h =>
    intro pre rest _
    obtain ⟨L, hL⟩ := valR_head n (pre ++ (prL x ++ rest)) pre.length
    rw [hL]
    unfold headR
    have e : cloneV x = .mk 2 0 x.txt [] := by rw [cloneV_eq, h]; rfl
    rw [prL_txt h, List.cons_append, drop_here, eat_here, drop_one, List.append_assoc]
    rw [if_neg (show ¬ Lib.hasPrefix (34 :: _) [110, 105, 108] = true from fun hh => by cases hh), if_pos (by decide)]
    show quoR (quotL [] (pre.length + 1) (x.txt.data.toList.flatMap escL ++ 34 :: rest)) = _
    rw [quotL_esc, e]
    show PR.ok (.mk 2 0 ⟨(([] : List UInt8) ++ x.txt.data.toList).toArray⟩ []) _ = _
    congr 1
    simp
    omega
  | list n x h hl ih =>
    intro pre rest _
    unfold valR headR
    rw [prL_list h, List.cons_append, drop_here, eat_here, eat_here]
    rw [if_neg (show ¬ Lib.hasPrefix (91 :: _) [110, 105, 108] = true from fun hh => by cases hh), if_neg (show ¬ ((91 : UInt8) == 34) = true from fun hh => by cases hh), if_pos (by decide)]
    have e : cloneV x = .mk 3 0 ⟨#[]⟩ (x.list.map cloneV) := by rw [cloneV_eq, h, cloneL_map]; rfl
    generalize hs : pre ++ 91 :: (bodyL x.list ++ [93] ++ rest) = s
    have hk := list_read (V := valR n s) (s := s) pre rest x.list [] (s.length + 1) [91] (by rw [← hs]; simp) (by
      have : x.list.length ≤ (bodyL x.list).length := by
        have hm : ∀ l : List Val, l.length ≤ (sepL l).length := fun l => by
          induction l with
          | nil => exact Nat.le_refl _
          | cons y r ih => unfold sepL; rw [List.flatMap_cons, List.length_append, List.length_cons, List.length_cons]; unfold sepL at ih; omega
        cases hx : x.list with
        | nil => exact Nat.zero_le _
        | cons y r =>
          obtain ⟨c, t, hc, _⟩ := prL_head (hl y (by rw [hx]; exact List.mem_cons_self))
          have := hm r
          rw [bodyL, hc, List.length_append, List.length_cons, List.length_cons]
          omega
      rw [← hs]
      simp
      omega) (fun y hy => prL_head (hl y hy)) (fun y hy p q hp hq => by
      rw [hp]
      exact ih y hy p q (fun c r he => by obtain ⟨d, t, h1, h2⟩ := hq; rw [he] at h1; cases h1; exact h2))
    rw [if_pos rfl] at hk
    rw [List.map_nil] at hk
    rw [show pre.length + ([91] : List UInt8).length = pre.length + 1 from rfl] at hk
    dsimp only
    rw [hk, e]
    congr 1
    simp
    omega
mutual
theorem okV_walk : ∀ (x : Val) (d p q : Nat), d ≤ 8 → walkV x d (p, 0) = (q, 0) → x.wf → OkV (8 - d) x
  | .mk k n s l, d, p, q, hd, h, hw => by
    have hw2 := (Val.wf_eq _).1 hw
    rw [walkV_eq] at h
    have h : (bif decide (256 ≤ p) then (p + 1, (2 : Int)) else bif k == 0 || k == 1 then (p + 1, 0) else bif k == 2 then (p + 1, bif decide (256 < s.size) then 2 else 0) else bif k == 3 then walkV.walkL l (d + 1) (p + 1, bif decide (8 ≤ d) then 30 else bif decide (64 < l.length) then 2 else 0) else (p + 1, 9)) = (q, 0) := h
    cases h1 : decide (256 ≤ p) with
    | true => rw [h1] at h; simp at h
    | false =>
      rw [h1, cond_false] at h
      cases h2 : (k == 0 || k == 1) with
      | true =>
        have h2 : k = 0 ∨ k = 1 := by simpa using h2
        rcases h2 with rfl | rfl
        · exact .nil _ _ rfl
        · exact .int _ _ rfl hw2.2.1.1 hw2.2.1.2
      | false =>
        rw [h2, cond_false] at h
        cases h3 : (k == 2) with
        | true =>
          have ek : k = 2 := by simpa using h3
          exact .txt _ _ ek
        | false =>
          rw [h3, cond_false] at h
          cases h4 : (k == 3) with
          | false => rw [h4] at h; simp at h
          | true =>
            rw [h4, cond_true] at h
            have ek : k = 3 := by simpa using h4
            cases h5 : decide (8 ≤ d) with
            | true =>
              rw [h5, cond_true, walkL_err _ _ _ rfl] at h
              simp at h
            | false =>
              rw [h5, cond_false] at h
              have : ¬ 8 ≤ d := of_decide_eq_false h5
              cases h6 : decide (64 < l.length) with
              | true =>
                rw [h6, cond_true, walkL_err _ _ _ rfl] at h
                simp at h
              | false =>
                rw [h6, cond_false] at h
                have ih := okV_walkL l (d + 1) (p + 1) q (by omega) h (Val.wfL_iff.1 hw2.2.2.2)
                rw [show 8 - d = (8 - (d + 1)) + 1 by omega]
                exact .list _ _ ek ih
theorem okV_walkL : ∀ (l : List Val) (d p q : Nat), d ≤ 8 → walkV.walkL l d (p, 0) = (q, 0) → (∀ x ∈ l, x.wf) → ∀ x ∈ l, OkV (8 - d) x
  | [], _, _, _, _, _, _, x, hx => by cases hx
  | y :: r, d, p, q, hd, h, hw, x, hx => by
    rw [walkL_cons] at h
    have h : walkV.walkL r d (walkV y d (p, 0)) = (q, 0) := h
    obtain ⟨q1, e1⟩ : ∃ c, walkV y d (p, 0) = c := ⟨_, rfl⟩
    obtain ⟨q1, f1⟩ := q1
    rw [e1] at h
    by_cases hf : f1 = 0
    · subst hf
      have g1 := okV_walk y d p q1 hd e1 (hw y List.mem_cons_self)
      have g2 := okV_walkL r d q1 q hd h (fun z hz => hw z (List.mem_cons_of_mem _ hz))
      rcases List.mem_cons.1 hx with rfl | hx
      · exact g1
      · exact g2 x hx
    · rw [walkL_err _ _ _ (by simpa using hf)] at h
      cases h
      exact absurd rfl hf
end
theorem okV_check {x : Val} (h : checkL x = 0) (hw : x.wf) : OkV 8 x := by
  unfold checkL at h
  cases h1 : ((walkV x 0 (0, 0)).2 != 0) with
  | true => rw [h1] at h; simp at h h1; exact absurd h h1
  | false =>
    have e : (walkV x 0 (0, 0)).2 = 0 := by simpa using h1
    exact okV_walk x 0 0 (walkV x 0 (0, 0)).1 (by decide) (Prod.ext rfl e) hw
end Go.Va
