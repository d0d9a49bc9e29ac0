/- The texts of the law AsmWhole: what they are read as; plain. -/
import Derived.Test.YtielnengimninaaGreatDoorV47
namespace Go.Proofs.YtielnengimninaaGreatDoor
open Go.RowKit Go.Own Go.Own.MapTy Go.Va Go.Sort
open Go.Own.Cells (sz enc)
def constB : List UInt8 := [91, 49, 32, 34, 97, 34, 93]
def goB : List UInt8 := [34, 103, 111, 34]
def vA : Val := (parseV constB).1
/-- what stands behind a name in a line of the law -/
def argT (o : Int) : List UInt8 := bif o == 1 then 32 :: constB else bif o == 2 then 32 :: goB else bif o == 0 then [] else [32, 51]
/-- a line of the law -/
def opT (op : Int) : List UInt8 :=
  bif (ofL op).1.name.data.toList == [] || (ofL op).1.operand == 4 then nopB else [32, 32] ++ (ofL op).1.name.data.toList ++ argT (ofL op).1.operand
def opK (op : Int) : Nat := bif (ofL op).1.name.data.toList == [] || (ofL op).1.operand == 4 then 0 else op.toNat
def okLine (k : Nat) : Bool :=
  !isLab (mkB (opT k)) && Lib.hasPrefix (mkB (opT k)).data.toList [32, 32] && (findL (cutN (mkB (opT k))) == some (opK k)) && (cutM (mkB (opT k)) == ((ofL (opK k)).1.operand != 0)) &&
  ((ofL (opK k)).1.operand == 0 || ((ofL (opK k)).1.operand == 1 && (cutR (mkB (opT k))).data.toList == constB) || ((ofL (opK k)).1.operand == 2 && (cutR (mkB (opT k))).data.toList == goB) || (((ofL (opK k)).1.operand == 3 || (ofL (opK k)).1.operand == 5) && (cutR (mkB (opT k))).data.toList == [51])) &&
  decide ((opT k).length + 1 ≤ 32) && !(opT k).contains 10 && (ofL (opK k)).2
--[[a1
theorem okLines : (List.range 33).all okLine = true := by kernel_rfl
--]]a1
theorem ofL_out {op : Int} (h : ¬ (0 ≤ op ∧ op ≤ 32)) : (ofL op).1.name = ⟨#[]⟩ := by
  have e : ∀ j : Int, 0 ≤ j → j ≤ 32 → (op == j) = false := fun j h1 h2 => by rw [beq_eq_false_iff_ne]; omega
  simp only [ofL, waitsL, e 0 (by decide) (by decide), e 1 (by decide) (by decide), e 2 (by decide) (by decide), e 3 (by decide) (by decide), e 4 (by decide) (by decide), e 5 (by decide) (by decide), e 6 (by decide) (by decide), e 7 (by decide) (by decide), e 8 (by decide) (by decide), e 9 (by decide) (by decide), e 10 (by decide) (by decide), e 11 (by decide) (by decide), e 12 (by decide) (by decide), e 13 (by decide) (by decide), e 14 (by decide) (by decide), e 15 (by decide) (by decide), e 16 (by decide) (by decide), e 17 (by decide) (by decide), e 18 (by decide) (by decide), e 19 (by decide) (by decide), e 20 (by decide) (by decide), e 21 (by decide) (by decide), e 22 (by decide) (by decide), e 23 (by decide) (by decide), e 24 (by decide) (by decide), e 25 (by decide) (by decide), e 26 (by decide) (by decide), e 27 (by decide) (by decide), e 28 (by decide) (by decide), e 29 (by decide) (by decide), e 30 (by decide) (by decide), e 31 (by decide) (by decide), e 32 (by decide) (by decide), cond_false]
theorem opT_in (op : Int) : ∃ k : Nat, k < 33 ∧ opT op = opT k := by
  by_cases h : 0 ≤ op ∧ op ≤ 32
  · exact ⟨op.toNat, by omega, by rw [show ((op.toNat : Nat) : Int) = op by omega]⟩
  · refine ⟨0, by decide, ?_⟩
    have h0 : opT ((0 : Nat) : Int) = nopB := by kernel_rfl
    rw [h0]
    unfold opT
    rw [ofL_out h]
    rfl
theorem opT_fit (op : Int) : 10 ∉ opT op ∧ (opT op).length + 1 ≤ 36 := by
  obtain ⟨k, hk, e⟩ := opT_in op
  have h := List.all_eq_true.1 okLines k (List.mem_range.2 hk)
  unfold okLine at h
  simp only [Bool.and_eq_true, Bool.not_eq_true', decide_eq_true_eq] at h
  rw [e]
  refine ⟨fun hm => ?_, by omega⟩
  have := h.1.2
  rw [List.contains_eq_mem, decide_eq_false_iff_not] at this
  exact this hm
/-- an instruction that the law's lines make -/
def CodeG (st : RSt) (c : In) : Prop := (ofL c.op).2 = true ∧
  (((ofL c.op).1.operand = 0 ∧ c.a = 0) ∨ ((ofL c.op).1.operand = 1 ∧ c.a = 0 ∧ st.consts = [vA]) ∨ ((ofL c.op).1.operand = 2 ∧ c.a = 0 ∧ st.names = [goN]) ∨ ((ofL c.op).1.operand = 3 ∧ c.a = 3 ∧ st.places = 4) ∨ ((ofL c.op).1.operand = 5 ∧ c.a = 3))
structure GoodS (st : RSt) : Prop where
  consts : st.consts = [] ∨ st.consts = [vA]
  names : st.names = [] ∨ st.names = [goN]
  places : st.places = 0 ∨ st.places = 4
  labels : st.labels = []
  jumps : st.jumps = []
  code : ∀ c ∈ st.code, CodeG st c
theorem goodS_put {st st' : RSt} (h : GoodS st) (c : In) (h1 : st.consts = [] ∨ st'.consts = st.consts) (h2 : st.names = [] ∨ st'.names = st.names) (h3 : st.places = 0 ∨ st'.places = st.places) (k1 : st'.consts = [] ∨ st'.consts = [vA]) (k2 : st'.names = [] ∨ st'.names = [goN]) (k3 : st'.places = 0 ∨ st'.places = 4) (k4 : st'.labels = []) (k5 : st'.jumps = []) (k6 : st'.code = st.code ++ [c]) (k7 : CodeG st' c) : GoodS st' := by
  refine ⟨k1, k2, k3, k4, k5, fun d hd => ?_⟩
  rw [k6] at hd
  rcases List.mem_append.1 hd with hd | hd
  · obtain ⟨e, hc⟩ := h.code d hd
    refine ⟨e, ?_⟩
    rcases hc with hc | ⟨a, b, c⟩ | ⟨a, b, c⟩ | ⟨a, b, c⟩ | hc
    · exact .inl hc
    · refine .inr (.inl ⟨a, b, ?_⟩)
      rcases h1 with h1 | h1
      · rw [c] at h1; cases h1
      · rw [h1, c]
    · refine .inr (.inr (.inl ⟨a, b, ?_⟩))
      rcases h2 with h2 | h2
      · rw [c] at h2; cases h2
      · rw [h2, c]
    · refine .inr (.inr (.inr (.inl ⟨a, b, ?_⟩)))
      rcases h3 with h3 | h3
      · rw [c] at h3; cases h3
      · rw [h3, c]
    · exact .inr (.inr (.inr (.inr hc)))
  · rw [List.mem_singleton.1 hd]; exact k7
theorem pv : (parseV constB).2 = 0 := by kernel_rfl
theorem ad0 : addV (parseV constB).1 [] = (0, [vA]) := rfl
theorem ad1 : addV (parseV constB).1 [vA] = (0, [vA]) := by kernel_rfl
theorem qg : quotedL goB = some goN := by kernel_rfl
theorem an0 : addN goN [] = (0, [goN]) := by kernel_rfl
theorem an1 : addN goN [goN] = (0, [goN]) := by kernel_rfl
theorem n3 : numberL [51] = some 3 := by kernel_rfl
theorem op_line (op n : Int) (st : RSt) (h : GoodS st) : ∃ st', lineL n (mkB (opT op)) st = (0, st') ∧ GoodS st' ∧ st'.code.length = st.code.length + 1 := by
  obtain ⟨k, hk, e⟩ := opT_in op
  rw [e]
  have hq := List.all_eq_true.1 okLines k (List.mem_range.2 hk)
  unfold okLine at hq
  simp only [Bool.and_eq_true, Bool.not_eq_true', decide_eq_true_eq, Bool.or_eq_true, beq_iff_eq] at hq
  obtain ⟨⟨⟨⟨⟨⟨⟨q1, q2⟩, q3⟩, q4⟩, q5⟩, q6⟩, q7⟩, q8⟩ := hq
  rcases q5 with ((q5 | ⟨q5, q9⟩) | ⟨q5, q9⟩) | ⟨q5, q9⟩
  · rw [q5] at q4
    exact ⟨_, lineL_op q1 q2 q3 q4 q5 n st, goodS_put h ⟨(opK k : Int), 0⟩ (.inr rfl) (.inr rfl) (.inr rfl) h.consts h.names h.places h.labels h.jumps rfl ⟨q8, .inl ⟨q5, rfl⟩⟩, by simp⟩
  · rw [q5] at q4
    have ho : operL 1 n (cutR (mkB (opT k))) st = (0, 0, { st with consts := [vA] }) := by
      unfold operL
      rw [if_pos rfl, q9, if_neg (by rw [pv]; simp)]
      rcases h.consts with hc | hc <;> rw [hc]
      · rw [ad0]; rfl
      · rw [ad1]; rfl
    exact ⟨_, lineL_arg q1 q2 q3 q4 q5 (by decide) ho, goodS_put h ⟨(opK k : Int), 0⟩ (h.consts.imp id fun e => e.symm) (.inr rfl) (.inr rfl) (.inr rfl) h.names h.places h.labels h.jumps rfl ⟨q8, .inr (.inl ⟨q5, rfl, rfl⟩)⟩, by simp⟩
  · rw [q5] at q4
    have ho : operL 2 n (cutR (mkB (opT k))) st = (0, 0, { st with names := [goN] }) := by
      unfold operL
      rw [if_neg (by decide), if_pos rfl, q9, qg]
      dsimp only
      rcases h.names with hc | hc <;> rw [hc]
      · rw [an0]; rfl
      · rw [an1]; rfl
    exact ⟨_, lineL_arg q1 q2 q3 q4 q5 (by decide) ho, goodS_put h ⟨(opK k : Int), 0⟩ (.inr rfl) (h.names.imp id fun e => e.symm) (.inr rfl) h.consts (.inr rfl) h.places h.labels h.jumps rfl ⟨q8, .inr (.inr (.inl ⟨q5, rfl, rfl⟩))⟩, by simp⟩
  · rcases q5 with q5 | q5
    · rw [q5] at q4
      have ho : operL 3 n (cutR (mkB (opT k))) st = (3, 0, { st with places := 4 }) := by
        unfold operL
        rw [if_neg (by decide), if_neg (by decide), if_neg (by decide), q9, n3]
        dsimp only
        rw [if_pos rfl]
        rcases h.places with hc | hc <;> rw [hc] <;> rfl
      exact ⟨_, lineL_arg q1 q2 q3 q4 q5 (by decide) ho, goodS_put h ⟨(opK k : Int), 3⟩ (.inr rfl) (.inr rfl) (h.places.imp id fun e => e.symm) h.consts h.names (.inr rfl) h.labels h.jumps rfl ⟨q8, .inr (.inr (.inr (.inl ⟨q5, rfl, rfl⟩)))⟩, by simp⟩
    · rw [q5] at q4
      have ho : operL 5 n (cutR (mkB (opT k))) st = (3, 0, st) := by
        unfold operL
        rw [if_neg (by decide), if_neg (by decide), if_neg (by decide), q9, n3]
        rfl
      exact ⟨_, lineL_arg q1 q2 q3 q4 q5 (by decide) ho, goodS_put h ⟨(opK k : Int), 3⟩ (.inr rfl) (.inr rfl) (.inr rfl) h.consts h.names h.places h.labels h.jumps rfl ⟨q8, .inr (.inr (.inr (.inr ⟨q5, rfl⟩)))⟩, by simp⟩
theorem ops_lines : ∀ (l : List Int) (n : Nat) (st : RSt), GoodS st → ∃ st', linesR ((l.map opT).map mkB) n st = ((0, 0), st') ∧ GoodS st' ∧ st'.code.length = st.code.length + l.length
  | [], n, st, h => ⟨st, rfl, h, rfl⟩
  | op :: r, n, st, h => by
    obtain ⟨st1, h1, h2, h3⟩ := op_line op ((n : Int) + 1) st h
    obtain ⟨st2, k1, k2, k3⟩ := ops_lines r (n + 1) st1 h2
    refine ⟨st2, ?_, k2, by rw [k3, h3, List.length_cons]; omega⟩
    rw [List.map_cons, List.map_cons, linesR, h1]
    simp only [bne_self_eq_false, cond_false]
    exact k1
theorem goodS_img {st : RSt} (h : GoodS st) (h0 : 0 < st.code.length) (h1 : st.code.length ≤ 512) : imgL ⟨st.code, st.consts, st.names, st.places⟩ = 0 := by
  have c1 : constErr st.consts = 0 := by rcases h.consts with e | e <;> rw [e] <;> kernel_rfl
  have c2 : nameErr st.names = 0 := by rcases h.names with e | e <;> rw [e] <;> kernel_rfl
  have c3 : st.consts.length ≤ 64 := by rcases h.consts with e | e <;> rw [e] <;> decide
  have c4 : st.names.length ≤ 32 := by rcases h.names with e | e <;> rw [e] <;> decide
  have c5 : 0 ≤ st.places ∧ st.places ≤ 16 := by have := h.places; omega
  have c6 : codeErr ⟨st.code, st.consts, st.names, st.places⟩ st.code = 0 := codeErr_all fun c hc => by
    obtain ⟨e, hg⟩ := h.code c hc
    refine ⟨e, ?_⟩
    rcases hg with ⟨a, b⟩ | ⟨a, b, d⟩ | ⟨a, b, d⟩ | ⟨a, b, d⟩ | ⟨a, b⟩ <;> rw [a, b]
    · exact ⟨by decide, by simp [mostL]⟩
    · exact ⟨by decide, by rw [d]; simp [mostL]⟩
    · exact ⟨by decide, by rw [d]; simp [mostL]⟩
    · exact ⟨by decide, by rw [d]; simp [mostL]⟩
    · exact ⟨by decide, by simp [mostL]⟩
  unfold imgL
  simp only [c1, c2, c6, decide_eq_false (show ¬ st.code.length = 0 by omega), decide_eq_false (show ¬ 512 < st.code.length by omega), decide_eq_false (show ¬ 64 < st.consts.length by omega), decide_eq_false (show ¬ 32 < st.names.length by omega), decide_eq_false (show ¬ st.places < 0 by omega), decide_eq_false (show ¬ 16 < st.places by omega)]
  rfl
theorem good0 : GoodS st0 := ⟨.inl rfl, .inl rfl, .inl rfl, rfl, rfl, fun c h => by cases h⟩
/-- lines that are right -/
theorem whole_good {s : ByteArray} {l : List Int} (h0 : 0 < l.length) (h1 : l.length ≤ 40) (hs : s.data.toList = textB (l.map opT)) : ∃ p, asmL s = (p, 0, 0) ∧ p.code.length = l.length ∧ p.consts.length ≤ 1 ∧ p.names.length ≤ 1 ∧ (p.places = 0 ∨ p.places = 4) := by
  obtain ⟨st, h2, h3, h4⟩ := ops_lines l 0 st0 good0
  have h4 : st.code.length = l.length := by rw [h4]; simp [st0]
  refine ⟨⟨st.code, st.consts, st.names, st.places⟩, ?_, h4, ?_, ?_, h3.places⟩
  · rw [asmL_lines (by simpa using h0) hs (b := 36) (fun x hx => by obtain ⟨o, _, rfl⟩ := List.mem_map.1 hx; exact opT_fit o) (by simp; omega)]
    unfold asmQ
    rw [h2]
    dsimp only
    rw [h3.labels, h3.jumps, jumpsR]
    simp only [bne_self_eq_false, cond_false]
    rw [goodS_img h3 (by omega) (by omega)]
    rfl
  · show st.consts.length ≤ 1; rcases h3.consts with e | e <;> rw [e] <;> decide
  · show st.names.length ≤ 1; rcases h3.names with e | e <;> rw [e] <;> decide
def badB : List UInt8 := [32, 32, 98, 97, 100]
theorem findFrom_some {name : ByteArray} : ∀ {n k j : Nat}, findFrom name n k = some j → k ≤ j ∧ j < k + n ∧ (ofL j).1.name.data.toList = name.data.toList
  | 0, _, _, h => by cases h
  | n + 1, k, j, h => by
    rw [findFrom] at h
    cases hc : ((ofL k).2 && (ofL k).1.name.data.toList == name.data.toList) with
    | true =>
      rw [hc] at h
      cases h
      rw [Bool.and_eq_true, beq_iff_eq] at hc
      exact ⟨Nat.le_refl _, by omega, hc.2⟩
    | false =>
      rw [hc] at h
      have := findFrom_some h
      exact ⟨by omega, by omega, this.2.2⟩
theorem noBad : (List.range 33).all (fun k => !([98, 97, 100] : List UInt8).isPrefixOf (ofL k).1.name.data.toList) = true := by kernel_rfl
theorem lab_sp (x : List UInt8) : labL (32 :: x) = false := by
  unfold labL
  rw [labFrom, show labC 0 32 = false from rfl]
  rfl
theorem index32 {b : UInt8} {l : List UInt8} (h : (32 == b) = false) : (Lib.index (b :: l) [32] = -1 ∧ Lib.index l [32] = -1) ∨ (Lib.index (b :: l) [32] = Lib.index l [32] + 1 ∧ 0 ≤ Lib.index l [32]) := by
  have hp : ([32] : List UInt8).isPrefixOf (b :: l) = false := by
    show ((32 == b) && ([] : List UInt8).isPrefixOf l) = false
    rw [h]
    rfl
  have hg := Lib.index_ge l [32]
  rw [Lib.index, hp]
  by_cases e : Lib.index l [32] = -1
  · rw [e]; exact .inl ⟨rfl, rfl⟩
  · have n0 : (Lib.index l [32] == -1) = false := by rw [beq_eq_false_iff_ne]; exact e
    rw [n0]
    exact .inr ⟨rfl, by omega⟩
theorem bad_line (x : List UInt8) (n : Int) (st : RSt) : lineL n (mkB (badB ++ x)) st = (110, st) := by
  have hd : (mkB (badB ++ x)).data.toList = badB ++ x := rfl
  have h1 : isLab (mkB (badB ++ x)) = false := by
    unfold isLab
    cases hq : Lib.hasSuffix (mkB (badB ++ x)).data.toList [58] with
    | false => rfl
    | true =>
      have h2 : (trimB (mkB (badB ++ x))).data.toList = 32 :: ([32, 98, 97, 100] ++ x).take (([32, 98, 97, 100] ++ x).length - 1) := by
        unfold trimB Lib.trimSuffix
        rw [hq, if_pos rfl, hd]
        show List.take _ (32 :: ([32, 98, 97, 100] ++ x)) = _
        rw [show (badB ++ x).length - ([58] : List UInt8).length = (([32, 98, 97, 100] ++ x).length - 1) + 1 by simp [badB]]
        rfl
      rw [h2, lab_sp]
      rfl
  have h2 : Lib.hasPrefix (mkB (badB ++ x)).data.toList [32, 32] = true := by rw [hd]; rfl
  have h3 : findL (cutN (mkB (badB ++ x))) = none := by
    cases hf : findL (cutN (mkB (badB ++ x))) with
    | none => rfl
    | some k =>
      exfalso
      obtain ⟨_, hk, he⟩ := findFrom_some hf
      have hb := List.all_eq_true.1 noBad k (List.mem_range.2 (by omega))
      have hp : ([98, 97, 100] : List UInt8).isPrefixOf (cutN (mkB (badB ++ x))).data.toList = true := by
        unfold cutN Lib.trimPrefix
        rw [h2, if_pos rfl, hd, show (badB ++ x).drop ([32, 32] : List UInt8).length = 98 :: 97 :: 100 :: x from rfl]
        unfold Lib.cut
        split
        · rename_i hi
          have e : ∃ j, (Lib.index (98 :: 97 :: 100 :: x) [32]).toNat = j + 3 := by
            have e1 : Lib.index (98 :: 97 :: 100 :: x) [32] = -1 ∨ 3 ≤ Lib.index (98 :: 97 :: 100 :: x) [32] := by
              have i1 := index32 (b := 100) (l := x) rfl
              have i2 := index32 (b := 97) (l := 100 :: x) rfl
              have i3 := index32 (b := 98) (l := 97 :: 100 :: x) rfl
              omega
            exact ⟨(Lib.index (98 :: 97 :: 100 :: x) [32]).toNat - 3, by omega⟩
          obtain ⟨j, hj⟩ := e
          dsimp only
          rw [hj]
          rfl
        · rfl
      rw [← he] at hp
      rw [hp] at hb
      cases hb
  unfold lineL
  rw [h1, if_neg (by simp), h2, if_neg (by simp), h3]
/-- a line that isn't right -/
theorem whole_bad {s : ByteArray} {l : List Int} {x : List UInt8} {r : List (List UInt8)} (h1 : l.length + r.length ≤ 40) (hx : 10 ∉ x ∧ x.length ≤ 30) (hr : ∀ y ∈ r, 10 ∉ y ∧ y.length + 1 ≤ 36) (hs : s.data.toList = textB (l.map opT ++ (badB ++ x) :: r)) : asmL s = (noImg, (l.length : Int) + 1, 110) := by
  rw [asmL_lines (by simp only [List.length_append, List.length_cons]; omega) hs (b := 36) (fun y hy => by
    rcases List.mem_append.1 hy with hy | hy
    · obtain ⟨o, _, rfl⟩ := List.mem_map.1 hy; exact opT_fit o
    · rcases List.mem_cons.1 hy with rfl | hy
      · refine ⟨fun h => ?_, by simp [badB]; omega⟩
        rcases List.mem_append.1 h with h | h
        · revert h; decide
        · exact hx.1 h
      · exact hr y hy) (by simp; omega)]
  obtain ⟨st, h2, h3, h4⟩ := ops_lines l 0 st0 good0
  unfold asmQ
  rw [List.map_append, linesR_app h2, List.map_cons, linesR, bad_line]
  have : ((0 + ((l.map opT).map mkB).length : Nat) : Int) + 1 = (l.length : Int) + 1 := by simp
  rw [this]
  rfl
theorem whole_none {s : ByteArray} (hs : s.data.toList = []) : asmL s = (noImg, 0, 8) := by
  have : s = ⟨#[]⟩ := ByteArray.ext (Array.toList_inj.1 hs)
  have h0 : asmL ⟨#[]⟩ = (noImg, 0, 8) := by kernel_rfl
  rw [this]
  exact h0
end Go.Proofs.YtielnengimninaaGreatDoor
