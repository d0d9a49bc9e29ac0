/- Texts of lines, as they are read; plain. -/
import Derived.Test.YtielnengimninaaGreatDoorVA
namespace Go.Proofs.YtielnengimninaaGreatDoor
open Go.RowKit Go.Own Go.Own.MapTy Go.Va Go.Sort
open Go.Own.Cells (sz enc)
/-- the text of lines -/
def textB (ls : List (List UInt8)) : List UInt8 := ls.flatMap (fun l => l ++ [10])
theorem index_miss : ∀ {l : List UInt8}, 10 ∉ l → Lib.index l [10] = -1
  | [], _ => rfl
  | b :: l, h => by
    have h1 : ¬ (10 : UInt8) = b := fun e => h (by rw [e]; exact List.mem_cons_self ..)
    have ih := index_miss (l := l) (fun e => h (List.mem_cons_of_mem _ e))
    rw [Lib.index, ih]
    have : ([10] : List UInt8).isPrefixOf (b :: l) = false := by simp [List.isPrefixOf, h1]
    rw [this]
    rfl
theorem index_at : ∀ {l rest : List UInt8}, 10 ∉ l → Lib.index (l ++ 10 :: rest) [10] = l.length
  | [], rest, _ => by
    rw [List.nil_append, Lib.index]
    have : ([10] : List UInt8).isPrefixOf (10 :: rest) = true := by simp [List.isPrefixOf]
    rw [this]
    rfl
  | b :: l, rest, h => by
    have h1 : ¬ (10 : UInt8) = b := fun e => h (by rw [e]; exact List.mem_cons_self ..)
    have ih := index_at (l := l) (rest := rest) (fun e => h (List.mem_cons_of_mem _ e))
    rw [List.cons_append, Lib.index, ih]
    have : ([10] : List UInt8).isPrefixOf (b :: (l ++ 10 :: rest)) = false := by simp [List.isPrefixOf, h1]
    rw [this]
    have h2 : ((l.length : Int) == -1) = false := by rw [beq_eq_false_iff_ne]; omega
    simp only [h2, Bool.false_eq_true, if_false, List.length_cons]
    omega
def joinL : List UInt8 → List (List UInt8) → List UInt8
  | l, [] => l
  | l, m :: r => l ++ 10 :: joinL m r
theorem textB_join : ∀ (r : List (List UInt8)) (l : List UInt8), textB (l :: r) = joinL l r ++ [10]
  | [], l => by simp [textB, joinL]
  | m :: r, l => by
    have := textB_join r m
    unfold textB at this ⊢
    rw [List.flatMap_cons, this, joinL]
    simp
theorem count_join : ∀ (r : List (List UInt8)) (l : List UInt8), (∀ x ∈ l :: r, 10 ∉ x) → Lib.count (joinL l r) [10] = r.length
  | [], l, h => Lib.count_miss (index_miss (h l (List.mem_cons_self ..)))
  | m :: r, l, h => by
    have h1 := index_at (rest := joinL m r) (h l (List.mem_cons_self ..))
    rw [joinL, Lib.count_hit (by simp) h1]
    have : (l ++ 10 :: joinL m r).drop (l.length + ([10] : List UInt8).length) = joinL m r := by
      rw [List.drop_append]
      simp
    rw [this, count_join r m (fun x hx => h x (List.mem_cons_of_mem _ hx)), List.length_cons]
    omega
theorem splitK_join : ∀ (r : List (List UInt8)) (l : List UInt8), (∀ x ∈ l :: r, 10 ∉ x) → Lib.splitK [10] 0 r.length (joinL l r) = l :: r
  | [], l, _ => rfl
  | m :: r, l, h => by
    have h1 := index_at (rest := joinL m r) (h l (List.mem_cons_self ..))
    rw [List.length_cons, Lib.splitK, joinL, h1]
    have h2 : ((l.length : Int) == -1) = false := by rw [beq_eq_false_iff_ne]; omega
    simp only [h2, Bool.false_eq_true, if_false, Int.toNat_natCast, Nat.add_zero]
    have : (l ++ 10 :: joinL m r).drop (l.length + ([10] : List UInt8).length) = joinL m r := by
      rw [List.drop_append]
      simp
    rw [this, splitK_join r m (fun x hx => h x (List.mem_cons_of_mem _ hx))]
    simp
theorem suffix_text (l : List UInt8) (r : List (List UInt8)) : Lib.hasSuffix (textB (l :: r)) [10] = true := by
  unfold Lib.hasSuffix
  rw [List.isSuffixOf_iff_suffix, textB_join]
  exact ⟨_, rfl⟩
/-- the lines of a text of lines -/
theorem textL_eq {s : ByteArray} {l : List UInt8} {r : List (List UInt8)} (hs : s.data.toList = textB (l :: r)) (hn : ∀ x ∈ l :: r, 10 ∉ x) : textL s = (l :: r).map (fun x => ⟨x.toArray⟩) := by
  have ht : Lib.trimSuffix s.data.toList [10] = joinL l r := by
    unfold Lib.trimSuffix
    rw [hs, suffix_text, if_pos rfl, textB_join]
    simp
  have h1 := Lib.splitB_data ⟨#[10]⟩ 0 (Lib.countB ⟨(joinL l r).toArray⟩ ⟨#[10]⟩) ⟨(joinL l r).toArray⟩
  have hc : Lib.countB ⟨(joinL l r).toArray⟩ ⟨#[10]⟩ = r.length := count_join r l hn
  rw [hc] at h1
  have h2 : Lib.splitK ([10] : List UInt8) 0 r.length (joinL l r) = l :: r := splitK_join r l hn
  unfold textL
  rw [ht, hc]
  have h3 : (Lib.splitB ⟨#[10]⟩ 0 r.length ⟨(joinL l r).toArray⟩).map (·.data.toList) = l :: r := h1.trans h2
  have h4 := congrArg (List.map (fun x : List UInt8 => (⟨x.toArray⟩ : ByteArray))) h3
  rw [List.map_map] at h4
  rw [← h4]
  exact (List.map_id' _ ).symm
/-- what a text of lines is -/
theorem asmL_text {s : ByteArray} {l : List UInt8} {r : List (List UInt8)} (hs : s.data.toList = textB (l :: r)) (hn : ∀ x ∈ l :: r, 10 ∉ x) (hz : s.size ≤ 65536) {st : RSt} (hq : linesR ((l :: r).map (fun x => ⟨x.toArray⟩)) 0 st0 = ((0, 0), st)) {code : List In} (hj : jumpsR st.labels st.jumps st.code = ((0, 0), code)) (hi : imgL ⟨code, st.consts, st.names, st.places⟩ = 0) :
    asmL s = (⟨code, st.consts, st.names, st.places⟩, 0, 0) := by
  have h0 : ¬ 65536 < s.size := by omega
  unfold asmL
  rw [decide_eq_false h0, hs, suffix_text]
  simp only [cond_false, Bool.not_true]
  rw [textL_eq hs hn, hq]
  simp only [bne_self_eq_false, cond_false]
  rw [hj]
  simp only [bne_self_eq_false, cond_false]
  rw [hi]
  rfl
theorem linesR_app : ∀ {a b : List ByteArray} {n : Nat} {st st' : RSt}, linesR a n st = ((0, 0), st') → linesR (a ++ b) n st = linesR b (n + a.length) st'
  | [], b, n, st, st', h => by
    rw [linesR] at h
    cases h
    rfl
  | l :: r, b, n, st, st', h => by
    rw [List.cons_append, linesR]
    rw [linesR] at h
    cases hz : ((lineL ((n : Int) + 1) l st).1 != 0) with
    | true =>
      rw [hz] at h
      simp only [cond_true, Prod.mk.injEq] at h
      rw [h.1.2] at hz
      cases hz
    | false =>
      rw [hz] at h
      simp only [cond_false] at h ⊢
      rw [linesR_app h, List.length_cons]
      congr 1
      omega
theorem linesR_one {l : ByteArray} {n : Nat} {st st' : RSt} (h : lineL ((n : Int) + 1) l st = (0, st')) : linesR [l] n st = ((0, 0), st') := by
  rw [linesR, h]
  rfl
theorem linesR_rep {l : ByteArray} {c : In} (h : ∀ (n : Int) (st : RSt), lineL n l st = (0, { st with code := st.code ++ [c] })) : ∀ (k n : Nat) (st : RSt), linesR (List.replicate k l) n st = ((0, 0), { st with code := st.code ++ List.replicate k c })
  | 0, n, st => by simp [linesR]
  | k + 1, n, st => by
    rw [List.replicate_succ, linesR, h]
    simp only [bne_self_eq_false, cond_false]
    rw [linesR_rep h k]
    simp [List.replicate_succ]
/-- a line with an instruction that has no operand -/
theorem lineL_op {s : ByteArray} {op : Nat} (h1 : isLab s = false) (h2 : Lib.hasPrefix s.data.toList [32, 32] = true) (h3 : findL (cutN s) = some op) (h4 : cutM s = false) (h5 : (ofL op).1.operand = 0) (n : Int) (st : RSt) : lineL n s st = (0, { st with code := st.code ++ [⟨op, 0⟩] }) := by
  unfold lineL
  rw [h1, if_neg (by simp), h2, if_neg (by simp), h3]
  dsimp only
  rw [h4, h5, if_neg (by simp), if_neg (by simp)]
/-- a line with an instruction that has an operand -/
theorem lineL_arg {s : ByteArray} {op : Nat} (h1 : isLab s = false) (h2 : Lib.hasPrefix s.data.toList [32, 32] = true) (h3 : findL (cutN s) = some op) (h4 : cutM s = true) {kd : Int} (h5 : (ofL op).1.operand = kd) (hk : (kd != 0) = true) {n : Int} {st st' : RSt} {a : Int} (ho : operL kd n (cutR s) st = (a, 0, st')) : lineL n s st = (0, { st' with code := st'.code ++ [⟨op, a⟩] }) := by
  unfold lineL
  rw [h1, if_neg (by simp), h2, if_neg (by simp), h3]
  dsimp only
  rw [h4, h5, hk, if_neg (by simp), if_pos rfl, ho]
  simp
/-- a line with a label -/
theorem lineL_lab {s : ByteArray} (h1 : isLab s = true) {n : Int} {st : RSt} (h2 : MapTy.get st.labels (trimB s) = none) : lineL n s st = (0, { st with labels := upd st.labels (trimB s) st.code.length }) := by
  unfold lineL
  rw [h1, if_pos rfl, h2]
  rfl
def nopB : List UInt8 := [32, 32, 110, 111, 112]
def popB : List UInt8 := [32, 32, 112, 111, 112]
def nowB : List UInt8 := [32, 32, 110, 111, 119]
def failB : List UInt8 := [32, 32, 102, 97, 105, 108, 32, 34, 120, 34]
def labB : List UInt8 := [108, 49, 58]
def sigB : List UInt8 := [32, 32, 115, 105, 103, 110, 97, 108, 32, 34, 103, 111, 34]
def jumpB : List UInt8 := [32, 32, 106, 117, 109, 112, 32, 108, 49]
def goN : ByteArray := ⟨#[103, 111]⟩
def xN : ByteArray := ⟨#[120]⟩
def l1N : ByteArray := ⟨#[108, 49]⟩
theorem line_nop (n : Int) (st : RSt) : lineL n ⟨nopB.toArray⟩ st = (0, { st with code := st.code ++ [⟨0, 0⟩] }) := lineL_op (op := 0) (by kernel_rfl) (by kernel_rfl) (by kernel_rfl) (by kernel_rfl) (by kernel_rfl) n st
theorem line_pop (n : Int) (st : RSt) : lineL n ⟨popB.toArray⟩ st = (0, { st with code := st.code ++ [⟨2, 0⟩] }) := lineL_op (op := 2) (by kernel_rfl) (by kernel_rfl) (by kernel_rfl) (by kernel_rfl) (by kernel_rfl) n st
theorem line_now (n : Int) (st : RSt) : lineL n ⟨nowB.toArray⟩ st = (0, { st with code := st.code ++ [⟨16, 0⟩] }) := lineL_op (op := 16) (by kernel_rfl) (by kernel_rfl) (by kernel_rfl) (by kernel_rfl) (by kernel_rfl) n st
theorem oper_name1 {s nm : ByteArray} (h : quotedL s.data.toList = some nm) (n : Int) (st : RSt) (hn : st.names = []) : operL 2 n s st = (0, 0, { st with names := [nm] }) := by
  unfold operL
  rw [if_neg (by decide), if_pos rfl, h]
  dsimp only
  rw [hn]
  rfl
theorem line_fail (n : Int) (st : RSt) (hn : st.names = []) : lineL n ⟨failB.toArray⟩ st = (0, { st with names := [xN], code := st.code ++ [⟨26, 0⟩] }) := lineL_arg (op := 26) (kd := 2) (by kernel_rfl) (by kernel_rfl) (by kernel_rfl) (by kernel_rfl) (by kernel_rfl) (by kernel_rfl) (oper_name1 (nm := xN) (by kernel_rfl) n st hn)
theorem line_sig (n : Int) (st : RSt) (hn : st.names = []) : lineL n ⟨sigB.toArray⟩ st = (0, { st with names := [goN], code := st.code ++ [⟨22, 0⟩] }) := lineL_arg (op := 22) (kd := 2) (by kernel_rfl) (by kernel_rfl) (by kernel_rfl) (by kernel_rfl) (by kernel_rfl) (by kernel_rfl) (oper_name1 (nm := goN) (by kernel_rfl) n st hn)
theorem line_lab (n : Int) (st : RSt) (hl : st.labels = []) : lineL n ⟨labB.toArray⟩ st = (0, { st with labels := [(l1N, (st.code.length : Int))] }) := by
  have h : trimB ⟨labB.toArray⟩ = l1N := by kernel_rfl
  have h2 : MapTy.get st.labels (trimB ⟨labB.toArray⟩) = none := by rw [hl]; rfl
  rw [lineL_lab (by kernel_rfl) h2, h, hl]
  rfl
theorem line_jump (n : Int) (st : RSt) (hj : st.jumps = []) : lineL n ⟨jumpB.toArray⟩ st = (0, { st with jumps := [⟨st.code.length, n, l1N⟩], code := st.code ++ [⟨11, 0⟩] }) := by
  have h : cutR ⟨jumpB.toArray⟩ = l1N := by kernel_rfl
  have ho : operL 4 n (cutR ⟨jumpB.toArray⟩) st = (0, 0, { st with jumps := [⟨st.code.length, n, l1N⟩] }) := by
    unfold operL
    rw [if_neg (by decide), if_neg (by decide), if_pos rfl, h, if_pos (show labL l1N.data.toList = true by kernel_rfl), hj]
    rfl
  exact lineL_arg (op := 11) (kd := 4) (by kernel_rfl) (by kernel_rfl) (by kernel_rfl) (by kernel_rfl) (by kernel_rfl) (by kernel_rfl) ho
theorem codeErr_all {p : Img} : ∀ {l : List In}, (∀ c ∈ l, (ofL c.op).2 = true ∧ 0 ≤ c.a ∧ c.a < mostL p (ofL c.op).1.operand) → codeErr p l = 0
  | [], _ => rfl
  | c :: r, h => by
    obtain ⟨h1, h2, h3⟩ := h c (List.mem_cons_self ..)
    rw [codeErr, h1, decide_eq_false (show ¬ c.a < 0 by omega), decide_eq_false (show ¬ mostL p (ofL c.op).1.operand ≤ c.a by omega)]
    exact codeErr_all (fun d hd => h d (List.mem_cons_of_mem _ hd))
/-- an image without values that may be -/
theorem imgL_all {p : Img} (h0 : 0 < p.code.length) (h1 : p.code.length ≤ 512) (h2 : p.consts = []) (h3 : p.names.length ≤ 32) (h4 : p.places = 0) (h5 : nameErr p.names = 0) (h6 : ∀ c ∈ p.code, (ofL c.op).2 = true ∧ 0 ≤ c.a ∧ c.a < mostL p (ofL c.op).1.operand) : imgL p = 0 := by
  unfold imgL
  rw [decide_eq_false (by omega), h2, h4, h5, codeErr_all h6, decide_eq_false (show ¬ 512 < p.code.length by omega), decide_eq_false (show ¬ 32 < p.names.length by omega)]
  rfl
end Go.Proofs.YtielnengimninaaGreatDoor
