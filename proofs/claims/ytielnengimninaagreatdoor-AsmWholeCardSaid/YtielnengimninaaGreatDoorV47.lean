/- The texts of the law AsmLabels: what they are read as; plain. -/
import Derived.Test.YtielnengimninaaGreatDoorV29
namespace Go.Proofs.YtielnengimninaaGreatDoor
open Go.RowKit Go.Own Go.Own.MapTy Go.Va Go.Sort
open Go.Own.Cells (sz enc)
/-- behind the lines -/
def asmQ (ls : List ByteArray) : Img × Int × Int :=
  let q := linesR ls 0 st0
  bif q.1.2 != 0 then (noImg, q.1.1, q.1.2) else
  let j := jumpsR q.2.labels q.2.jumps q.2.code
  bif j.1.2 != 0 then (noImg, j.1.1, j.1.2) else
  let p : Img := ⟨j.2, q.2.consts, q.2.names, q.2.places⟩
  bif imgL p != 0 then (noImg, 0, imgL p) else (p, 0, 0)
theorem asmL_lines {s : ByteArray} {ls : List (List UInt8)} {b : Nat} (h0 : 0 < ls.length) (hs : s.data.toList = textB ls) (hn : ∀ x ∈ ls, 10 ∉ x ∧ x.length + 1 ≤ b) (hb : ls.length * b ≤ 65536) : asmL s = asmQ (ls.map mkB) := by
  cases ls with
  | nil => simp at h0
  | cons l r =>
    have h1 := textB_len (l :: r) b (fun x hx => (hn x hx).2)
    have h2 : s.size = (textB (l :: r)).length := by rw [← hs]; exact Lib.size_eq s
    have h3 : ¬ 65536 < s.size := by omega
    unfold asmL
    rw [decide_eq_false h3, hs, suffix_text]
    simp only [cond_false, Bool.not_true]
    rw [textL_eq hs (fun x hx => (hn x hx).1)]
    rfl
section
variable {lb jp : List UInt8} {f : Nat} {lbN : ByteArray}
def rnd (jp : List UInt8) (f i : Nat) : List UInt8 := if i = f then jp else nopB
def rs (jp : List UInt8) (f : Nat) : Nat → Nat → List (List UInt8)
  | _, 0 => []
  | i, k + 1 => rnd jp f i :: rs jp f (i + 1) k
theorem rs_last : ∀ (k i : Nat), rs jp f i (k + 1) = rs jp f i k ++ [rnd jp f (i + k)]
  | 0, i => rfl
  | k + 1, i => by
    rw [rs, rs_last k (i + 1), rs, List.cons_append]
    rw [show i + 1 + k = i + (k + 1) by omega]
/-- the lines of so many rounds -/
def labT (lb jp : List UInt8) (a : Int) (f : Nat) : Nat → List (List UInt8)
  | 0 => []
  | k + 1 => labT lb jp a f k ++ ((if (k : Int) = a then [lb] else []) ++ [rnd jp f k])
theorem labT_no {a : Int} : ∀ {k : Nat}, (a < 0 ∨ (k : Int) ≤ a) → labT lb jp a f k = rs jp f 0 k
  | 0, _ => rfl
  | k + 1, h => by
    rw [labT, labT_no (by omega), if_neg (by omega), rs_last]
    simp
theorem labT_yes {a : Nat} : ∀ (j : Nat), labT lb jp a f (a + (j + 1)) = rs jp f 0 a ++ lb :: rs jp f a (j + 1)
  | 0 => by
    rw [show a + (0 + 1) = a + 1 by omega, labT, labT_no (.inr (Int.le_refl _)), if_pos rfl]
    rfl
  | j + 1 => by
    rw [show a + (j + 1 + 1) = a + (j + 1) + 1 by omega, labT, labT_yes j, if_neg (by omega), rs_last (j + 1) a]
    simp
theorem labT_len {a : Int} : ∀ (k : Nat), (labT lb jp a f k).length ≤ 2 * k
  | 0 => Nat.le_refl _
  | k + 1 => by
    have := labT_len (a := a) k
    rw [labT, List.length_append, List.length_append, List.length_singleton]
    have : (if (k : Int) = a then [lb] else ([] : List (List UInt8))).length ≤ 1 := by split <;> simp
    omega
theorem labT_mem {a : Int} : ∀ (k : Nat) (x : List UInt8), x ∈ labT lb jp a f k → x = lb ∨ x = jp ∨ x = nopB
  | 0, x, h => by cases h
  | k + 1, x, h => by
    rw [labT, List.mem_append, List.mem_append, List.mem_singleton] at h
    rcases h with h | h | h
    · exact labT_mem k x h
    · split at h
      · exact .inl (List.mem_singleton.1 h)
      · cases h
    · unfold rnd at h
      split at h
      · exact .inr (.inl h)
      · exact .inr (.inr h)
def cs (f : Nat) : Nat → Nat → List In
  | _, 0 => []
  | i, k + 1 => (if i = f then ⟨11, 0⟩ else ⟨0, 0⟩) :: cs f (i + 1) k
theorem cs_len : ∀ (k i : Nat), (cs f i k).length = k
  | 0, _ => rfl
  | k + 1, i => by rw [cs, List.length_cons, cs_len k]
theorem cs_get : ∀ (k i j : Nat), j < k → (cs f i k)[j]? = some (if i + j = f then ⟨11, 0⟩ else ⟨0, 0⟩)
  | 0, _, j, h => by omega
  | k + 1, i, 0, _ => by rw [cs]; rfl
  | k + 1, i, j + 1, h => by
    rw [cs, List.getElem?_cons_succ, cs_get k (i + 1) j (by omega)]
    rw [show i + 1 + j = i + (j + 1) by omega]
theorem cs_app : ∀ (k i m : Nat), cs f i k ++ cs f (i + k) m = cs f i (k + m)
  | 0, i, m => by rw [Nat.zero_add]; rfl
  | k + 1, i, m => by
    rw [show k + 1 + m = k + m + 1 by omega, cs, cs, List.cons_append]
    rw [show i + (k + 1) = i + 1 + k by omega, cs_app k (i + 1) m]
/-- the jump of these rounds -/
def js (lbN : ByteArray) (f i k cl n : Nat) : List Jp := if i ≤ f ∧ f < i + k then [⟨((cl + (f - i) : Nat) : Int), ((n + (f - i) : Nat) : Int) + 1, lbN⟩] else []
def JpLine (jp : List UInt8) (lbN : ByteArray) : Prop := ∀ (n : Int) (st : RSt), lineL n (mkB jp) st = (0, { st with jumps := st.jumps ++ [⟨st.code.length, n, lbN⟩], code := st.code ++ [⟨11, 0⟩] })
theorem lines_rs (hj : JpLine jp lbN) : ∀ (k i n : Nat) (st : RSt), linesR ((rs jp f i k).map mkB) n st = ((0, 0), { st with code := st.code ++ cs f i k, jumps := st.jumps ++ js lbN f i k st.code.length n })
  | 0, i, n, st => by
    have : js lbN f i 0 st.code.length n = [] := by unfold js; rw [if_neg (by omega)]
    rw [this, rs, cs, List.append_nil, List.append_nil]
    rfl
  | k + 1, i, n, st => by
    rw [rs, List.map_cons, linesR]
    unfold rnd
    by_cases h : i = f
    · rw [if_pos h, hj]
      simp only [bne_self_eq_false, cond_false]
      rw [lines_rs hj k]
      have h1 : js lbN f (i + 1) k (st.code ++ [(⟨11, 0⟩ : In)]).length (n + 1) = [] := by unfold js; rw [if_neg (by omega)]
      have h2 : js lbN f i (k + 1) st.code.length n = [⟨st.code.length, (n : Int) + 1, lbN⟩] := by
        unfold js
        rw [if_pos (by omega), show f - i = 0 by omega]
        rfl
      rw [h1, h2, cs, if_pos h]
      simp
    · rw [if_neg h, show lineL ((n : Int) + 1) (mkB nopB) st = _ from line_nop _ _]
      simp only [bne_self_eq_false, cond_false]
      rw [lines_rs hj k]
      have h1 : js lbN f (i + 1) k (st.code ++ [(⟨0, 0⟩ : In)]).length (n + 1) = js lbN f i (k + 1) st.code.length n := by
        unfold js
        by_cases h2 : i ≤ f ∧ f < i + (k + 1)
        · rw [if_pos h2, if_pos (by omega), List.length_append, List.length_singleton]
          rw [show st.code.length + 1 + (f - (i + 1)) = st.code.length + (f - i) by omega, show n + 1 + (f - (i + 1)) = n + (f - i) by omega]
        · rw [if_neg h2, if_neg (by omega)]
      rw [h1, cs, if_neg h]
      simp
def LbLine (lb : List UInt8) (lbN : ByteArray) : Prop := isLab (mkB lb) = true ∧ trimB (mkB lb) = lbN
theorem lb_one (h : LbLine lb lbN) (n : Int) (st : RSt) (hm : st.labels = []) : lineL n (mkB lb) st = (0, { st with labels := [(lbN, (st.code.length : Int))] }) := by
  have h2 : MapTy.get st.labels (trimB (mkB lb)) = none := by rw [hm]; rfl
  rw [lineL_lab h.1 h2, h.2, hm]
  rfl
theorem lb_two (h : LbLine lb lbN) (n : Int) (st : RSt) {v : Int} (hm : st.labels = [(lbN, v)]) : lineL n (mkB lb) st = (5, st) := by
  have h2 : (MapTy.get st.labels (trimB (mkB lb))).isSome = true := by rw [hm, h.2]; simp [MapTy.get]
  unfold lineL
  rw [if_pos h.1, if_pos h2]
theorem get_one (v : Int) : MapTy.get [(lbN, v)] lbN = some v := by simp [MapTy.get]
theorem cs_img {n : Nat} (h1 : 0 < n) (h2 : n ≤ 30) (hf : f < n) {a : Nat} (ha : a < n) : imgL ⟨setA (cs f 0 n) f a, [], [], 0⟩ = 0 ∧ (setA (cs f 0 n) f a).length = n ∧ (setA (cs f 0 n) f a)[f]? = some ⟨11, a⟩ := by
  have hl : (setA (cs f 0 n) f (a : Int)).length = n := by unfold setA; rw [List.length_modify, cs_len]
  have hg : ∀ j, j < n → (setA (cs f 0 n) f (a : Int))[j]? = some (if j = f then ⟨11, a⟩ else ⟨0, 0⟩) := fun j hj => by
    unfold setA
    rw [List.getElem?_modify, cs_get n 0 j hj, Nat.zero_add]
    by_cases h : j = f
    · rw [if_pos h, if_pos h, h]; simp
    · simp [h, show ¬ f = j from fun e => h e.symm]
  have hl' : (Img.mk (setA (cs f 0 n) f (a : Int)) [] [] 0).code.length = n := hl
  refine ⟨imgL_all (by omega) (by omega) rfl (by simp) rfl rfl (fun c hc => ?_), hl, by rw [hg f hf, if_pos rfl]⟩
  obtain ⟨j, hj⟩ := List.mem_iff_getElem?.1 hc
  have hjn : j < n := by have := (List.getElem?_eq_some_iff.1 hj).1; have e : (setA (cs f 0 n) f (a : Int)).length = n := hl; omega
  have hj' : (setA (cs f 0 n) f (a : Int))[j]? = some c := hj
  rw [hg j hjn] at hj'
  cases hj'
  split
  · exact ⟨by kernel_rfl, by show (0 : Int) ≤ a; omega, by show (a : Int) < mostL ⟨setA (cs f 0 n) f a, [], [], 0⟩ 4; simp [mostL, hl]; omega⟩
  · exact ⟨by kernel_rfl, by decide, by show (0 : Int) < mostL ⟨setA (cs f 0 n) f a, [], [], 0⟩ 0; simp [mostL]⟩
theorem lab_none (hj : JpLine jp lbN) {n : Nat} (hf : f < n) : asmQ ((rs jp f 0 n).map mkB) = (noImg, (f : Int) + 1, 120) := by
  have hq := lines_rs (f := f) hj n 0 0 st0
  have h2 : js lbN f 0 n st0.code.length 0 = [⟨f, (f : Int) + 1, lbN⟩] := by
    unfold js
    rw [if_pos (by omega)]
    simp [st0]
  unfold asmQ
  rw [hq, h2]
  rfl
theorem lab_lines (hj : JpLine jp lbN) (hlb : LbLine lb lbN) {n a : Nat} (ha : a ≤ n) (hf : f < n) : linesR ((rs jp f 0 a ++ lb :: rs jp f a (n - a)).map mkB) 0 st0 = ((0, 0), ⟨cs f 0 n, [], [], 0, [(lbN, (a : Int))], [⟨f, (f : Int) + (if a ≤ f then 2 else 1), lbN⟩]⟩) := by
  have h1 := lines_rs (f := f) hj a 0 0 st0
  rw [List.map_append, List.map_cons, linesR_app h1, show mkB lb :: (rs jp f a (n - a)).map mkB = [mkB lb] ++ (rs jp f a (n - a)).map mkB from rfl, linesR_app (a := [mkB lb]) (linesR_one (lb_one hlb _ _ rfl)), lines_rs hj]
  have e1 : (cs f 0 a) ++ cs f a (n - a) = cs f 0 n := by
    have := cs_app (f := f) a 0 (n - a)
    rw [Nat.zero_add, show a + (n - a) = n by omega] at this
    exact this
  have e0 : (st0.code ++ cs f 0 a).length = a := by rw [show st0.code = [] from rfl, List.nil_append, cs_len]
  have e2 : js lbN f 0 a st0.code.length 0 ++ js lbN f a (n - a) a (0 + ((rs jp f 0 a).map mkB).length + [mkB lb].length) = [⟨f, (f : Int) + (if a ≤ f then 2 else 1), lbN⟩] := by
    have hl : ((rs jp f 0 a).map mkB).length = a := by
      rw [List.length_map]
      have : ∀ k i, (rs jp f i k).length = k := fun k => by
        induction k with
        | zero => intro i; rfl
        | succ k ih => intro i; rw [rs, List.length_cons, ih]
      exact this a 0
    rw [hl]
    unfold js
    by_cases h : a ≤ f
    · rw [if_neg (by omega), if_pos (by omega), if_pos h, List.nil_append, List.length_singleton]
      rw [show a + (f - a) = f by omega, show 0 + a + 1 + (f - a) = f + 1 by omega]
      congr 2
    · rw [if_pos (by omega), if_neg (by omega), if_neg h]
      simp [st0]
  dsimp only
  rw [e0] at *
  simp only [show st0.code = [] from rfl, show st0.jumps = [] from rfl, List.nil_append] at e1 e2 ⊢
  rw [e1, e2]
  rfl
theorem lab_yes (hj : JpLine jp lbN) (hlb : LbLine lb lbN) {n a : Nat} (h1 : 0 < n) (h2 : n ≤ 30) (ha : a < n) (hf : f < n) : asmQ ((rs jp f 0 a ++ lb :: rs jp f a (n - a)).map mkB) = (⟨setA (cs f 0 n) f a, [], [], 0⟩, 0, 0) := by
  have hj2 : jumpsR [(lbN, (a : Int))] [⟨f, (f : Int) + (if a ≤ f then 2 else 1), lbN⟩] (cs f 0 n) = ((0, 0), setA (cs f 0 n) f a) := by
    have h3 : ((a : Int) == ((cs f 0 n).length : Int)) = false := by rw [beq_eq_false_iff_ne, cs_len]; omega
    rw [jumpsR, get_one]
    dsimp only
    rw [h3]
    rfl
  unfold asmQ
  rw [lab_lines hj hlb (Nat.le_of_lt ha) hf]
  simp only [bne_self_eq_false, cond_false]
  rw [hj2]
  simp only [bne_self_eq_false, cond_false]
  rw [(cs_img h1 h2 hf ha).1]
  rfl
theorem lab_end (hj : JpLine jp lbN) (hlb : LbLine lb lbN) {n : Nat} (hf : f < n) : asmQ ((rs jp f 0 n ++ [lb]).map mkB) = (noImg, (f : Int) + 1, 120) := by
  have h := lab_lines hj hlb (Nat.le_refl n) hf
  rw [show n - n = 0 by omega, rs, if_neg (by omega)] at h
  have hj2 : jumpsR [(lbN, (n : Int))] [⟨f, (f : Int) + 1, lbN⟩] (cs f 0 n) = (((f : Int) + 1, 120), cs f 0 n) := by
    have h3 : ((n : Int) == ((cs f 0 n).length : Int)) = true := by rw [beq_iff_eq, cs_len]
    rw [jumpsR, get_one]
    dsimp only
    rw [h3]
    rfl
  unfold asmQ
  rw [h]
  simp only [bne_self_eq_false, cond_false]
  rw [hj2]
  rfl
theorem lab_twice (hj : JpLine jp lbN) (hlb : LbLine lb lbN) {a : Nat} (r : List (List UInt8)) : asmQ ((lb :: (rs jp f 0 a ++ lb :: r)).map mkB) = (noImg, (a : Int) + 2, 5) := by
  have hl : ((rs jp f 0 a).map mkB).length = a := by
    rw [List.length_map]
    have : ∀ k i, (rs jp f i k).length = k := fun k => by
      induction k with
      | zero => intro i; rfl
      | succ k ih => intro i; rw [rs, List.length_cons, ih]
    exact this a 0
  unfold asmQ
  rw [List.map_cons, List.map_append, List.map_cons, show mkB lb :: ((rs jp f 0 a).map mkB ++ mkB lb :: r.map mkB) = [mkB lb] ++ ((rs jp f 0 a).map mkB ++ mkB lb :: r.map mkB) from rfl, linesR_app (a := [mkB lb]) (linesR_one (lb_one hlb _ _ rfl)), linesR_app (lines_rs hj a 0 _ _), linesR, lb_two hlb _ _ (v := 0) rfl, hl]
  have : ((0 + [mkB lb].length + a : Nat) : Int) + 1 = (a : Int) + 2 := by simp; omega
  rw [this]
  rfl
end
def hereB : List UInt8 := [104, 101, 114, 101, 58]
def thereB : List UInt8 := [116, 104, 101, 114, 101, 50, 58]
def jhereB : List UInt8 := [32, 32, 106, 117, 109, 112, 32, 104, 101, 114, 101]
def jthereB : List UInt8 := [32, 32, 106, 117, 109, 112, 32, 116, 104, 101, 114, 101, 50]
def hereN : ByteArray := ⟨#[104, 101, 114, 101]⟩
def thereN : ByteArray := ⟨#[116, 104, 101, 114, 101, 50]⟩
theorem jp_line {jp : List UInt8} {lbN : ByteArray} (h1 : isLab (mkB jp) = false) (h2 : Lib.hasPrefix (mkB jp).data.toList [32, 32] = true) (h3 : findL (cutN (mkB jp)) = some 11) (h4 : cutM (mkB jp) = true) (h5 : cutR (mkB jp) = lbN) (h6 : labL lbN.data.toList = true) : JpLine jp lbN := fun n st => by
  have ho : operL 4 n (cutR (mkB jp)) st = (0, 0, { st with jumps := st.jumps ++ [⟨st.code.length, n, lbN⟩] }) := by
    unfold operL
    rw [if_neg (by decide), if_neg (by decide), if_pos rfl, h5, if_pos h6]
  exact lineL_arg (op := 11) (kd := 4) h1 h2 h3 h4 (by kernel_rfl) (by kernel_rfl) ho
theorem jp_here : JpLine jhereB hereN := jp_line (by kernel_rfl) (by kernel_rfl) (by kernel_rfl) (by kernel_rfl) (by kernel_rfl) (by kernel_rfl)
theorem jp_there : JpLine jthereB thereN := jp_line (by kernel_rfl) (by kernel_rfl) (by kernel_rfl) (by kernel_rfl) (by kernel_rfl) (by kernel_rfl)
theorem lb_here : LbLine hereB hereN := ⟨by kernel_rfl, by kernel_rfl⟩
theorem lb_there : LbLine thereB thereN := ⟨by kernel_rfl, by kernel_rfl⟩
/-- the whole text -/
def labAll (lb jp : List UInt8) (a : Int) (f n : Nat) : List (List UInt8) := labT lb jp a f n ++ (if a = n then [lb] else [])
theorem labAll_nl {lb jp : List UInt8} {a : Int} {f n : Nat} (h1 : 10 ∉ lb ∧ lb.length + 1 ≤ 16) (h2 : 10 ∉ jp ∧ jp.length + 1 ≤ 16) : ∀ x ∈ labAll lb jp a f n, 10 ∉ x ∧ x.length + 1 ≤ 16 := fun x hx => by
  have : x = lb ∨ x = jp ∨ x = nopB := by
    rcases List.mem_append.1 hx with h | h
    · exact labT_mem n x h
    · split at h
      · exact .inl (List.mem_singleton.1 h)
      · cases h
  rcases this with rfl | rfl | rfl
  · exact h1
  · exact h2
  · decide
theorem labAll_len {lb jp : List UInt8} {a : Int} {f n : Nat} : (labAll lb jp a f n).length ≤ 2 * n + 1 := by
  unfold labAll
  rw [List.length_append]
  have h1 := labT_len (lb := lb) (jp := jp) (a := a) (f := f) n
  have : (if a = n then [lb] else ([] : List (List UInt8))).length ≤ 1 := by split <;> simp
  omega
theorem labAll_pos {lb jp : List UInt8} {a : Int} {f n : Nat} (h : 0 < n) : 0 < (labAll lb jp a f n).length := by
  obtain ⟨k, rfl⟩ : ∃ k, n = k + 1 := ⟨n - 1, by omega⟩
  unfold labAll
  rw [labT]
  simp only [List.length_append, List.length_singleton]
  omega
theorem labAll_at {lb jp : List UInt8} {a f n : Nat} (h : a ≤ n) : labAll lb jp a f n = rs jp f 0 a ++ lb :: rs jp f a (n - a) := by
  unfold labAll
  by_cases e : a = n
  · subst e
    rw [labT_no (.inr (Int.le_refl _)), if_pos rfl, show a - a = 0 by omega]
    rfl
  · obtain ⟨j, rfl⟩ : ∃ j, n = a + (j + 1) := ⟨n - a - 1, by omega⟩
    rw [labT_yes, if_neg (by omega), show a + (j + 1) - a = j + 1 by omega, List.append_nil]
theorem labAll_no {lb jp : List UInt8} {a : Int} {f n : Nat} (h : a < 0) : labAll lb jp a f n = rs jp f 0 n := by
  unfold labAll
  rw [labT_no (.inl h), if_neg (by omega), List.append_nil]
/-- one of the two texts -/
theorem labs_asm {lb jp : List UInt8} {lbN : ByteArray} (hj : JpLine jp lbN) (hlb : LbLine lb lbN) (h1 : 10 ∉ lb ∧ lb.length + 1 ≤ 16) (h2 : 10 ∉ jp ∧ jp.length + 1 ≤ 16) {s : ByteArray} {a : Int} {f n : Nat} (hn : n ≤ 30) (hf : f < n) (ha : a ≤ n) (hs : s.data.toList = textB (labAll lb jp a f n)) :
    asmL s = if a < 0 ∨ a = n then (noImg, (f : Int) + 1, 120) else (⟨setA (cs f 0 n) f a, [], [], 0⟩, 0, 0) := by
  rw [asmL_lines (labAll_pos (by omega)) hs (labAll_nl h1 h2) (by have := labAll_len (lb := lb) (jp := jp) (a := a) (f := f) (n := n); omega)]
  by_cases h : a < 0
  · rw [if_pos (.inl h), labAll_no h]
    exact lab_none hj hf
  · obtain ⟨b, rfl⟩ : ∃ b : Nat, a = b := ⟨a.toNat, by omega⟩
    rw [labAll_at (by omega)]
    by_cases e : b = n
    · subst e
      rw [if_pos (.inr rfl), show b - b = 0 by omega, rs]
      exact lab_end hj hlb hf
    · rw [if_neg (by omega)]
      exact lab_yes hj hlb (by omega) hn (by omega) hf
theorem twice_asm {s : ByteArray} {a : Int} {f n : Nat} (hn : n ≤ 30) (ha : a ≤ n) (h0 : 0 ≤ a) (hs : s.data.toList = textB (hereB :: labAll hereB jhereB a f n)) :
    asmL s = (noImg, a + 2, 5) := by
  rw [asmL_lines (by simp) hs (b := 16) (fun x hx => by
    rcases List.mem_cons.1 hx with rfl | hx
    · decide
    · exact labAll_nl (by decide) (by decide) x hx) (by have := labAll_len (lb := hereB) (jp := jhereB) (a := a) (f := f) (n := n); rw [List.length_cons]; omega)]
  obtain ⟨b, rfl⟩ : ∃ b : Nat, a = b := ⟨a.toNat, by omega⟩
  rw [labAll_at (by omega)]
  exact lab_twice jp_here lb_here _
end Go.Proofs.YtielnengimninaaGreatDoor
