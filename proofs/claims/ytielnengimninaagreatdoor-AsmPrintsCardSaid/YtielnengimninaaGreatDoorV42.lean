/- what asm.Print prints: plain. -/
import Derived.Test.YtielnengimninaaGreatDoorV41
namespace Go.Proofs.YtielnengimninaaGreatDoor
open Go.RowKit Go.Own Go.Own.MapTy Go.Va Go.Sort
/-- what an instruction's operand is printed as -/
def argS (p : Img) (L : List (Int × ByteArray)) (o : Int) (a : Nat) : ByteArray :=
  bif o == 1 then printV (p.consts[a]?.getD vNil) else bif o == 2 then quoteB (p.names[a]?.getD ⟨#[]⟩) else bif o == 4 then (MapTy.get L (a : Int)).getD ⟨#[]⟩ else itoaB (a : Int)
def argP (p : Img) (L : List (Int × ByteArray)) (o : Int) (a : Nat) : List UInt8 :=
  bif o == 1 || (o == 2 || (o == 4 || (o == 3 || o == 5))) then (⟨#[32]⟩ ++ argS p L o a : ByteArray).data.toList else []
def headP (L : List (Int × ByteArray)) (i : Nat) : List UInt8 := match MapTy.get L (i : Int) with
  | some s => (s ++ ⟨#[58, 10]⟩).data.toList
  | none => []
def lineP (p : Img) (L : List (Int × ByteArray)) (i : Nat) (c : In) : List UInt8 :=
  headP L i ++ ((⟨#[32, 32]⟩ ++ (ofL c.op).1.name : ByteArray).data.toList ++ (argP p L (ofL c.op).1.operand c.a.toNat ++ [10]))
def codeP (p : Img) (L : List (Int × ByteArray)) : Nat → List In → List UInt8
  | _, [] => []
  | i, c :: r => lineP p L i c ++ codeP p L (i + 1) r
/-- a program as it is printed; what is wrong with it -/
def asmP (p : Img) : ByteArray × Int := bif imgL p != 0 then (⟨#[]⟩, imgL p) else (⟨(codeP p (labsL p.code) 0 p.code).toArray⟩, 0)
mutual
theorem szV_bytes : ∀ x : Val, szV x + 1 ≤ 34 * (bytesV x).length
  | .mk k n s l => by
    rw [szV, bytesV]
    cases h2 : (k == 2) with
    | true =>
      obtain rfl : k = 2 := by simpa using h2
      have h1 : 1 ≤ (numB s.data.toList.length).length := by
        unfold numB
        rw [numF]
        cases decide (128 ≤ s.data.toList.length) <;> simp
      show 4 * s.size + 30 + 1 ≤ 34 * ((textB s.data.toList).length + 1)
      unfold textB
      have e : s.data.toList.length = s.size := by simp
      rw [List.length_append]
      omega
    | false =>
      cases h3 : (k == 3) with
      | true =>
        obtain rfl : k = 3 := by simpa using h3
        have h := szL_bytes l
        show szV.szL l + 30 + 1 ≤ 34 * ((numB l.length ++ bytesV.bytesL l).length + 1)
        rw [List.length_append]
        omega
      | false => simp; omega
theorem szL_bytes : ∀ l : List Val, szV.szL l ≤ 34 * (bytesV.bytesL l).length
  | [] => by rw [szV.szL, bytesV.bytesL]; simp
  | x :: r => by
    rw [szV.szL, bytesV.bytesL, List.length_append]
    have h1 := szV_bytes x
    have h2 := szL_bytes r
    omega
end
theorem check_len {x : Val} (h : checkL x = 0) : (bytesV x).length ≤ 512 := by
  unfold checkL at h
  cases h1 : ((walkV x 0 (0, 0)).2 != 0) with
  | true => rw [h1] at h; simp at h h1; exact absurd h h1
  | false =>
    rw [h1] at h
    cases h2 : decide (512 < (bytesV x).length) with
    | true => rw [h2] at h; simp at h
    | false => rw [decide_eq_false_iff_not] at h2; omega
theorem consts_ok : ∀ {l : List Val}, constErr l = 0 → ∀ x ∈ l, checkL x = 0
  | [], _, x, h => by cases h
  | y :: r, hc, x, h => by
    rw [constErr] at hc
    cases h1 : (checkL y != 0) with
    | true => rw [h1] at hc; simp at hc h1; exact absurd hc h1
    | false =>
      rw [h1] at hc
      rcases List.mem_cons.1 h with rfl | h
      · simpa using h1
      · exact consts_ok hc x h
theorem names_ok : ∀ {l : List ByteArray}, nameErr l = 0 → ∀ x ∈ l, x.size ≤ 64
  | [], _, x, h => by cases h
  | y :: r, hc, x, h => by
    rw [nameErr] at hc
    cases h1 : decide (64 < y.size) with
    | true => rw [h1] at hc; simp at hc
    | false =>
      rw [h1] at hc
      rcases List.mem_cons.1 h with rfl | h
      · rw [decide_eq_false_iff_not] at h1; omega
      · exact names_ok hc x h
theorem const_sz {p : Img} (h : imgL p = 0) (x : Val) (hx : x ∈ p.consts) : szV x ≤ 20000 := by
  have h1 := check_len (consts_ok (imgL_ok h).2.2.2.2.2.2.1 x hx)
  have h2 := szV_bytes x
  omega
theorem get_lab1 : ∀ (code : List In) (m : List (Int × ByteArray)) (x : Int) (s : ByteArray), (∀ x s, MapTy.get m x = some s → s.size ≤ 22) → MapTy.get (lab1 m code) x = some s → s.size ≤ 22
  | [], m, x, s, hm, h => hm x s h
  | c :: r, m, x, s, hm, h => by
    rw [lab1] at h
    refine get_lab1 r _ x s (fun y t ht => ?_) h
    cases h4 : ((ofL c.op).1.operand == 4) with
    | false => rw [h4] at ht; exact hm y t ht
    | true =>
      rw [h4] at ht
      simp only [cond_true, get_upd] at ht
      split at ht
      · cases ht; exact Nat.zero_le _
      · exact hm y t ht
theorem get_lab2 : ∀ (f i n : Nat) (m : List (Int × ByteArray)) (x : Int) (s : ByteArray), n + f ≤ 65536 → (∀ x s, MapTy.get m x = some s → s.size ≤ 22) → MapTy.get (lab2 m i n f) x = some s → s.size ≤ 22
  | 0, _, _, m, x, s, _, hm, h => hm x s h
  | f + 1, i, n, m, x, s, hf, hm, h => by
    rw [lab2] at h
    cases h4 : (MapTy.get m (i : Int)).isSome with
    | false => rw [h4] at h; exact get_lab2 f _ _ m x s (by omega) hm h
    | true =>
      rw [h4] at h
      refine get_lab2 f _ _ _ x s (by omega) (fun y t ht => ?_) h
      rw [get_upd] at ht
      split at ht
      · cases ht
        have := itoaB_size (n := ((n + 1 : Nat) : Int)) (by omega) (by omega)
        unfold labName
        rw [ByteArray.size_append]
        show 1 + _ ≤ 22
        omega
      · exact hm y t ht
theorem lab_size {code : List In} (h : code.length ≤ 512) {x : Int} {s : ByteArray} (hs : MapTy.get (labsL code) x = some s) : s.size ≤ 22 :=
  get_lab2 _ _ _ _ x s (by omega) (fun y t ht => get_lab1 code [] y t (fun _ _ h => by simp [MapTy.get] at h) ht) hs
theorem labD_size {code : List In} (h : code.length ≤ 512) (x : Int) : ((MapTy.get (labsL code) x).getD ⟨#[]⟩).size ≤ 22 := by
  cases hg : MapTy.get (labsL code) x with
  | none => exact Nat.zero_le _
  | some s => exact lab_size h hg
theorem name_size (op : Int) : (ofL op).1.name.size ≤ 10 := by
  by_cases h : 0 ≤ op ∧ op ≤ 32
  · obtain ⟨k, rfl⟩ : ∃ k : Nat, op = k := ⟨op.toNat, by omega⟩
    have H : ∀ k : Fin 33, (ofL (k.1 : Int)).1.name.size ≤ 10 := by decide +kernel
    exact H ⟨k, by omega⟩
  · have e : ∀ j : Int, 0 ≤ j → j ≤ 32 → (op == j) = false := fun j h1 h2 => by rw [beq_eq_false_iff_ne]; omega
    simp only [ofL, waitsL, e 0 (by decide) (by decide), e 1 (by decide) (by decide), e 2 (by decide) (by decide), e 3 (by decide) (by decide), e 4 (by decide) (by decide), e 5 (by decide) (by decide), e 6 (by decide) (by decide), e 7 (by decide) (by decide), e 8 (by decide) (by decide), e 9 (by decide) (by decide), e 10 (by decide) (by decide), e 11 (by decide) (by decide), e 12 (by decide) (by decide), e 13 (by decide) (by decide), e 14 (by decide) (by decide), e 15 (by decide) (by decide), e 16 (by decide) (by decide), e 17 (by decide) (by decide), e 18 (by decide) (by decide), e 19 (by decide) (by decide), e 20 (by decide) (by decide), e 21 (by decide) (by decide), e 22 (by decide) (by decide), e 23 (by decide) (by decide), e 24 (by decide) (by decide), e 25 (by decide) (by decide), e 26 (by decide) (by decide), e 27 (by decide) (by decide), e 28 (by decide) (by decide), e 29 (by decide) (by decide), e 30 (by decide) (by decide), e 31 (by decide) (by decide), e 32 (by decide) (by decide), cond_false]
    exact Nat.zero_le _
end Go.Proofs.YtielnengimninaaGreatDoor
