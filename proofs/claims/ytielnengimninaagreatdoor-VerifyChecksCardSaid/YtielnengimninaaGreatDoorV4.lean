/- (*text).number: the next number, walked. -/
import Derived.Test.YtielnengimninaaGreatDoorVm
import Derived.Shelf.Strconv.ErrVarAll
import Derived.Lib.SmallJoins
namespace Go.Va
open Go.Own Go.RowKit
/-- what a read comes to: a value, and the place behind it; a list in too many others; nothing -/
inductive PR where
  | ok (x : Val) (k : Nat)
  | deep
  | bad
def digC (c : UInt8) : Bool := decide (48 ≤ c.toNat ∧ c.toNat ≤ 57)
/-- how many digits a text begins with -/
def digN : List UInt8 → Nat
  | [] => 0
  | c :: r => bif digC c then digN r + 1 else 0
theorem digN_le : ∀ l : List UInt8, digN l ≤ l.length
  | [] => Nat.le_refl _
  | c :: r => by
    have := digN_le r
    rw [digN]
    cases digC c <;> simp <;> omega
/-- where a number's signs begin, and where they end -/
def numAt (s : List UInt8) (k : Nat) : Nat := if eatL s k 45 then k + 1 else k
def numEnd (s : List UInt8) (k : Nat) : Nat := numAt s k + digN (s.drop (numAt s k))
theorem eatL_lt {s : List UInt8} {k : Nat} {c : UInt8} (h : eatL s k c = true) : k < s.length := by
  unfold eatL at h
  cases hx : s[k]? with
  | none => rw [hx] at h; cases h
  | some x => exact (List.getElem?_eq_some_iff.1 hx).1
theorem numAt_le {s : List UInt8} {k : Nat} (h : k ≤ s.length) : k ≤ numAt s k ∧ numAt s k ≤ s.length := by
  unfold numAt
  split
  · rename_i he
    have := eatL_lt he
    omega
  · omega
theorem numEnd_le {s : List UInt8} {k : Nat} (h : k ≤ s.length) : k ≤ numEnd s k ∧ numEnd s k ≤ s.length := by
  have h1 := numAt_le h
  have h2 := digN_le (s.drop (numAt s k))
  simp at h2
  unfold numEnd
  omega
def numT (s : List UInt8) (k : Nat) : List UInt8 := (s.drop k).take (numEnd s k - k)
def numR (s : List UInt8) (k : Nat) : PR :=
  match Lib.parseIntB 64 (numT s k) with
  | .ok v => if Lib.itoa v = numT s k then .ok (.mk 1 v ⟨#[]⟩ []) (numEnd s k) else .bad
  | _ => .bad
end Go.Va
namespace Go.Proofs.YtielnengimninaaGreatDoor
open Go.RowKit Go.Own Go.Own.MapTy Go.Va Go.Sort
open Go.Own.Cells (sz enc)
def NPost (w : World) (b : Nat) (s : ByteArray) (k : Nat) (deep : Bool) (e : Ending) (w' : World) : Prop :=
  TX w' b s (numEnd s.data.toList k) deep ∧ Keeps (fun j => j = b) w w' ∧ match numR s.data.toList k with
    | .ok x k2 => (e = .returned (.tuple #[.int .i64 x.num, .bool true]) ∧ x = .mk 1 x.num ⟨#[]⟩ [] ∧ k2 = numEnd s.data.toList k)
    | _ => ∃ n : Int, e = .returned (.tuple #[.int .i64 n, .bool false])
theorem dropAt {s : ByteArray} {k : Nat} (h : k < s.size) : s.data.toList.drop k = s[k] :: s.data.toList.drop (k + 1) := by
  have h' : k < s.data.toList.length := by simpa using h
  rw [List.drop_eq_getElem_cons h']
  rfl
def eat2 (b : Nat) (s : ByteArray) (k : Nat) (deep : Bool) (c : UInt8) (w : World) (e : Ending) (w' : World) : Prop :=
  e = .returned (.bool (eatL s.data.toList k c)) ∧ Hid (TX w' b s (bif eatL s.data.toList k c then k + 1 else k) deep ∧ Keeps (fun j => j = b) w w')
theorem eat_any (b : Nat) (s : ByteArray) (k : Nat) (deep : Bool) (c : UInt8) (w : World) (H : TX w b s k deep) (hs : s.size ≤ 4294967280) :
    Calls Tryz.prog 118 #[.pointer (some ⟨b, 0, none⟩), .int .u8 c.toNat] w (eat2 b s k deep c w) := by
  cases he : eatL s.data.toList k c with
  | false =>
    refine (eat_no b s k deep c w H he).mono ?_
    rintro e w' ⟨rfl, rfl⟩
    exact ⟨by rw [he], Lib.hid ⟨by rw [he]; exact H.drew, (Keeps.refl _ _).drew⟩⟩
  | true =>
    have hk : k < s.size := by have := eatL_lt he; simpa using this
    refine (eat_yes b s k deep c w H hs hk he).mono ?_
    rintro e w' ⟨rfl, rfl⟩
    exact ⟨by rw [he], Lib.hid ⟨by rw [he]; exact (H.move (k + 1)).drew, (Keeps.setCell (S := fun j => j = b) (p := ⟨b, 1, none⟩) (Keeps.refl _ _) (.inl rfl) _).drew⟩⟩
--[[parseint
/-- strconv.ParseInt at base 10, 64 bits -/
def IPost (w : World) (s : ByteArray) (e : Ending) (w' : World) : Prop :=
  Below w.heap.size w w' ∧ match Lib.parseIntB 64 s.data.toList with
    | .ok v => e = .returned (.tuple #[.int .i64 v, .nilIface])
    | _ => ∃ (n : Int) (t : TypeId) (p : Value), e = .returned (.tuple #[.int .i64 n, .iface t p])
theorem parseInt_any {N : Nat} (s : ByteArray) (w : World) (hs : s.size ≤ 4294967280) (G : Gl Tryz.prog N w) :
    Calls Tryz.prog 140 #[.string s, .int .i64 10, .int .i64 64] w (IPost w s) := by
  cases hp : Lib.parseIntB 64 s.data.toList with
  | ok v =>
    refine (Any.strconv_ParseInt_10_at64_ok Tryz.laysC174 s (by omega) v hp w).mono ?_
    rintro e w' ⟨rfl, hw⟩
    refine ⟨?_, by rw [hp]⟩
    rcases hw with rfl | ⟨t, rfl⟩
    · exact Below.refl _ _
    · exact Joins.below_bytesWorld _ _ _ _ (Nat.le_refl _)
  | range =>
    obtain ⟨tp, p, hv⟩ := G.er
    refine (Any.strconv_ParseInt_10_at64_range Tryz.laysC174 s (by omega) hp (.iface tp p) w (by have h0 := World.var?_cell Tryz.laysC174.m16 hv 0; simpa using h0) (Or.inr ⟨tp, p, rfl⟩)).mono ?_
    rintro e w' ⟨n, rfl, _, _, hB⟩
    exact ⟨hB, by rw [hp]; exact ⟨_, _, _, rfl⟩⟩
  | _ =>
    obtain ⟨tp, p, hv⟩ := G.es
    refine (Any.strconv_ParseInt_10_at64_syntax Tryz.laysC174 s (by omega) hp (.iface tp p) w (by have h0 := World.var?_cell Tryz.laysC174.m15 hv 0; simpa using h0) (Or.inr ⟨tp, p, rfl⟩)).mono ?_
    rintro e w' ⟨n, rfl, _, _, hB⟩
    exact ⟨hB, by rw [hp]; exact ⟨_, _, _, rfl⟩⟩
--]]parseint
--[[formatint
theorem below_grow (w : World) (k : Nat) (os : Array Obj) : Below w.heap.size w (grow (w.drewN k) os) :=
  ⟨rfl, rfl, rfl, by simp [grow, World.drewN], fun j hj => by simp [grow, World.drewN, Array.getElem?_append_left hj]⟩
theorem formatInt_any {N : Nat} (n : Int) (h0 : -9223372036854775808 ≤ n) (h1 : n ≤ 9223372036854775807) (w : World) (G : Gl Tryz.prog N w) :
    Calls Tryz.prog 94 #[.int .i64 n, .int .i64 10] w fun e w' => e = .returned (.string ⟨(Lib.itoa n).toArray⟩) ∧ Below w.heap.size w w' := by
  refine (Any.strconv_FormatInt_10 Tryz.laysM173 n h0 h1 w G.tab).mono ?_
  rintro e w' ⟨rfl, k, os, rfl⟩
  exact ⟨rfl, below_grow w k os⟩
--]]formatint
--[[number
def NRel (w : World) (b : Nat) (s : ByteArray) (j0 : Nat) (deep : Bool) (gk : Nat) (wr : World) : Prop :=
  ∃ k, gk = s.size - k ∧ k ≤ s.size ∧ TX wr b s k deep ∧ Keeps (fun j => j = b) w wr ∧ k + digN (s.data.toList.drop k) = numEnd s.data.toList j0
theorem parse_ok_bound {l : List UInt8} {v : Int} (h : Lib.parseIntB 64 l = .ok v) : -9223372036854775808 ≤ v ∧ v ≤ 9223372036854775807 := by
  unfold Lib.parseIntB at h
  cases l with
  | nil => cases h
  | cons c r =>
    dsimp only at h
    split at h
    · cases h
    · cases h
    · rename_i u hu
      split at h
      · cases h
      · rename_i h1
        split at h
        · cases h
        · rename_i h2
          cases h
          by_cases hn : c.toNat = 45
          · simp [hn] at h2 ⊢
            omega
          · simp [hn] at h1 ⊢
            omega
set_option maxRecDepth 100000 in
set_option maxHeartbeats 8000000 in
theorem number_any {N : Nat} (b : Nat) (s : ByteArray) (j0 : Nat) (deep : Bool) (w : World) (H : TX w b s j0 deep) (hs : s.size ≤ 4294967280) (ha : j0 ≤ s.size) (G : Gl Tryz.prog N w) (hN : N ≤ b) :
    Calls Tryz.prog 121 #[.pointer (some ⟨b, 0, none⟩)] w (NPost w b s j0 deep) := by
  have b0 : b < w.heap.size := H.lt
  have c0 := H.c0
  have c1 := H.c1
  have HH := Lib.hid (And.intro H G)
  clear H G
  have EA := Lib.hid (show Calls Tryz.prog 118 #[.pointer (some ⟨b, 0, none⟩), .int .u8 45] w _ from eat_any b s j0 deep 45 w HH.out.1 hs)
  go_enter Tryz.func121, Tryz.ntmps121
  go_wp2_with fail
  refine EA.out.mono ?_
  rintro e w1 ⟨rfl, H1⟩
  clear EA c0 c1
  have hle := Lib.hid (numAt_le (s := s.data.toList) (k := j0) (by simpa using ha))
  have H1 := Lib.hid (show TX w1 b s (numAt s.data.toList j0) deep ∧ Keeps (fun j => j = b) w w1 from ⟨by
    have h := H1.out.1
    unfold numAt
    cases he : eatL s.data.toList j0 45 <;> simpa [he] using h, H1.out.2⟩)
  generalize hb1 : eatL s.data.toList j0 45 = be
  go_wp2_with fail
  go_loopg [] (s.size - numAt s.data.toList j0) (fun gk wr => NRel w b s j0 deep gk wr)
  case atStart =>
    refine ⟨numAt s.data.toList j0, rfl, ?_, H1.out.1, H1.out.2, rfl⟩
    have := hle.out.2
    simpa using this
  case round =>
    obtain ⟨k, hgk, hk, hT, hK, hd⟩ := hrel
    have b1 : b < wr.heap.size := hT.lt
    have c0 := hT.c0
    have c1 := hT.c1
    have f0 := hT.fr
    have HX := Lib.hid (And.intro hT (And.intro hK (And.intro hgk hd)))
    clear hT hK hgk hd
    by_cases hgo : k < s.size ∧ digC (s.data.toList.getD k 0) = true
    · obtain ⟨hkn, hdc⟩ := hgo
      have e0 : (k : Int) < s.size := by omega
      have hg : s.data.toList.getD k 0 = s[k] := by simp [List.getD, hkn]; rfl
      rw [hg] at hdc
      have hdc2 := Lib.hid hdc
      unfold digC at hdc
      rw [decide_eq_true_eq] at hdc
      have e1 : (48 : Int) ≤ s[k].toNat := by omega
      have e2 : (s[k].toNat : Int) ≤ 57 := by omega
      clear hdc hg
      have hw : IntKind.i64.wrap ((k : Int) + 1) = (k : Int) + 1 := IntWalk.i64_in _ (by omega)
      --[[n1
      go_wp2_with fail
      refine wp_region_ext (by kernel_rfl) (by kernel_rfl) ?_
      repeat (go_big_quiet_step (fail))
      refine wpQuiet_nil ?_
      intro w7 hB7
      have T7 := HX.out.1.keep (S := fun _ => False) (Keeps.of_below hB7) (fun f => f)
      have K7 := HX.out.2.1.trans (T := fun _ => False) (Keeps.of_below hB7) (fun _ _ f => f.elim)
      have T8 : TX (w7.setCell ⟨b, 1, none⟩ (.int .i64 ((k : Int) + 1))) b s (k + 1) deep := T7.move (k + 1)
      have K8 := Keeps.setCell (p := ⟨b, 1, none⟩) K7 (.inl rfl) (.int .i64 ((k : Int) + 1))
      have H8 := Lib.hid (And.intro T8 K8)
      clear c0 c1 f0
      have c0 := T7.c0
      have c1 := T7.c1
      have f0 := T7.fr
      have b7 := T7.lt
      clear T7 K7 T8 K8 hB7
      go_wp2_with fail
      go_roundg (s.size - (k + 1))
      case measure => have := HX.out.2.2.1; omega
      case rel =>
        refine ⟨k + 1, rfl, hkn, H8.out.1, H8.out.2, ?_⟩
        have h := HX.out.2.2.2
        rw [dropAt hkn, digN, hdc2.out] at h
        simp only [cond_true] at h
        omega
      --]]n1
    · have hend := Lib.hid (show k = numEnd s.data.toList j0 from by
        have h := HX.out.2.2.2
        by_cases hkn : k < s.size
        · have hg : s.data.toList.getD k 0 = s[k] := by simp [List.getD, hkn]; rfl
          rw [hg] at hgo
          rw [dropAt hkn, digN] at h
          cases hd : digC s[k] with
          | false => rw [hd] at h; simpa using h
          | true => exact absurd ⟨hkn, hd⟩ hgo
        · rw [List.drop_eq_nil_of_le (by simp; omega)] at h
          simpa [digN] using h)
      have hj0 : j0 ≤ k := by
        have := (numEnd_le (s := s.data.toList) (k := j0) (by simpa using ha)).1
        have := hend.out
        omega
      have HT := Lib.hid (show (s.extract j0 k).data.toList = numT s.data.toList j0 from by
        unfold numT
        rw [← hend.out]
        simp [ByteArray.data_extract])
      have hsz : (s.extract j0 k).size ≤ 4294967280 := by simp; omega
      have PI := Lib.hid (fun W (HG : Gl Tryz.prog N W) => parseInt_any (s.extract j0 k) W hsz HG)
      have cs : (¬ (k : Int) < s.size ∧ decide (k < s.size) = false) ∨ (∃ h : k < s.size, (k : Int) < s.size ∧ ¬ (48 : Int) ≤ s[k].toNat ∧ decide ((48 : Int) ≤ (s[k].toNat : Int)) = false) ∨
          (∃ h : k < s.size, (k : Int) < s.size ∧ (48 : Int) ≤ s[k].toNat ∧ ¬ (s[k].toNat : Int) ≤ 57 ∧ decide ((s[k].toNat : Int) ≤ 57) = false) := by
        by_cases hkn : k < s.size
        · have hg : s.data.toList.getD k 0 = s[k] := by simp [List.getD, hkn]; rfl
          rw [hg] at hgo
          have hdc : ¬ (48 ≤ s[k].toNat ∧ s[k].toNat ≤ 57) := fun h => hgo ⟨hkn, by unfold digC; rw [decide_eq_true_eq]; exact h⟩
          by_cases h48 : 48 ≤ s[k].toNat
          · exact .inr (.inr ⟨hkn, by omega, by omega, by omega, by rw [decide_eq_false_iff_not]; omega⟩)
          · exact .inr (.inl ⟨hkn, by omega, by omega, by rw [decide_eq_false_iff_not]; omega⟩)
        · exact .inl ⟨by omega, by rw [decide_eq_false_iff_not]; omega⟩
      clear hgo
      --[[n2
      rcases cs with ⟨e0, e3⟩ | ⟨hkn, e0, e1, e3⟩ | ⟨hkn, e0, e1, e2, e3⟩
      all_goals
        go_wp2_with fail
        refine wp_region_ext (by kernel_rfl) (by kernel_rfl) ?_
        repeat (go_big_quiet_step (fail))
        refine wpQuiet_nil ?_
        intro w7 hB7
        have T7 := HX.out.1.keep (S := fun _ => False) (Keeps.of_below hB7) (fun f => f)
        have K7 := HX.out.2.1.trans (T := fun _ => False) (Keeps.of_below hB7) (fun _ _ f => f.elim)
        have H7 := Lib.hid (And.intro T7 K7)
        clear c0 c1 f0
        have c0 := T7.c0
        have c1 := T7.c1
        have f0 := T7.fr
        have b7 := T7.lt
        clear T7 K7 hB7
        go_wp2_with fail
        refine wp_region_ext (by kernel_rfl) (by kernel_rfl) ?_
        repeat (go_big_quiet_step (fail))
        refine wpQuiet_nil ?_
        intro w8 hB8
        have T8 := H7.out.1.keep (S := fun _ => False) (Keeps.of_below hB8) (fun f => f)
        have K8 := H7.out.2.trans (T := fun _ => False) (Keeps.of_below hB8) (fun _ _ f => f.elim)
        have G8 := HH.out.2.keep K8 (fun j e => by omega)
        have H8 := Lib.hid (And.intro T8 (And.intro K8 G8))
        clear c0 c1 f0 T8 K8 G8 hB8
        go_wp2_with fail
        refine (PI.out _ H8.out.2.2).mono ?_
        rintro e w9 ⟨hB9, HI⟩
        have T9 := H8.out.1.keep (S := fun _ => False) (Keeps.of_below hB9) (fun f => f)
        have K9 := H8.out.2.1.trans (T := fun _ => False) (Keeps.of_below hB9) (fun _ _ f => f.elim)
        have G9 := H8.out.2.2.below hB9
        have H9 := Lib.hid (And.intro T9 (And.intro K9 G9))
        clear T9 K9 G9 hB9
        cases hp : Lib.parseIntB 64 (s.extract j0 k).data.toList with
        | ok v =>
          rw [hp] at HI
          have bd := parse_ok_bound hp
          rw [HT.out] at hp
          have HP := Lib.hid hp
          obtain rfl := HI
          clear hp
          have FI := Lib.hid (formatInt_any v bd.1 bd.2 w9 H9.out.2.2)
          cases hq : (Lib.itoa v == (s.extract j0 k).data.toList)
          all_goals
            have e5 : ((⟨(Lib.itoa v).toArray⟩ : ByteArray).toList == (s.extract j0 k).toList) = (Lib.itoa v == (s.extract j0 k).data.toList) := by rw [ByteArray.toList_eq, ByteArray.toList_eq]
            rw [hq] at e5
            rw [HT.out] at hq
            have HQ := Lib.hid hq
            clear hq
            go_wp2_with fail
            refine FI.out.mono ?_
            rintro e w10 ⟨rfl, hB10⟩
            have T10 := H9.out.1.keep (S := fun _ => False) (Keeps.of_below hB10) (fun f => f)
            have K10 := H9.out.2.1.trans (T := fun _ => False) (Keeps.of_below hB10) (fun _ _ f => f.elim)
            have H10 := Lib.hid (And.intro T10 K10)
            clear T10 K10 hB10
            go_wp2_with fail
            first
            | (refine bodyPost_ret (v := .tuple #[.int .i64 v, .bool true]) (by simp only [results, Tryz.results121]; go_simp; rw [ByteArray.toList_eq, HT.out]; exact beq_iff_eq.1 HQ.out) rfl ⟨by rw [← hend.out]; exact H10.out.1, H10.out.2, ?_⟩
               have hn : numR s.data.toList j0 = .ok (.mk 1 v ⟨#[]⟩ []) (numEnd s.data.toList j0) := by
                 unfold numR
                 rw [HP.out]
                 exact if_pos (beq_iff_eq.1 HQ.out)
               rw [hn]
               exact ⟨rfl, rfl, rfl⟩)
            | (refine bodyPost_ret (v := .tuple #[.int .i64 v, .bool false]) (by simp only [results, Tryz.results121]; go_simp; rw [ByteArray.toList_eq, HT.out]; exact fun e => by have := HQ.out; rw [beq_iff_eq.2 e] at this; cases this) rfl ⟨by rw [← hend.out]; exact H10.out.1, H10.out.2, ?_⟩
               have hn : numR s.data.toList j0 = .bad := by
                 unfold numR
                 rw [HP.out]
                 exact if_neg (fun e => by have := HQ.out; rw [beq_iff_eq.2 e] at this; cases this)
               rw [hn]
               exact ⟨_, rfl⟩)
        | range =>
          rw [hp] at HI
          obtain ⟨n, t, p, rfl⟩ := HI
          rw [HT.out] at hp
          have HP := Lib.hid hp
          clear hp
          go_wp2_with fail
          refine bodyPost_ret (v := .tuple #[.int .i64 n, .bool false]) (by simp only [results, Tryz.results121]; go_simp) rfl ⟨by rw [← hend.out]; exact H9.out.1, H9.out.2.1, ?_⟩
          have hn : numR s.data.toList j0 = .bad := by
            unfold numR
            rw [HP.out]
          rw [hn]
          exact ⟨n, rfl⟩
        | _ =>
          rw [hp] at HI
          obtain ⟨n, t, p, rfl⟩ := HI
          rw [HT.out] at hp
          have HP := Lib.hid hp
          clear hp
          go_wp2_with fail
          refine bodyPost_ret (v := .tuple #[.int .i64 n, .bool false]) (by simp only [results, Tryz.results121]; go_simp) rfl ⟨by rw [← hend.out]; exact H9.out.1, H9.out.2.1, ?_⟩
          have hn : numR s.data.toList j0 = .bad := by
            unfold numR
            rw [HP.out]
          rw [hn]
          exact ⟨n, rfl⟩
      --]]n2
--]]number
end Go.Proofs.YtielnengimninaaGreatDoor
