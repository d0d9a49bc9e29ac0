/- verify.check: span, walked. -/
import Derived.Test.YtielnengimninaaGreatDoorV20
namespace Go.Va
open Go.Own Go.RowKit
/-- how many instructions are done at most from one on, up to one that may wait, or the end -/
def spF (code : List In) : Nat → Nat → Nat
  | 0, _ => 0
  | f + 1, k => bif restsAt code k then 1 else (followAt code k).foldl (fun n x => max n (spF code f x)) 0 + 1
/-- no way from one on is longer -/
def dnF (code : List In) : Nat → Nat → Prop
  | 0, _ => False
  | f + 1, k => restsAt code k = true ∨ ∀ x ∈ followAt code k, dnF code f x
theorem foldl_congr {α β : Type} {g h : α → β → α} : ∀ (l : List β) (a : α), (∀ x ∈ l, ∀ a, g a x = h a x) → l.foldl g a = l.foldl h a
  | [], _, _ => rfl
  | x :: r, a, hx => by
    rw [List.foldl_cons, List.foldl_cons, hx x (List.mem_cons_self ..)]
    exact foldl_congr r _ (fun y hy => hx y (List.mem_cons_of_mem _ hy))
theorem dn_mono {code : List In} : ∀ {f g k : Nat}, dnF code f k → f ≤ g → dnF code g k ∧ spF code g k = spF code f k
  | 0, _, _, h, _ => h.elim
  | f + 1, 0, _, _, hg => by omega
  | f + 1, g + 1, k, h, hg => by
    rw [dnF] at h
    rw [dnF, spF, spF]
    cases hr : restsAt code k with
    | true => exact ⟨.inl rfl, rfl⟩
    | false =>
      have h := h.resolve_left (fun e => by rw [hr] at e; cases e)
      refine ⟨.inr (fun x hx => (dn_mono (h x hx) (by omega : f ≤ g)).1), ?_⟩
      simp only [cond_false]
      rw [foldl_congr (h := fun n x => max n (spF code f x)) _ _ (fun x hx a => by rw [(dn_mono (h x hx) (by omega : f ≤ g)).2])]
theorem dn_same {code : List In} {f g k : Nat} (h : dnF code f k) (h' : dnF code g k) : spF code f k = spF code g k := by
  rcases Nat.le_total f g with e | e
  · exact (dn_mono h e).2.symm
  · exact (dn_mono h' e).2
theorem foldl_max_le {g : Nat → Nat} {b : Nat} : ∀ (l : List Nat) (a : Nat), a ≤ b → (∀ x ∈ l, g x ≤ b) → l.foldl (fun n x => max n (g x)) a ≤ b
  | [], _, h, _ => h
  | x :: r, a, h, hx => by
    rw [List.foldl_cons]
    exact foldl_max_le r _ (by have := hx x (List.mem_cons_self ..); omega) (fun y hy => hx y (List.mem_cons_of_mem _ hy))
theorem spF_le (code : List In) : ∀ f k : Nat, spF code f k ≤ f
  | 0, _ => Nat.le_refl _
  | f + 1, k => by
    rw [spF]
    cases restsAt code k
    · simp only [cond_false]
      have := foldl_max_le (g := spF code f) (b := f) (followAt code k) 0 (by omega) (fun x _ => spF_le code f x)
      omega
    · simp
theorem spF_pos {code : List In} {f k : Nat} (h : dnF code f k) : 0 < spF code f k := by
  cases f with
  | zero => exact h.elim
  | succ f =>
    rw [spF]
    cases restsAt code k <;> simp
/-- what is known -/
def KN (code : List In) (known : List Int) : Prop := ∀ (i : Nat) (v : Int), known[i]? = some v → 0 ≤ v ∧ (0 < v → ∃ f, dnF code f i ∧ v = spF code f i)
theorem KN.set {code : List In} {known : List Int} (h : KN code known) {f k : Nat} (hd : dnF code f k) : KN code (known.set k (spF code f k)) := by
  intro i v hv
  rw [List.getElem?_set] at hv
  by_cases e : k = i
  · subst e
    simp only [if_pos] at hv
    split at hv
    · cases hv
      exact ⟨by omega, fun _ => ⟨f, hd, rfl⟩⟩
    · cases hv
  · rw [if_neg e] at hv
    exact h i v hv
end Go.Va
namespace Go.Proofs.YtielnengimninaaGreatDoor
open Go.RowKit Go.Own Go.Own.MapTy Go.Va Go.Sort
open Go.Own.Cells (sz enc)
def SpPost (W : World) (kv : Value) (kb n : Nat) (code : List In) (r : Nat) (e : Ending) (w' : World) : Prop :=
  e = .returned (.int .i64 r) ∧ Hid (∃ known, RowAt w' 3 kv known ∧ known.length = n ∧ KN code known ∧ Keeps (fun j => j = kb) W w')
/-- between two rounds -/
def SpRel (W : World) (kv : Value) (kb n : Nat) (code : List In) (f : Nat) (fv : Value) (fl : List Nat) (tot : Nat) (gk : Nat) (v35 v7 : Value) (wr : World) : Prop :=
  ∃ (i m : Nat) (known : List Int), v35 = .int .i64 i ∧ v7 = .int .i64 m ∧ i ≤ fl.length ∧ gk = fl.length - i ∧ m ≤ f ∧ (fl.drop i).foldl (fun n x => max n (spF code f x)) m = tot ∧ RowAt wr 3 kv known ∧ known.length = n ∧ KN code known ∧ Keeps (fun j => j = kb) W wr ∧ RowAt wr 3 fv fl
--[[span
set_option maxRecDepth 100000 in
set_option maxHeartbeats 8000000 in
theorem span_any (b : Nat) (F : Nat → Prop) (ca : Option Addr) (n cc : Nat) (code : List In) (OK : CodeOk code) (Rc : Nat → Prop) (hcl : ∀ k, Rc k → k < code.length ∧ ∀ x ∈ followAt code k, Rc x) (kb koff kc : Nat) (hkb : ¬ b = kb) (hF : ∀ j, F j → j ≠ kb) :
    ∀ (f k : Nat) (W : World) (known : List Int), f ≤ 600 → dnF code f k → Rc k → W.cell? ⟨b, 0, none⟩ = some (.slice ca n cc) → b < W.heap.size → RdF F W (.slice ca n cc) code → RowAt W 3 (.slice (some ⟨kb, koff, none⟩) n kc) known → known.length = n → KN code known →
    Calls Tryz.prog 39 #[.pointer (some ⟨b, 0, none⟩), .int .i64 k, .slice (some ⟨kb, koff, none⟩) n kc] W (SpPost W (.slice (some ⟨kb, koff, none⟩) n kc) kb n code (spF code f k)) := by
  intro f
  induction f with
  | zero => exact fun _ _ _ _ h => h.elim
  | succ f ih =>
    intro k W known hf hd hRk q0 hbl HC RK hkl hKN
    have IH := Lib.hid ih
    have hnc := HC.elems.1
    obtain ⟨hkc, hkf⟩ := hcl k hRk
    obtain ⟨c, hc⟩ := elem_at hkc
    have hcm := List.mem_of_getElem? hc
    obtain ⟨g, off, rfl, hg, m0, m1⟩ := code_cells HC hc
    obtain ⟨v, hv⟩ := elem_at (l := known) (k := k) (by omega)
    have s0 := row_int RK hv
    have hkbl : kb < W.heap.size := RK.lt rfl
    have hkn : (k : Int) < n := by omega
    have fz : ∀ o, W.frozen? ⟨kb, o, none⟩ = false := fun o => RK.frozen o
    have HS := Lib.hid (And.intro HC (And.intro RK (And.intro hkl (And.intro hKN (And.intro hd (And.intro hkf hnc))))))
    have QQ := Lib.hid q0
    have hKv := hKN k v hv
    have hra : restsAt code k = restsL c := by unfold restsAt; rw [hc]
    have hfa : followAt code k = followN c k := by unfold followAt; rw [hc]
    have hsp : spF code (f + 1) k = bif restsL c then 1 else (followN c k).foldl (fun n x => max n (spF code f x)) 0 + 1 := by rw [spF, hra, hfa]
    have hdd : restsL c = true ∨ ∀ x ∈ followN c k, dnF code f x := by have := hd; rwa [dnF, hra, hfa] at this
    rw [hfa] at hkf
    have FO := Lib.hid (fun W' (K : Keeps (fun j => j = kb) W W') => follow_any (HC.keep K (fun j hj e => hF j hj e)) k c hc (OK.a0 c hcm) (by have := OK.len; omega))
    have hfl := followN_len c k
    clear HC RK hkl hKN hnc hcm ih
    by_cases hv0 : 0 < v
    · have hr : v = ((spF code (f + 1) k : Nat) : Int) := by
        obtain ⟨f', h1, h2⟩ := hKv.2 hv0
        rw [h2, dn_same h1 hd]
      have HR := Lib.hid hr
      clear hr hsp hdd hd hKv hkf hra hfa hfl
      go_enter Tryz.func39, Tryz.ntmps39
      go_wp2_with fail
      go_ret
      exact ⟨by rw [← HR.out]; rfl, Lib.hid ⟨known, HS.out.2.1, HS.out.2.2.1, HS.out.2.2.2.1, Keeps.refl _ _⟩⟩
    · have hHV := Lib.hid (And.intro hv hKv)
      obtain ⟨op, a⟩ := c
      dsimp only at m0 m1
      have RE := Lib.hid (rests_any op a)
      generalize restsL ⟨op, a⟩ = rs at *
      generalize followN ⟨op, a⟩ k = fl at *
      have HD := Lib.hid (And.intro hsp (And.intro hdd (And.intro hkf hd)))
      clear hd hsp hdd hkf hra hfa hv hKv hc
      go_enter Tryz.func39, Tryz.ntmps39
      go_wp2_with fail
      refine (RE.out _).mono ?_
      rintro e w1 ⟨rfl, hB1⟩
      have K1 : Keeps (fun j => j = kb) W w1 := (Keeps.of_below hB1 (S := fun _ => False)).mono (fun _ _ f => f.elim)
      have s0 := (hB1.cell (p := ⟨kb, koff + k, none⟩) hkbl).trans s0
      have fz : ∀ o, w1.frozen? ⟨kb, o, none⟩ = false := fun o => (HS.out.2.1.below hB1).frozen o
      have q0 := (hB1.cell (p := ⟨b, 0, none⟩) hbl).trans q0
      have hbl1 : b < w1.heap.size := Nat.lt_of_lt_of_le hbl hB1.size
      have hkbl1 : kb < w1.heap.size := Nat.lt_of_lt_of_le hkbl hB1.size
      have H1 := Lib.hid (And.intro hB1 K1)
      clear hB1 K1 m0 m1 RE
      cases rs with
      | true =>
        --[[s1
        have hr := HD.out.1
        simp only [cond_true] at hr
        have KS := (HS.out.2.2.2.1).set HD.out.2.2.2
        rw [hr] at KS
        have S7 := (HS.out.2.1.below H1.out.1).setOne hHV.out.1 (y := 1) (j := 0) (u := .int .i64 1) (by decide) rfl
        rw [show koff + (k * sz Int + 0) = koff + k from by simp [Cells.sz]] at S7
        have HR := Lib.hid (And.intro hr (And.intro KS S7))
        clear hr KS S7
        go_wp2_with fail
        go_ret
        refine ⟨by rw [HR.out.1]; rfl, Lib.hid ⟨_, HR.out.2.2, by simpa using HS.out.2.2.1, HR.out.2.1, H1.out.2.trans (Keeps.setCell (S := fun j => j = kb) (p := ⟨kb, koff + k, none⟩) (Keeps.refl _ _) (.inl rfl) _) (fun j _ e => e)⟩⟩
        --]]s1
      | false =>
        have hr := HD.out.1
        simp only [cond_false] at hr
        have hdx := HD.out.2.1.resolve_left (by simp)
        have HR := Lib.hid (And.intro hr hdx)
        clear hr hdx
        --[[s2
        go_wp2_with fail
        refine (FO.out _ H1.out.2).mono ?_
        rintro e w5 ⟨fv, rfl, hfr, hff, hB5⟩
        obtain ⟨fa, fc, rfl⟩ := hfr.slice
        obtain ⟨tot, htot⟩ : ∃ tot, fl.foldl (fun n x => max n (spF code f x)) 0 = tot := ⟨_, rfl⟩
        have K5 := H1.out.2.trans ((Keeps.of_below hB5 (S := fun _ => False)).mono (T := fun j => j = kb) (fun _ _ f => f.elim)) (fun j _ e => e)
        have HF := Lib.hid (And.intro hfr (And.intro hff (And.intro hB5 (And.intro htot K5))))
        clear hfr hff hB5 htot FO K5
        go_wp2_with fail
        go_loopg [35, 7] (fl.length) (fun gk v35 v7 wz => SpRel W (.slice (some ⟨kb, koff, none⟩) n kc) kb n code f (.slice fa fl.length fc) fl tot gk v35 v7 wz)
        case atStart => exact ⟨0, 0, known, rfl, rfl, Nat.zero_le _, rfl, Nat.zero_le _, HF.out.2.2.2.1, (HS.out.2.1.below H1.out.1).below HF.out.2.2.1, HS.out.2.2.1, HS.out.2.2.2.1, HF.out.2.2.2.2, HF.out.1⟩
        case round =>
          obtain ⟨i, m, kn, rfl, rfl, hi, hgk, hm, htot, hK, hkl, hKN, hKp, hfr⟩ := hrel
          by_cases hin : i < fl.length
          · obtain ⟨y, hy⟩ := elem_at hin
            have hdr : fl.drop i = y :: fl.drop (i + 1) := by
              rw [List.drop_eq_getElem_cons (List.getElem?_eq_some_iff.1 hy).1, (List.getElem?_eq_some_iff.1 hy).2]
            rw [hdr, List.foldl_cons] at htot
            obtain ⟨fg, foff, rfl, hfg⟩ := hfr.addr hy
            have z0 := row_nat hfr hy
            have hin' : (i : Int) < fl.length := by omega
            have hwi : IntKind.i64.wrap ((i : Int) + 1) = (i : Int) + 1 := IntWalk.i64_in _ (by omega)
            have hym := List.mem_of_getElem? hy
            have q0 := (hKp.cell (p := ⟨b, 0, none⟩) hbl hkb).trans QQ.out
            have hbr : b < wr.heap.size := Nat.lt_of_lt_of_le hbl hKp.size
            have CS := Lib.hid (IH.out y wr kn (by omega) (HR.out.2 y hym) (HD.out.2.2.1 y hym) q0 hbr (HS.out.1.keep hKp (fun j hj e => hF j hj e)) hK hkl hKN)
            have hle := spF_le code f y
            generalize spF code f y = s at *
            have HY := Lib.hid (And.intro hgk (And.intro htot (And.intro hKp hfr)))
            clear hgk htot hKp hfr hdr hy hym hK hkl hKN
            --[[s3
            go_wp2_with fail
            refine CS.out.mono ?_
            rintro e w7 ⟨rfl, H7⟩
            have hmx : max (m : Int) (s : Int) = ((max m s : Nat) : Int) := by omega
            have HM := Lib.hid hmx
            clear hmx
            go_wp2_with fail
            go_roundg (fl.length - (i + 1))
            case measure => have := HY.out.1; omega
            case rel =>
              obtain ⟨kn', h1, h2, h3, h4⟩ := H7.out
              exact ⟨i + 1, max m s, kn', by simp, by rw [← HM.out], by omega, rfl, by omega, HY.out.2.1, h1, h2, h3, HY.out.2.2.1.trans h4 (fun j _ e => e), HY.out.2.2.2.keep h4 (fun j hj e => by have := HF.out.2.1 j hj; omega)⟩
            --]]s3
          · obtain rfl : i = fl.length := by omega
            rw [List.drop_eq_nil_of_le (Nat.le_refl _), List.foldl_nil] at htot
            subst htot
            have hr := HR.out.1
            rw [HF.out.2.2.2.1] at hr
            have KS := hKN.set HD.out.2.2.2
            rw [hr] at KS
            obtain ⟨v', hv'⟩ := elem_at (l := kn) (k := k) (by omega)
            have s0' := row_int hK hv'
            have fz' : ∀ o, wr.frozen? ⟨kb, o, none⟩ = false := fun o => hK.frozen o
            have hkbr : kb < wr.heap.size := Nat.lt_of_lt_of_le hkbl hKp.size
            have S7 := hK.setOne hv' (y := ((m + 1 : Nat) : Int)) (j := 0) (u := .int .i64 ((m + 1 : Nat) : Int)) (by decide) rfl
            rw [show koff + (k * sz Int + 0) = koff + k from by simp [Cells.sz]] at S7
            have hwm : IntKind.i64.wrap ((m : Int) + 1) = ((m + 1 : Nat) : Int) := by rw [IntWalk.i64_in _ (by omega)]; omega
            obtain ⟨p, hp⟩ : ∃ p, ((m + 1 : Nat) : Int) = p := ⟨_, rfl⟩
            rw [hp] at S7 hwm KS
            have HY := Lib.hid (And.intro hr (And.intro KS (And.intro S7 (And.intro hKp (And.intro hkl hp)))))
            clear hr KS S7 hKp hKN hkl hp hK hfr hgk hv'
            --[[s4
            go_wp2_with fail
            go_ret
            refine ⟨by rw [HY.out.1, HY.out.2.2.2.2.2]; rfl, Lib.hid ⟨_, HY.out.2.2.1, by simpa using HY.out.2.2.2.2.1, HY.out.2.1, HY.out.2.2.2.1.trans (Keeps.setCell (S := fun j => j = kb) (p := ⟨kb, koff + k, none⟩) (Keeps.refl _ _) (.inl rfl) _) (fun j _ e => e)⟩⟩
            --]]s4
        --]]s2
--]]span
end Go.Proofs.YtielnengimninaaGreatDoor
