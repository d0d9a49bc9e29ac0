/- verify.check: round, walked. -/
import Derived.Test.YtielnengimninaaGreatDoorV19
namespace Go.Va
open Go.Own Go.RowKit
def restsAt (code : List In) (k : Nat) : Bool := match code[k]? with
  | some c => restsL c
  | none => true
def followAt (code : List In) (k : Nat) : List Nat := match code[k]? with
  | some c => followN c k
  | none => []
/-- what comes behind one instruction; none: the first one is come to -/
def roundIn (code : List In) (k0 : Nat) : List Nat → List Bool → List Nat → Option (List Bool × List Nat)
  | [], seen, todo => some (seen, todo)
  | x :: r, seen, todo => bif x == k0 then none else bif !(seen.getD x false) && !(restsAt code x) then roundIn code k0 r (seen.set x true) (todo ++ [x]) else roundIn code k0 r seen todo
def roundF (code : List In) (k0 : Nat) : Nat → List Bool → List Nat → Bool
  | 0, _, _ => false
  | f + 1, seen, todo => match todo with
    | [] => false
    | k :: r => match roundIn code k0 (followAt code k) seen r with
      | none => true
      | some q => roundF code k0 f q.1 q.2
/-- does one come from an instruction back to it without waiting? -/
def roundL (code : List In) (k0 : Nat) : Bool := bif restsAt code k0 then false else roundF code k0 (code.length + 1) (List.replicate code.length false) [k0]
/-- how many have not been seen -/
def frees : List Bool → Nat
  | [] => 0
  | x :: r => (bif x then 0 else 1) + frees r
theorem followN_len (c : In) (k : Nat) : (followN c k).length ≤ 2 := by
  unfold followN
  cases (ofL c.op).1.ends
  · cases (c.op == 11)
    · cases (ofL c.op).1.flow <;> simp
    · simp
  · simp
theorem frees_set : ∀ (l : List Bool) (k : Nat), l[k]? = some false → frees (l.set k true) + 1 = frees l
  | [], _, h => by simp at h
  | y :: r, 0, h => by
    simp at h
    subst h
    simp only [List.set_cons_zero, frees, cond_true, cond_false]
    omega
  | y :: r, k + 1, h => by
    have := frees_set r k (by simpa using h)
    simp only [List.set_cons_succ, frees]
    omega
theorem frees_replicate : ∀ n : Nat, frees (List.replicate n false) = n
  | 0 => rfl
  | n + 1 => by
    rw [List.replicate_succ, frees, frees_replicate n]
    simp
    omega
structure RI (n f : Nat) (Rc : Nat → Prop) (seen : List Bool) (todo : List Nat) : Prop where
  len : seen.length = n
  td : ∀ k ∈ todo, Rc k
  less : frees seen + todo.length ≤ f
theorem RI.see {n f : Nat} {Rc : Nat → Prop} {seen : List Bool} {todo : List Nat} (I : RI n f Rc seen todo) {x : Nat} (hx : seen[x]? = some false) (hr : Rc x) : RI n f Rc (seen.set x true) (todo ++ [x]) :=
  ⟨by simpa using I.len, fun k hk => by
    simp only [List.mem_append, List.mem_singleton] at hk
    rcases hk with hk | rfl
    · exact I.td k hk
    · exact hr, by
    have := frees_set seen x hx
    have := I.less
    simp only [List.length_append, List.length_singleton]
    omega⟩
end Go.Va
namespace Go.Proofs.YtielnengimninaaGreatDoor
open Go.RowKit Go.Own Go.Own.MapTy Go.Va Go.Sort
open Go.Own.Cells (sz enc)
theorem infoBool : (Tryz.prog.info? 4).map (fun i => (i.zero, i.size, i.bytes)) = some (some (.bool false), 1, 1) := by kernel_rfl
/-- an instruction's cells -/
theorem code_cells {F : Nat → Prop} {W : World} {ca : Option Addr} {n cc : Nat} {code : List In} (HC : RdF F W (.slice ca n cc) code) {k : Nat} {c : In} (hc : code[k]? = some c) : ∃ g off, ca = some ⟨g, off, none⟩ ∧ g < W.heap.size ∧ W.cell? ⟨g, off + k * 2, none⟩ = some (.int .i64 c.op) ∧ W.cell? ⟨g, off + k * 2 + 1, none⟩ = some (.int .i64 c.a) := by
  obtain ⟨rfl, hmx, g, off, had, hel⟩ := HC.elems
  obtain ⟨hFg, hg, hcs⟩ := hel k c hc
  have had := had.resolve_right (fun e => by rw [e] at hc; simp at hc)
  exact ⟨g, off, had, hg, hcs 0 _ rfl, hcs 1 _ rfl⟩
/-- between two rounds -/
def RoRel (W : World) (sb n : Nat) (Rc : Nat → Prop) (code : List In) (k0 : Nat) (r : Bool) (gk : Nat) (v6 : Value) (wr : World) : Prop :=
  ∃ (seen : List Bool) (todo : List Nat), RowAt wr 4 (.slice (some ⟨sb, 0, none⟩) n n) seen ∧ RowAt wr 3 v6 todo ∧ (∀ g, v6.ownBlock = some g → sb < g) ∧ RI n gk Rc seen todo ∧ roundF code k0 gk seen todo = r ∧ Below W.heap.size W wr ∧ sb < wr.heap.size ∧ gk ≤ n + 1
def RiRel (W : World) (sb n : Nat) (Rc : Nat → Prop) (code : List In) (k0 f : Nat) (fv : Value) (fl : List Nat) (R : Option (List Bool × List Nat)) (gk : Nat) (v41 v6 : Value) (wr : World) : Prop :=
  ∃ (i : Nat) (seen : List Bool) (todo : List Nat), v41 = .int .i64 i ∧ i ≤ fl.length ∧ gk = fl.length - i ∧ RowAt wr 4 (.slice (some ⟨sb, 0, none⟩) n n) seen ∧ RowAt wr 3 v6 todo ∧ (∀ g, v6.ownBlock = some g → sb < g ∧ fv.ownBlock ≠ some g) ∧ RI n f Rc seen todo ∧ roundIn code k0 (fl.drop i) seen todo = R ∧ RowAt wr 3 fv fl ∧ Below W.heap.size W wr
--[[round
set_option maxRecDepth 100000 in
set_option maxHeartbeats 8000000 in
theorem round_any (b : Nat) (F : Nat → Prop) (ca : Option Addr) (n cc : Nat) (code : List In) (W : World) (q0 : W.cell? ⟨b, 0, none⟩ = some (.slice ca n cc)) (hbl : b < W.heap.size) (HC : RdF F W (.slice ca n cc) code) (OK : CodeOk code) (Rc : Nat → Prop) (hcl : ∀ k, Rc k → k < code.length ∧ ∀ x ∈ followAt code k, Rc x) (k0 : Nat) (hk0 : Rc k0) (r : Bool) (hr : roundL code k0 = r) :
    Calls Tryz.prog 38 #[.pointer (some ⟨b, 0, none⟩), .int .i64 k0] W fun e w' => e = .returned (.bool r) ∧ Below W.heap.size W w' := by
  have hnc := HC.elems.1
  obtain ⟨i0, hi, hz, hs, hby⟩ := info_parts infoBool
  have hn512 := OK.len
  rw [← hnc] at hn512
  obtain ⟨cs, hmk, hcs⟩ := run_make_bools (P := Tryz.prog) (t := 43) Tryz.underlying43 hi hz hs hby n (by omega)
  obtain ⟨c, hc⟩ := elem_at (hcl k0 hk0).1
  obtain ⟨g, off, rfl, hg, m0, m1⟩ := code_cells HC hc
  have hkn : (k0 : Int) < n := by have := (hcl k0 hk0).1; omega
  have HS := Lib.hid (And.intro HC (And.intro OK (And.intro hcl (And.intro hk0 (And.intro hcs hnc)))))
  have QQ := Lib.hid q0
  unfold roundL restsAt at hr
  rw [hc] at hr
  dsimp only at hr
  obtain ⟨op, a⟩ := c
  dsimp only at m0 m1
  have RE := Lib.hid (rests_any op a)
  generalize restsL ⟨op, a⟩ = rs at *
  clear HC OK hcl hcs hnc hc hi hz hs hby i0 hk0
  go_enter Tryz.func38, Tryz.ntmps38
  go_wp2_with fail
  refine (RE.out _).mono ?_
  rintro e w1 ⟨rfl, hB1⟩
  clear RE
  cases rs with
  | true =>
    simp only [cond_true] at hr
    subst hr
    go_wp2_with fail
    go_ret
    exact ⟨rfl, hB1⟩
  | false =>
    simp only [cond_false] at hr
    have HR := Lib.hid (And.intro hr hB1)
    have q0 := (hB1.cell (p := ⟨b, 0, none⟩) hbl).trans q0
    have hbl1 : b < w1.heap.size := Nat.lt_of_lt_of_le hbl hB1.size
    clear hr hB1 m0 m1 hkn
    --[[r1
    go_wp2_with fail
    obtain ⟨W2, hW2⟩ : ∃ W2, W2 = (w1.alloc (.cells cs 4)).alloc (.cells #[.int .i64 k0] 3) := ⟨_, rfl⟩
    have B2 : Below W.heap.size W W2 := by rw [hW2]; exact (HR.out.2.alloc HR.out.2.size _).alloc (by have := HR.out.2.size; simp; omega) _
    have s2 : RowAt W2 4 (.slice (some ⟨w1.heap.size, 0, none⟩) n n) (List.replicate n false) := by rw [hW2]; exact RowAt.frame (w := w1.alloc (.cells cs 4)) (RowAt.made (heap_alloc_new w1 _) HS.out.2.2.2.2.1 (by simp) (by unfold maxLen; omega)) (fun g h => by cases h; exact Below.heap_alloc _ _ _ (by simp))
    have t2 : RowAt W2 3 (.slice (some ⟨w1.heap.size + 1, 0, none⟩) 1 1) [k0] := by rw [hW2]; exact RowAt.made heap_new2 rfl rfl (by decide)
    have l2 : w1.heap.size < W2.heap.size := by rw [hW2]; simp; omega
    rw [← hW2]
    have H2 := Lib.hid (And.intro B2 (And.intro s2 (And.intro t2 l2)))
    clear hW2 B2 s2 t2 l2 q0 hbl1 hmk
    go_loopg [6] (n + 1) (fun gk v6 wr => RoRel W w1.heap.size n Rc code k0 r gk v6 wr)
    case atStart =>
      refine ⟨List.replicate n false, [k0], H2.out.2.1, H2.out.2.2.1, (fun g h => by cases h; exact Nat.lt_succ_self _), ⟨by simp, fun k hk => by rw [List.mem_singleton.1 hk]; exact HS.out.2.2.2.1, by rw [frees_replicate]; simp⟩, ?_, H2.out.1, H2.out.2.2.2, Nat.le_refl _⟩
      have := HR.out.1
      rwa [← HS.out.2.2.2.2.2] at this
    case round =>
      obtain ⟨seen, todo, hS, hT, hTo, hI, hF, hB, hl, hg1⟩ := hrel
      obtain ⟨ta, tc, rfl⟩ := hT.slice
      have hcase : todo = [] ∨ ∃ k rr, todo = k :: rr := by cases todo <;> simp
      rcases hcase with hto | ⟨k, rr, hto⟩
      · have hr : false = r := by
          cases gk with
          | zero => exact hF
          | succ f => rw [hto, roundF] at hF; exact hF
        subst hr
        subst hto
        have HX := Lib.hid hB
        clear hS hT hTo hI hF hB hl hg1
        go_wp2_with fail
        go_ret
        exact ⟨rfl, HX.out⟩
      · obtain ⟨f, rfl⟩ : ∃ f, gk = f + 1 := ⟨gk - 1, by have := hI.less; rw [hto] at this; simp at this; omega⟩
        rw [hto, roundF] at hF
        have hk0 : todo[0]? = some k := by rw [hto]; rfl
        have hRk := hI.td k (by rw [hto]; exact List.mem_cons_self ..)
        obtain ⟨hkl, hkf⟩ := HS.out.2.2.1 k hRk
        obtain ⟨c, hc⟩ := elem_at hkl
        have hcm := List.mem_of_getElem? hc
        obtain ⟨tg, toff, rfl, htg⟩ := hT.addr hk0
        have t0 := row_nat hT hk0
        rw [Nat.add_zero] at t0
        have hlen : todo.length = rr.length + 1 := by rw [hto]; rfl
        obtain ⟨ad', cR, rT, oT⟩ := cut_fromO elemN hT (k := 1) (by omega)
        rw [show ((1 : Nat) : Int) = 1 from rfl] at cR
        rw [show todo.drop 1 = rr from by rw [hto]; rfl] at rT
        have hpos : (0 : Int) < todo.length := by omega
        have I2 : RI n f Rc seen rr := ⟨hI.len, fun j hj => hI.td j (by rw [hto]; exact List.mem_cons_of_mem _ hj), by have := hI.less; rw [hlen] at this; omega⟩
        have hfa : followAt code k = followN c k := by unfold followAt; rw [hc]
        rw [hfa] at hF hkf
        have FO := Lib.hid (follow_any (HS.out.1.keep (S := fun _ => False) (Keeps.of_below hB) (fun _ _ f => f)) k c hc (HS.out.2.1.a0 c hcm) (by have := HS.out.2.1.len; omega))
        have hfl := followN_len c k
        generalize followN c k = fl at *
        have q0 := (hB.cell (p := ⟨b, 0, none⟩) hbl).trans QQ.out
        have hbr : b < wr.heap.size := Nat.lt_of_lt_of_le hbl hB.size
        have HX := Lib.hid (And.intro hF (And.intro hkf (And.intro I2 (And.intro hS (And.intro rT (And.intro (fun g hg => hTo g (oT g hg)) (And.intro hB (And.intro hl hg1))))))))
        clear hF hkf I2 hS rT hTo oT hB hl hg1 hT hI hto hlen hfa hcm hc hkl hRk hk0
        --[[r2
        go_wp2_with fail
        refine FO.out.mono ?_
        rintro e w5 ⟨fv, rfl, hfr, hff, hB5⟩
        obtain ⟨fa, fc, rfl⟩ := hfr.slice
        obtain ⟨R, hR⟩ : ∃ R, roundIn code k0 fl seen rr = R := ⟨_, rfl⟩
        have BW5 := HX.out.2.2.2.2.2.2.1.trans (hB5.mono HX.out.2.2.2.2.2.2.1.size)
        have HF := Lib.hid (And.intro hfr (And.intro hff (And.intro hB5 (And.intro hR BW5))))
        clear hfr hff hB5 hR FO BW5
        go_wp2_with fail
        go_loopg [41, 6] (fl.length) (fun gk v41 v6 wz => RiRel W w1.heap.size n Rc code k0 f (.slice fa fl.length fc) fl R gk v41 v6 wz)
        case atStart =>
          exact ⟨0, seen, rr, rfl, Nat.zero_le _, rfl, HX.out.2.2.2.1.below HF.out.2.2.1, HX.out.2.2.2.2.1.below HF.out.2.2.1, fun g hg => ⟨HX.out.2.2.2.2.2.1 g hg, fun e => by have := HF.out.2.1 g e; have := HX.out.2.2.2.2.1.lt hg; omega⟩, HX.out.2.2.1, HF.out.2.2.2.1, HF.out.1, HF.out.2.2.2.2⟩
        case round =>
          obtain ⟨i, seen', todo', rfl, hi, hgk, hS, hT, hTo, hI, hRi, hfr, hB⟩ := hrel
          by_cases hin : i < fl.length
          · obtain ⟨y, hy⟩ := elem_at hin
            have hdr : fl.drop i = y :: fl.drop (i + 1) := by
              rw [List.drop_eq_getElem_cons (List.getElem?_eq_some_iff.1 hy).1, (List.getElem?_eq_some_iff.1 hy).2]
            rw [hdr, roundIn] at hRi
            have hRy := HX.out.2.1 y (List.mem_of_getElem? hy)
            obtain ⟨hyl, _⟩ := HS.out.2.2.1 y hRy
            obtain ⟨fg, foff, rfl, hfg⟩ := hfr.addr hy
            have z0 := row_nat hfr hy
            have hin' : (i : Int) < fl.length := by omega
            have hwi : IntKind.i64.wrap ((i : Int) + 1) = (i : Int) + 1 := IntWalk.i64_in _ (by omega)
            obtain ⟨bx, hbx⟩ := elem_at (l := seen') (k := y) (by rw [hI.len, HS.out.2.2.2.2.2]; exact hyl)
            rw [List.getD_eq_getElem?_getD, hbx, Option.getD_some] at hRi
            have s0 := row_bool hS hbx
            rw [Nat.zero_add] at s0
            have hsl : w1.heap.size < wr.heap.size := hS.lt rfl
            have hyn : (y : Int) < n := by have := HS.out.2.2.2.2.2; omega
            obtain ⟨c2, hc2⟩ := elem_at hyl
            have q0 := (hB.cell (p := ⟨b, 0, none⟩) hbl).trans QQ.out
            have hbr : b < wr.heap.size := Nat.lt_of_lt_of_le hbl hB.size
            obtain ⟨_, _, hgg, hg2, m0, m1⟩ := code_cells (HS.out.1.keep (S := fun _ => False) (Keeps.of_below hB) (fun _ _ f => f)) hc2
            cases hgg
            have hra : restsAt code y = restsL c2 := by unfold restsAt; rw [hc2]
            rw [hra] at hRi
            obtain ⟨op2, a2⟩ := c2
            dsimp only at m0 m1
            have RE := Lib.hid (rests_any op2 a2)
            generalize restsL ⟨op2, a2⟩ = rs at *
            have HY := Lib.hid (And.intro hgk (And.intro hS (And.intro hT (And.intro hTo (And.intro hI (And.intro hfr (And.intro hB (And.intro hbx hRy))))))))
            clear hgk hS hT hTo hI hfr hB hbx hRy hdr hy hc2 hra hyl
            cases hyk : (y == k0) with
            | true =>
              --[[r3
              have hyk' : ((y : Int) == (k0 : Int)) = true := by
                rw [beq_iff_eq] at hyk ⊢
                omega
              rw [hyk] at hRi
              simp only [cond_true] at hRi
              have hr := HX.out.1
              rw [HF.out.2.2.2.1, ← hRi] at hr
              subst hr
              clear hyk hRi
              go_wp2_with fail
              go_ret
              exact ⟨rfl, HY.out.2.2.2.2.2.2.1⟩
              --]]r3
            | false =>
              have hyk' : ((y : Int) == (k0 : Int)) = false := by
                rw [beq_eq_false_iff_ne] at hyk ⊢
                omega
              rw [hyk] at hRi
              simp only [cond_false] at hRi
              clear hyk
              cases bx with
              | true =>
                --[[r4
                simp only [Bool.not_true, Bool.false_and, cond_false] at hRi
                have HZ := Lib.hid hRi
                clear hRi
                go_wp2_with fail
                go_roundg (fl.length - (i + 1))
                case measure => have := HY.out.1; omega
                case rel => exact ⟨i + 1, seen', todo', by simp, by omega, rfl, HY.out.2.1, HY.out.2.2.1, HY.out.2.2.2.1, HY.out.2.2.2.2.1, HZ.out, HY.out.2.2.2.2.2.1, HY.out.2.2.2.2.2.2.1⟩
                --]]r4
              | false =>
                go_wp2_with fail
                refine (RE.out _).mono ?_
                rintro e w7 ⟨rfl, hB7⟩
                have H7 := Lib.hid hB7
                have s0 := (hB7.cell (p := ⟨w1.heap.size, y, none⟩) hsl).trans s0
                have hsl : w1.heap.size < w7.heap.size := Nat.lt_of_lt_of_le hsl hB7.size
                clear hB7 m0 m1 q0 z0
                cases rs with
                | true =>
                  --[[r5
                  simp only [Bool.not_true, Bool.not_false, Bool.true_and, cond_false] at hRi
                  have HZ := Lib.hid hRi
                  clear hRi
                  go_wp2_with fail
                  go_roundg (fl.length - (i + 1))
                  case measure => have := HY.out.1; omega
                  case rel => exact ⟨i + 1, seen', todo', by simp, by omega, rfl, HY.out.2.1.below H7.out, HY.out.2.2.1.below H7.out, HY.out.2.2.2.1, HY.out.2.2.2.2.1, HZ.out, HY.out.2.2.2.2.2.1.below H7.out, HY.out.2.2.2.2.2.2.1.trans (H7.out.mono HY.out.2.2.2.2.2.2.1.size)⟩
                  --]]r5
                | false =>
                  simp only [Bool.not_false, Bool.and_self, cond_true] at hRi
                  have HZ := Lib.hid hRi
                  clear hRi
                  --[[r6
                  obtain ⟨za, zc, rfl⟩ := HY.out.2.2.1.slice
                  have hlt : todo'.length ≤ 600 := by have := HY.out.2.2.2.2.1.less; have := HX.out.2.2.2.2.2.2.2.2; omega
                  have S7 := (HY.out.2.1.below H7.out).setOne HY.out.2.2.2.2.2.2.2.1 (y := true) (j := 0) (u := .bool true) (by decide) rfl
                  rw [show 0 + (y * sz Bool + 0) = y from by simp [Cells.sz]] at S7
                  have K8 : Keeps (fun j => j = w1.heap.size) w7 (w7.setCell ⟨w1.heap.size, y, none⟩ (.bool true)) := Keeps.setCell (S := fun j => j = w1.heap.size) (p := ⟨w1.heap.size, y, none⟩) (Keeps.refl _ _) (.inl rfl) _
                  have T7 := (HY.out.2.2.1.below H7.out).keep K8 (fun g hg e => by have := (HY.out.2.2.2.1 g hg).1; omega)
                  have fz : ∀ o, w7.frozen? ⟨w1.heap.size, o, none⟩ = false := fun o => (HY.out.2.1.below H7.out).frozen o
                  have AN := Lib.hid (show ((w7.setCell ⟨w1.heap.size, y, none⟩ (.bool true)).alloc (.cells #[.int .i64 y] 3)).heap[w7.heap.size]? = some (.cells (Cells.enc y).toArray 3 (0, 0)) from by
                    have := heap_alloc_new (w7.setCell ⟨w1.heap.size, y, none⟩ (.bool true)) (.cells #[.int .i64 y] 3)
                    rwa [setCell_size] at this)
                  have HA := Lib.hid (And.intro S7 (And.intro T7 K8))
                  clear S7 T7 K8
                  go_wp2_with (at_builtin; go_must (refine wp_appW (α := Nat) elemN rfl (.tmp 67) (.tmp 69) rfl (HA.out.2.1.alloc _) y rfl rfl AN.out (by omega) (by unfold maxLen; omega) ?_); intro a1 q1 w8 hr1 hk1 hf1; have H8 := Lib.hid (And.intro hr1 (And.intro hk1 hf1)); clear hr1 hk1 hf1)
                  go_roundg (fl.length - (i + 1))
                  case measure => have := HY.out.1; omega
                  case rel =>
                    have hsb : ∀ g, (Value.slice (some ⟨w1.heap.size, 0, none⟩) n n).ownBlock = some g → g = w1.heap.size := fun g h => (Option.some.inj h).symm
                    have hV6 := HY.out.2.2.2.1
                    have hWs := HR.out.2.size
                    have hfb : ∀ g, (Value.slice (some ⟨fg, foff, none⟩) fl.length fc).ownBlock = some g → g < wr.heap.size := fun g h => HY.out.2.2.2.2.2.1.lt h
                    have hfw := HF.out.2.1
                    have h7 := H7.out.size
                    have h67 := HX.out.2.2.2.2.2.2.2.1
                    refine ⟨i + 1, seen'.set y true, todo' ++ [y], by simp, by omega, rfl, (HA.out.1.alloc _).keep H8.out.2.1 (fun g hg e => ?_), H8.out.1, fun g hg => ?_, HY.out.2.2.2.2.1.see HY.out.2.2.2.2.2.2.2.1 HY.out.2.2.2.2.2.2.2.2, HZ.out, (((HY.out.2.2.2.2.2.1.below H7.out).keep HA.out.2.2 (fun g hg e => ?_)).alloc _).keep H8.out.2.1 (fun g hg e => ?_), ?_⟩
                    · have := hsb g hg
                      have := (hV6 g e).1
                      omega
                    · rcases H8.out.2.2 g hg with h | h
                      · exact hV6 g h
                      · have h9 : w7.heap.size + 1 ≤ g := by simpa [setCell_size] using h
                        exact ⟨by omega, fun e => by have := hfb g e; omega⟩
                    · have := hfw g hg
                      omega
                    · exact (hV6 g e).2 hg
                    · exact HY.out.2.2.2.2.2.2.1.trans ((H7.out.mono HY.out.2.2.2.2.2.2.1.size).trans ((HA.out.2.2.below (by have := HY.out.2.2.2.2.2.2.1.size; omega) (fun j hj e => by omega)).trans (((Below.refl _ _).alloc (by have := HY.out.2.2.2.2.2.2.1.size; simp; omega) _).trans (H8.out.2.1.below (by have := HY.out.2.2.2.2.2.2.1.size; simp; omega) (fun j hj e => by have := (hV6 j e).1; omega)))))
                  --]]r6
          · obtain rfl : i = fl.length := by omega
            rw [List.drop_eq_nil_of_le (Nat.le_refl _), roundIn] at hRi
            have hr := HX.out.1
            rw [HF.out.2.2.2.1, ← hRi] at hr
            have HZ := Lib.hid (And.intro hr (And.intro hS (And.intro hT (And.intro hTo (And.intro hI hB)))))
            clear hr hRi hS hT hTo hI hB hfr
            --[[r7
            go_wp2_with fail
            go_roundg f
            case measure => omega
            case rel => exact ⟨seen', todo', HZ.out.2.1, HZ.out.2.2.1, fun g hg => (HZ.out.2.2.2.1 g hg).1, HZ.out.2.2.2.2.1, HZ.out.1, HZ.out.2.2.2.2.2, HZ.out.2.1.lt rfl, by have := HX.out.2.2.2.2.2.2.2.2; omega⟩
            --]]r7
        --]]r2
    --]]r1
--]]round
end Go.Proofs.YtielnengimninaaGreatDoor
