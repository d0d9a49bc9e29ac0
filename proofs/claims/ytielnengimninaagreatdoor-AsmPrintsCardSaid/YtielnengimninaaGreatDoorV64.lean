/- the document's bytes of a program, walked (foliotref11.Bytes). -/
import Derived.Test.YtielnengimninaaGreatDoorV60
import Derived.Test.YtielnengimninaaGreatDoorV42
namespace Go.Va
open Go.Own Go.RowKit
theorem Val.wf_kind {x : Val} (h : x.wf) : -9223372036854775808 ≤ x.kind ∧ x.kind ≤ 9223372036854775807 := ((Val.wf_eq x).1 h).1
mutual
theorem clone_wf : ∀ x : Val, x.wf → (cloneV x).wf
  | .mk k n s l, h => by
    have h2 := (Val.wf_eq _).1 h
    have ih := clone_wfL l (Val.wfL_iff.1 h2.2.2.2)
    rw [Val.wf_eq, clone_kind, clone_num, clone_txt, clone_list]
    refine ⟨h2.1, ?_, ?_, ?_⟩
    · have := h2.2.1
      show _ ≤ (bif k == 1 then n else 0) ∧ (bif k == 1 then n else 0) ≤ _
      cases (k == 1)
      · simp
      · exact this
    · have := h2.2.2.1
      show (bif k == 2 then s else (⟨#[]⟩ : ByteArray)).size ≤ _
      cases (k == 2)
      · exact Nat.zero_le _
      · exact this
    · show Val.wf.wfL (bif k == 3 then l.map cloneV else [])
      rw [Val.wfL_iff]
      cases (k == 3)
      · intro x hx; cases hx
      · exact ih
theorem clone_wfL : ∀ l : List Val, (∀ x ∈ l, x.wf) → ∀ x ∈ l.map cloneV, x.wf
  | [], _, x, h => by cases h
  | y :: r, hw, x, h => by
    have h1 := clone_wf y (hw y List.mem_cons_self)
    have h2 := clone_wfL r (fun z hz => hw z (List.mem_cons_of_mem _ hz))
    rw [List.map_cons] at h
    rcases List.mem_cons.1 h with rfl | h
    · exact h1
    · exact h2 x h
end
end Go.Va
namespace Go.Proofs.YtielnengimninaaGreatDoor
open Go.RowKit Go.Own Go.Own.MapTy Go.Va Go.Sort
open Go.Own.Cells (sz enc)
/-- an instruction's bytes -/
def insB (c : In) : List UInt8 := UInt8.ofNat (c.op % 256).toNat :: (bif (ofL c.op).1.operand == 0 then [] else numB c.a.toNat)
def imgB (p : Img) : List UInt8 :=
  numB p.places.toNat ++ numB p.consts.length ++ p.consts.flatMap bytesV ++ numB p.names.length ++ p.names.flatMap (fun s => Go.Va.textB s.data.toList) ++ numB p.code.length ++ p.code.flatMap insB
def imgS (p : Img) : ByteArray := ⟨(imgB p).toArray⟩
theorem flat_len {α : Type} (f : α → List UInt8) (b : Nat) : ∀ (l : List α), (∀ x ∈ l, (f x).length ≤ b) → (l.flatMap f).length ≤ l.length * b
  | [], _ => by simp
  | x :: r, h => by
    have h1 := h x List.mem_cons_self
    have h2 := flat_len f b r (fun y hy => h y (List.mem_cons_of_mem _ hy))
    rw [List.flatMap_cons, List.length_append, List.length_cons, Nat.succ_mul]
    omega
theorem insB_len (c : In) : (insB c).length ≤ 12 := by
  unfold insB
  have := numB_len c.a.toNat
  cases (ofL c.op).1.operand == 0 <;> simp <;> omega
/-- the bytes of a part of a program, as they are put behind those before -/
structure Sofar (p : Img) (S : ByteArray) (rest : List UInt8) : Prop where
  e : S.data.toList ++ rest = imgB p
  le : S.size ≤ 1000000
theorem imgB_len {p : Img} (h : imgL p = 0) : (imgB p).length ≤ 100000 := by
  obtain ⟨_, c1, c2, c3, c4, c5, c6, c7, _⟩ := imgL_ok h
  have a1 := numB_len p.places.toNat
  have a2 := numB_len p.consts.length
  have a3 := numB_len p.names.length
  have a4 := numB_len p.code.length
  have b1 := flat_len bytesV 512 p.consts (fun x hx => check_len (consts_ok c6 x hx))
  have b2 := flat_len (fun s : ByteArray => Go.Va.textB s.data.toList) 80 p.names (fun s hs => by
    have h1 := names_ok c7 s hs
    have h2 := numB_len s.data.toList.length
    have h3 : s.data.toList.length = s.size := by simp
    show (Go.Va.textB s.data.toList).length ≤ 80
    unfold Go.Va.textB
    rw [List.length_append]
    omega)
  have b3 := flat_len insB 12 p.code (fun c _ => insB_len c)
  have d1 : p.consts.length * 512 ≤ 64 * 512 := Nat.mul_le_mul_right _ c2
  have d2 : p.names.length * 80 ≤ 32 * 80 := Nat.mul_le_mul_right _ c3
  have d3 : p.code.length * 12 ≤ 512 * 12 := Nat.mul_le_mul_right _ c1
  unfold imgB
  simp only [List.length_append]
  omega
theorem sofar_of {p : Img} {S : ByteArray} {rest : List UInt8} (hb : (imgB p).length ≤ 100000) (h : S.data.toList ++ rest = imgB p) : Sofar p S rest := by
  refine ⟨h, ?_⟩
  have := congrArg List.length h
  rw [List.length_append] at this
  have e : S.data.toList.length = S.size := by simp
  omega
theorem Sofar.app {p : Img} {S T : ByteArray} {l rest : List UInt8} (hb : (imgB p).length ≤ 100000) (h : Sofar p S (l ++ rest)) (hT : T.data.toList = l) : Sofar p (S ++ T) rest := by
  refine sofar_of hb ?_
  rw [ByteArray.data_append, Array.toList_append, hT, List.append_assoc]
  exact h.e
theorem numS_list (n : Nat) : (numS n).data.toList = numB n := by unfold numS; simp
theorem textS_list (s : ByteArray) : (textS s).data.toList = Go.Va.textB s.data.toList := by unfold textS; simp
theorem bytesS_list (x : Val) : (bytesS x).data.toList = bytesV x := by unfold bytesS; simp
--[[walk
set_option maxRecDepth 100000 in
set_option maxHeartbeats 8000000 in
theorem rimgbytes_any (F : Nat → Prop) (w : World) (i : IC) (p : Img) (H : IAt F w i p) (h0 : imgL p = 0) (hw : ∀ x ∈ p.consts, x.wf) :
    Calls Tryz.prog 31 #[.agg #[.slice i.ca i.cn i.cc, .slice i.ka i.kn i.kc, .slice i.na i.nn i.nc, .int .i64 i.pl]] w fun e w' => e = .returned (.string (imgS p)) ∧ Below w.heap.size w w' := by
  have b1 := (imgL_ok h0).2.1
  have b2 := (imgL_ok h0).2.2.1
  have b3 := (imgL_ok h0).2.2.2.1
  have b4 := (imgL_ok h0).2.2.2.2.1
  have b5 := (imgL_ok h0).2.2.2.2.2.1
  obtain ⟨l1, l2, l3⟩ := H.lens
  have l4 := H.pl
  have hAt := fun (c : In) (hc : c ∈ p.code) => at_ok h0 hc
  have hck := fun (x : Val) (hx : x ∈ p.consts) => check_len (consts_ok (imgL_ok h0).2.2.2.2.2.2.1 x hx)
  have hnm := fun (x : ByteArray) (hx : x ∈ p.names) => names_ok (imgL_ok h0).2.2.2.2.2.2.2.1 x hx
  have HI := Lib.hid (And.intro H (And.intro hAt (And.intro hw (And.intro hck (And.intro hnm (imgB_len h0))))))
  obtain ⟨ca, cn, cc, ka, kn, kc, na, nn, nc, pl⟩ := i
  dsimp only at l1 l2 l3 l4
  have HL := Lib.hid (And.intro l1 (And.intro l2 (And.intro l3 l4)))
  rw [← l1] at b1
  rw [← l2] at b2
  rw [← l3] at b3
  rw [← l4] at b4 b5
  clear H hAt hw l1 l2 l3 l4 h0 hck hnm
  dsimp only
  obtain ⟨plN, rfl⟩ : ∃ n : Nat, pl = n := ⟨pl.toNat, by omega⟩
  have hu1 : IntKind.u64.wrap (plN : Int) = plN := by simp [IntKind.wrap, IntKind.bits, IntKind.signed]; omega
  have hu2 : IntKind.u64.wrap (kn : Int) = kn := by simp [IntKind.wrap, IntKind.bits, IntKind.signed]; omega
  have hu3 : IntKind.u64.wrap (nn : Int) = nn := by simp [IntKind.wrap, IntKind.bits, IntKind.signed]; omega
  have hu4 : IntKind.u64.wrap (cn : Int) = cn := by simp [IntKind.wrap, IntKind.bits, IntKind.signed]; omega
  have N3 := Lib.hid (fun W => num_any2 nn (by omega) W)
  have N4 := Lib.hid (fun W => num_any2 cn (by omega) W)
  have z1 := numS_size plN
  have z2 := numS_size kn
  have z3 := numS_size nn
  have z4 := numS_size cn
  have zz : ¬ 9223372036854775807 < (numS plN).size + (numS kn).size := by omega
  go_enter Tryz.func31, Tryz.ntmps31
  go_wp2_with fail
  obtain ⟨w0, hw0⟩ : ∃ w0, w0 = w.alloc (.cells #[.slice ca cn cc, .slice ka kn kc, .slice na nn nc, .int .i64 plN] 26) := ⟨_, rfl⟩
  have B0 : Below w.heap.size w w0 := by rw [hw0]; exact (Below.refl _ _).alloc (Nat.le_refl _) _
  have X0 : BoxI w0 w.heap.size ⟨ca, cn, cc, ka, kn, kc, na, nn, nc, plN⟩ := by rw [hw0]; exact boxI_new w ⟨ca, cn, cc, ka, kn, kc, na, nn, nc, plN⟩
  have k1 := X0.c1
  have k3 := X0.c3
  have lx := X0.lt
  dsimp only at k1 k3
  rw [← hw0]
  have H0 := Lib.hid (And.intro B0 X0)
  clear hw0 B0 X0
  refine wp_region_ext (by kernel_rfl) (by kernel_rfl) ?_
  repeat (go_big_quiet_step ((go_at_call 67; exact ext_call (num_any2 _ (by omega) _))))
  refine wpQuiet_nil ?_
  intro w1 hB1
  have X1 := H0.out.2.below hB1
  have H1 := Lib.hid (And.intro (H0.out.1.trans (hB1.mono H0.out.1.size)) X1)
  have S1 : Sofar p (numS plN ++ numS kn) (p.consts.flatMap bytesV ++ (numB nn ++ (p.names.flatMap (fun s => Go.Va.textB s.data.toList) ++ (numB cn ++ p.code.flatMap insB)))) := by
    refine sofar_of HI.out.2.2.2.2.2 ?_
    rw [ByteArray.data_append, Array.toList_append, numS_list, numS_list]
    unfold imgB
    rw [← HL.out.1, ← HL.out.2.1, ← HL.out.2.2.1, ← HL.out.2.2.2]
    simp
  have HS1 := Lib.hid S1
  clear hB1 X1 S1 k1 k3 lx zz
  --[[l1
  go_wp2_with fail
  go_loopg [4, 3] (p.consts.length) (fun gk v4 v3 wr => ∃ (a : Nat) (S : ByteArray), v4 = .int .i64 a ∧ v3 = .string S ∧ a ≤ p.consts.length ∧ gk = p.consts.length - a ∧ Hid (Sofar p S ((p.consts.drop a).flatMap bytesV ++ (numB nn ++ (p.names.flatMap (fun s => Go.Va.textB s.data.toList) ++ (numB cn ++ p.code.flatMap insB)))) ∧ Below w1.heap.size w1 wr))
  case atStart => exact ⟨0, _, rfl, rfl, Nat.zero_le _, rfl, Lib.hid ⟨HS1.out, Below.refl _ _⟩⟩
  case round =>
    obtain ⟨a, S, rfl, rfl, ha, hgk, HX⟩ := hrel
    have XB := H1.out.2.below HX.out.2
    have k0 := XB.c0
    have k1 := XB.c1
    have k2 := XB.c2
    have lx := XB.lt
    dsimp only at k0 k1 k2
    have BW := Lib.hid (H1.out.1.trans (HX.out.2.mono H1.out.1.size))
    have HG := Lib.hid hgk
    have hSz := HX.out.1.le
    clear XB hgk
    by_cases han : a < kn
    · have han' : (a : Int) < kn := by omega
      obtain ⟨x, hx⟩ := elem_at (l := p.consts) (k := a) (by have := HL.out.2.1; omega)
      obtain ⟨g, off, d, rfl, _, _, hg, hC, x0, x1, x2, x3⟩ := HI.out.1.const_at BW.out hx
      have hxm := mem_of_get hx
      have hxb := HI.out.2.2.2.1 x hxm
      have CA := Lib.hid (rbytes_any x.parts x (Nat.le_refl _) d.kind d.n d.s d.la d.ln d.lc F wr hC (HI.out.2.2.1 x hxm) (by omega))
      have hzs : (bytesS x).size ≤ 512 := by rw [bytesS_size]; exact hxb
      have hSo := HX.out.1
      rw [drop_get hx, List.flatMap_cons, List.append_assoc] at hSo
      have HN := Lib.hid (And.intro (hSo.app HI.out.2.2.2.2.2 (bytesS_list x)) (lt_of_get hx))
      generalize bytesS x = bs at *
      clear hx hC hxm hxb hSo
      --[[l1b
      go_wp2_with fail
      refine CA.out.mono ?_
      rintro e w5 ⟨rfl, hB5⟩
      have H5 := Lib.hid (HX.out.2.trans (hB5.mono HX.out.2.size))
      clear hB5
      go_wp2_with fail
      go_roundg (p.consts.length - (a + 1))
      case measure => have := HG.out; have := HN.out.2; omega
      case rel => exact ⟨a + 1, _, by simp, rfl, HN.out.2, rfl, Lib.hid ⟨HN.out.1, H5.out⟩⟩
      --]]l1b
    · obtain rfl : a = kn := by have := HL.out.2.1; omega
      have haa : ¬ (a : Int) < a := by omega
      have hSo := HX.out.1
      rw [List.drop_eq_nil_of_le (by have := HL.out.2.1; omega), List.flatMap_nil, List.nil_append] at hSo
      have HS2 := Lib.hid (hSo.app HI.out.2.2.2.2.2 (numS_list nn))
      clear hSo HX HG
      --[[l2
      go_wp2_with fail
      refine (N3.out _).mono ?_
      rintro e w2 ⟨rfl, hB2⟩
      have k0 := (hB2.cell (p := ⟨w.heap.size, _, none⟩) lx).trans k0
      have k2 := (hB2.cell (p := ⟨w.heap.size, _, none⟩) lx).trans k2
      have lx := Nat.lt_of_lt_of_le lx hB2.size
      have BW2 := Lib.hid (BW.out.trans (hB2.mono BW.out.size))
      clear hB2 BW k1
      go_wp2_with fail
      go_loopg [5, 3] (p.names.length) (fun gk v5 v3 wr => ∃ (b : Nat) (S : ByteArray), v5 = .int .i64 b ∧ v3 = .string S ∧ b ≤ p.names.length ∧ gk = p.names.length - b ∧ Hid (Sofar p S ((p.names.drop b).flatMap (fun s => Go.Va.textB s.data.toList) ++ (numB cn ++ p.code.flatMap insB)) ∧ Below w2.heap.size w2 wr))
      case atStart => exact ⟨0, _, rfl, rfl, Nat.zero_le _, rfl, Lib.hid ⟨HS2.out, Below.refl _ _⟩⟩
      case round =>
        obtain ⟨b, S, rfl, rfl, hb, hgk, HX⟩ := hrel
        rw [← HX.out.2.cell (p := ⟨w.heap.size, _, none⟩) lx] at k0 k2
        have ly := Nat.lt_of_lt_of_le lx HX.out.2.size
        have BW3 := Lib.hid (BW2.out.trans (HX.out.2.mono BW2.out.size))
        have HG := Lib.hid hgk
        have hSz := HX.out.1.le
        clear hgk
        by_cases hbn : b < nn
        · have hbn' : (b : Int) < nn := by omega
          obtain ⟨s, hs⟩ := elem_at (l := p.names) (k := b) (by have := HL.out.2.2.1; omega)
          obtain ⟨g, off, rfl, _, _, hg, x0⟩ := HI.out.1.name_at BW3.out hs
          have hsb := HI.out.2.2.2.2.1 s (mem_of_get hs)
          have CA := Lib.hid (rtext_any s (by omega) wr)
          have hzs : (textS s).size ≤ 80 := by
            have h2 := numB_len s.data.toList.length
            have h3 : s.data.toList.length = s.size := by simp
            show (Go.Va.textB s.data.toList).toArray.size ≤ 80
            rw [List.size_toArray]
            unfold Go.Va.textB
            rw [List.length_append]
            omega
          have hSo := HX.out.1
          rw [drop_get hs, List.flatMap_cons, List.append_assoc] at hSo
          have HN := Lib.hid (And.intro (hSo.app HI.out.2.2.2.2.2 (textS_list s)) (lt_of_get hs))
          generalize textS s = ts at *
          clear hs hsb hSo
          --[[l2b
          go_wp2_with fail
          refine CA.out.mono ?_
          rintro e w5 ⟨rfl, hB5⟩
          have H5 := Lib.hid (HX.out.2.trans (hB5.mono HX.out.2.size))
          clear hB5
          go_wp2_with fail
          go_roundg (p.names.length - (b + 1))
          case measure => have := HG.out; have := HN.out.2; omega
          case rel => exact ⟨b + 1, _, by simp, rfl, HN.out.2, rfl, Lib.hid ⟨HN.out.1, H5.out⟩⟩
          --]]l2b
        · obtain rfl : b = nn := by have := HL.out.2.2.1; omega
          have hbb : ¬ (b : Int) < b := by omega
          have hSo := HX.out.1
          rw [List.drop_eq_nil_of_le (by have := HL.out.2.2.1; omega), List.flatMap_nil, List.nil_append] at hSo
          have HS3 := Lib.hid (hSo.app HI.out.2.2.2.2.2 (numS_list cn))
          clear hSo HX HG
          --[[l3
          go_wp2_with fail
          refine (N4.out _).mono ?_
          rintro e w3 ⟨rfl, hB3⟩
          have k0 := (hB3.cell (p := ⟨w.heap.size, _, none⟩) ly).trans k0
          have lz := Nat.lt_of_lt_of_le ly hB3.size
          have BW4 := Lib.hid (BW3.out.trans (hB3.mono BW3.out.size))
          clear hB3 BW3 k2
          go_wp2_with fail
          go_loopg [6, 3] (p.code.length) (fun gk v6 v3 wr => ∃ (c : Nat) (S : ByteArray), v6 = .int .i64 c ∧ v3 = .string S ∧ c ≤ p.code.length ∧ gk = p.code.length - c ∧ Hid (Sofar p S ((p.code.drop c).flatMap insB) ∧ Below w3.heap.size w3 wr))
          case atStart => exact ⟨0, _, rfl, rfl, Nat.zero_le _, rfl, Lib.hid ⟨HS3.out, Below.refl _ _⟩⟩
          case round =>
            obtain ⟨c, S, rfl, rfl, hc, hgk, HX⟩ := hrel
            rw [← HX.out.2.cell (p := ⟨w.heap.size, _, none⟩) lz] at k0
            have lv := Nat.lt_of_lt_of_le lz HX.out.2.size
            have BW5 := Lib.hid (BW4.out.trans (HX.out.2.mono BW4.out.size))
            have HG := Lib.hid hgk
            have hSz := HX.out.1.le
            clear hgk
            by_cases hcn : c < cn
            · have hcn' : (c : Int) < cn := by omega
              obtain ⟨⟨op, av⟩, hx⟩ := elem_at (l := p.code) (k := c) (by have := HL.out.1; omega)
              obtain ⟨g, off, rfl, _, _, hg, m0, m1⟩ := HI.out.1.code_at BW5.out hx
              dsimp only at m0 m1
              obtain ⟨ok, a0, aC, aN, aP, aT, aK, aO⟩ := HI.out.2.1 _ (mem_of_get hx)
              dsimp only at ok a0 aC aN aP aT aK aO
              have hyes := ok_range.1 ok
              have OP := Lib.hid (fun W => operand_any op hyes.1 hyes.2 W)
              have hav : av ≤ 1000 := by
                have e1 := HL.out
                rcases operand_bd6 op with e | e | e | e | e | e
                · have := aO e; omega
                · obtain ⟨x, hx⟩ := aC e; have := lt_of_get hx; omega
                · obtain ⟨x, hx⟩ := aN e; have := lt_of_get hx; omega
                · have := aP e; omega
                · have := aT e; omega
                · have := aK e; omega
              obtain ⟨an, rfl⟩ : ∃ n : Nat, av = n := ⟨av.toNat, by omega⟩
              have NA := Lib.hid (fun W => num_any2 an (by omega) W)
              have hu5 : IntKind.u64.wrap (an : Int) = an := by simp [IntKind.wrap, IntKind.bits, IntKind.signed]; omega
              have kb : IntKind.u8.wrap op = op := by simp [IntKind.wrap, IntKind.bits, IntKind.signed]; omega
              have za := numS_size an
              have hSo := HX.out.1
              have hlt := lt_of_get hx
              rw [drop_get hx, List.flatMap_cons] at hSo
              have hib : insB ⟨op, an⟩ = UInt8.ofNat op.toNat :: (bif (ofL op).1.operand == 0 then [] else numB an) := by
                unfold insB
                dsimp only
                rw [show op % 256 = op by omega]
                rfl
              rw [hib] at hSo
              have HSo := Lib.hid (And.intro hSo hlt)
              have hb6 := operand_bd6 op
              generalize (ofL op).1.operand = kd at *
              obtain ⟨b8, hb8⟩ : ∃ b8, UInt8.ofNat op.toNat = b8 := ⟨_, rfl⟩
              have HB8 := Lib.hid hb8
              clear hx ok aC aN aP aT aK aO hyes hSo hlt hib hb8
              --[[l3b
              go_wp2_with fail
              rw [HB8.out]
              obtain ⟨w6, hw6⟩ : ∃ w6, w6 = (wr.alloc (.cells #[.int .i64 op, .int .i64 an] 45)).alloc (.cells #[.int .u8 op] 5) := ⟨_, rfl⟩
              have B6 : Below wr.heap.size wr w6 := by rw [hw6]; exact ((Below.refl _ _).alloc (Nat.le_refl _) _).alloc (by simp) _
              have Y6 : w6.heap[wr.heap.size]? = some (.cells #[.int .i64 op, .int .i64 an] 45 (0, 0)) := by rw [hw6]; exact heap_lt2
              rw [← hw6]
              clear hw6
              refine (OP.out _).mono ?_
              rintro e w7 ⟨rfl, hB7⟩
              have Y7 := (hB7.block _ (lt_of_heap Y6)).trans Y6
              have u1 : w7.cell? ⟨wr.heap.size, 1, none⟩ = some (.int .i64 an) := by rw [cell_of_heap Y7]; rfl
              have lu := lt_of_heap Y7
              have B7 := Lib.hid (B6.trans (hB7.mono B6.size))
              have S8 : Sofar p (S ++ ⟨#[b8]⟩) ((bif kd == 0 then [] else numB an) ++ (p.code.drop (c + 1)).flatMap insB) := Sofar.app (l := [b8]) HI.out.2.2.2.2.2 (by have := HX.out.1.e; exact sofar_of HI.out.2.2.2.2.2 (by have h := HSo.out.1.e; rw [HB8.out] at h; simpa using h)) rfl
              have HS8 := Lib.hid S8
              have z8 := S8.le
              clear B6 Y6 Y7 hB7 OP S8
              cases hk0 : (kd == 0) with
              | true =>
                obtain rfl : kd = 0 := by simpa using hk0
                clear hk0
                --[[l3k
                go_wp2_with fail
                go_roundg (p.code.length - (c + 1))
                case measure => have := HG.out; have := HSo.out.2; omega
                case rel => exact ⟨c + 1, _, by simp, rfl, HSo.out.2, rfl, Lib.hid ⟨HS8.out, HX.out.2.trans (B7.out.mono HX.out.2.size)⟩⟩
                --]]l3k
              | false =>
                have hoc : (opC kd == 45) = false := by
                  rcases hb6 with rfl | rfl | rfl | rfl | rfl | rfl
                  · cases hk0
                  all_goals rfl
                have h9 := HS8.out
                rw [hk0] at h9
                have HS9 := Lib.hid (h9.app HI.out.2.2.2.2.2 (numS_list an))
                generalize opC kd = oc at *
                generalize numS an = na2 at *
                clear h9 hk0
                --[[l3n
                go_wp2_with fail
                refine (NA.out _).mono ?_
                rintro e w8 ⟨rfl, hB8'⟩
                have H8 := Lib.hid (B7.out.trans (hB8'.mono B7.out.size))
                clear hB8'
                go_wp2_with fail
                go_roundg (p.code.length - (c + 1))
                case measure => have := HG.out; have := HSo.out.2; omega
                case rel => exact ⟨c + 1, _, by simp, rfl, HSo.out.2, rfl, Lib.hid ⟨HS9.out, HX.out.2.trans (H8.out.mono HX.out.2.size)⟩⟩
                --]]l3n
              --]]l3b
            · obtain rfl : c = cn := by have := HL.out.1; omega
              have hcc : ¬ (c : Int) < c := by omega
              have hSo := HX.out.1.e
              rw [List.drop_eq_nil_of_le (by have := HL.out.1; omega), List.flatMap_nil, List.append_nil] at hSo
              have HE := Lib.hid (show S = imgS p from ByteArray.ext (by unfold imgS; rw [← hSo]))
              clear hSo HX HG
              --[[l3e
              go_wp2_with fail
              go_ret
              exact ⟨by rw [HE.out]; rfl, BW5.out⟩
              --]]l3e
          --]]l3
      --]]l2
  --]]l1
--]]walk
end Go.Proofs.YtielnengimninaaGreatDoor
