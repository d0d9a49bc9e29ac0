/- Arguments opened: an image. -/
import Derived.Test.YtielnengimninaaGreatDoorV35
import Derived.Test.YtielnengimninaaGreatDoorV8
import Derived.Deep.Slices
import Derived.Deep.Fields
import Derived.ChangeSame
import Derived.OpenShut
namespace Go.Proofs.YtielnengimninaaGreatDoor
open Go.ChangeShapes Go.WideShapes Go.Deep Go.RowKit Go.Own Go.Va
open Go.Own.Cells (sz enc)
section
variable {H : Type} {tok : TypeId × Value → H} {P : Program} {w : World} {base : Nat} {spare : Nat → Bool} {held : Bool}
theorem lit64 {n : Int} (h : (Lit.int .i64 n).wf = true) : -9223372036854775808 ≤ n ∧ n ≤ 9223372036854775807 := by
  have : IntKind.i64.min ≤ n ∧ n ≤ 9223372036854775807 := by simpa [Lit.wf, IntKind.bits, IntKind.signed] using h
  exact this
/-- a slice, read as a list -/
theorem open_rd {α : Type} [Cells α] {tS tE : TypeId} (ht : P.underlying tS = some (.slice tE)) (hc : P.cellsOf tE = sz α) (h0 : 0 < sz α) {Q : α → Prop} {fuel : Nat} {cs : List Value} {x : DataW H × List MemPlace} (dflt : α)
    (hel : ∀ m, m < fuel → ∀ cs x, cs.length = sz α → DataW.trod tok P w base spare held m tE cs = some x → ∃ y : α, cs = enc y ∧ Q y)
    (h : DataW.trod tok P w base spare held fuel tS cs = some x) : ∃ a len cap, cs = [.slice a len cap] ∧ ∃ ys : List α, RdF (fun j => j < w.heap.size) w (.slice a len cap) ys ∧ ∀ y ∈ ys, Q y := by
  rcases DataW.trod_slice ht h with ⟨rfl, _⟩ | ⟨a, len, cap, elems, rest, n, rfl, rfl, _, _, hl, hm, hlen, hat, _⟩
  · exact ⟨none, 0, 0, rfl, [], RdF.nil _ _, fun y hy => by cases hy⟩
  · have cell : ∀ i, i < len → ∃ y : α, Q y ∧ ∀ j u, (enc y)[j]? = some u → w.cell? (a.add (i * sz α + j)) = some u := by
      intro i hi
      have h1 := hat i hi
      rw [List.getElem?_eq_getElem (by omega), Option.bind_eq_some_iff] at h1
      obtain ⟨cs', hcs, htr⟩ := h1
      obtain ⟨_, hcl, hcell⟩ := World.cells?_some hcs
      rw [hc] at hcl
      obtain ⟨y, hy, hq⟩ := hel n (Nat.lt_succ_self n) cs' _ hcl htr
      refine ⟨y, hq, fun j u hj => ?_⟩
      have hjl : j < sz α := by have := (List.getElem?_eq_some_iff.1 hj).1; rwa [Cells.len] at this
      rw [hc] at hcell
      rw [← Go.Deep.add_add, hcell j hjl, hy]
      exact hj
    have hch := Classical.axiomOfChoice (fun i => show ∃ y : α, i < len → Q y ∧ ∀ j u, (enc y)[j]? = some u → w.cell? (a.add (i * sz α + j)) = some u from by
      by_cases hi : i < len
      · obtain ⟨y, h⟩ := cell i hi; exact ⟨y, fun _ => h⟩
      · exact ⟨dflt, fun h => absurd h hi⟩)
    obtain ⟨f, hf⟩ := hch
    refine ⟨some a, len, cap, rfl, (List.range len).map f, ⟨some a, cap, by simp, by simpa using hl, hm, ?_⟩, ?_⟩
    · intro i y hy
      have hi : i < len := by have := (List.getElem?_eq_some_iff.1 hy).1; simpa using this
      simp [hi] at hy
      subst hy
      obtain ⟨_, h2⟩ := hf i hi
      obtain ⟨b, off, rfl, hb⟩ : ∃ b off, a = ⟨b, off, none⟩ ∧ b < w.heap.size := by
        have hlen2 : (enc (f 0)).length = sz α := Cells.len _
        have hu : (enc (f 0))[0]? = some ((enc (f 0))[0]'(by omega)) := List.getElem?_eq_getElem _
        have hc := (hf 0 (by omega)).2 0 _ hu
        simp only [Nat.zero_mul, Nat.add_zero] at hc
        obtain ⟨b, off, spot⟩ := a
        have hs : spot = none := by simpa [Addr.add] using World.cell?_spot hc
        subst hs
        exact ⟨b, off, rfl, by simpa [Addr.add] using World.block_lt_of_cell? w _ hc⟩
      refine ⟨b, off, rfl, hb, hb, fun j u hj => ?_⟩
      have := h2 j u hj
      simp only [Go.WideShapes.add_plain] at this
      exact this
    · intro y hy
      obtain ⟨i, hi, rfl⟩ := List.mem_map.1 hy
      exact (hf i (List.mem_range.1 hi)).1
theorem list_of {α : Type} {R : α → Val → Prop} : ∀ (ys : List α), (∀ y ∈ ys, ∃ v, R y v) → ∃ l : List Val, ys.length = l.length ∧ ∀ (i : Nat) (c : α) (x : Val), ys[i]? = some c → l[i]? = some x → R c x
  | [], _ => ⟨[], rfl, fun i c x h => by simp at h⟩
  | y :: r, h => by
    obtain ⟨v, hv⟩ := h y (List.mem_cons_self ..)
    obtain ⟨l, h1, h2⟩ := list_of r (fun z hz => h z (List.mem_cons_of_mem _ hz))
    refine ⟨v :: l, by simp [h1], fun i c x hc hx => ?_⟩
    cases i with
    | zero =>
      simp at hc hx
      subst hc hx
      exact hv
    | succ i => exact h2 i c x (by simpa using hc) (by simpa using hx)
/-- a value's numbers -/
def B64 (k n : Int) (_ : ByteArray) : Prop := (-9223372036854775808 ≤ k ∧ k ≤ 9223372036854775807) ∧ -9223372036854775808 ≤ n ∧ n ≤ 9223372036854775807
theorem fields4 {cs : List Value} (h : cs.length = 4) : ∃ a b c d, cs = [a, b, c, d] := by
  match cs, h with
  | [a, b, c, d], _ => exact ⟨a, b, c, d, rfl⟩
theorem list_vf {w : World} {F : Nat → Prop} {v : Value} {ys : List VC} (hr : RdF F w v ys) (hq : ∀ y ∈ ys, ∃ x : Val, CF F w y x ∧ x.all B64) : ∃ l : List Val, VF F w v l ∧ Val.all.allL B64 l := by
  obtain ⟨l, h1, h2⟩ := list_of (R := fun (y : VC) (x : Val) => CF F w y x ∧ x.all B64) ys hq
  refine ⟨l, .mk v ys l hr h1 (fun i c x hc hx => ⟨(h2 i c x hc hx).1.kind, (h2 i c x hc hx).1.n, (h2 i c x hc hx).1.s⟩) (fun i c x hc hx => (h2 i c x hc hx).1.l), Val.allL_iff.2 (fun x hx => ?_)⟩
  obtain ⟨i, hi⟩ := List.mem_iff_getElem?.1 hx
  have hil : i < ys.length := by rw [h1]; exact (List.getElem?_eq_some_iff.1 hi).1
  exact (h2 i _ x (List.getElem?_eq_getElem hil) hi).2
theorem k_int : Tryz.prog.cellsOf 3 = 1 := by kernel_rfl
theorem k_i64 : Tryz.prog.cellsOf 2 = 1 := by kernel_rfl
theorem k_str : Tryz.prog.cellsOf 9 = 1 := by kernel_rfl
theorem k_vals : Tryz.prog.cellsOf 23 = 1 := by kernel_rfl
theorem k_val : Tryz.prog.cellsOf 63 = 4 := by kernel_rfl
theorem k_ins : Tryz.prog.cellsOf 45 = 2 := by kernel_rfl
theorem k_code : Tryz.prog.cellsOf 22 = 1 := by kernel_rfl
theorem k_names : Tryz.prog.cellsOf 24 = 1 := by kernel_rfl
theorem k_img : Tryz.prog.cellsOf 26 = 4 := by kernel_rfl
set_option maxRecDepth 100000 in
theorem open_val : ∀ (fuel : Nat) (cs : List Value) (x : DataW H × List MemPlace), cs.length = 4 → DataW.trod tok Tryz.prog w base spare held fuel 63 cs = some x → ∃ y : VC, cs = enc y ∧ ∃ v : Val, CF (fun j => j < w.heap.size) w y v ∧ v.all B64 := by
  intro fuel
  induction fuel using Nat.strongRecOn with
  | _ fuel ih =>
    intro cs x hl h
    obtain ⟨xs, n, rfl, rfl, _, hxl, hf⟩ := DataW.trod_struct Tryz.underlying63 h
    obtain ⟨c0, c1, c2, c3, rfl⟩ := fields4 hl
    match xs, hxl with
    | [x0, x1, x2, x3], _ =>
      have h0 := hf 0 _ rfl
      have h1 := hf 1 _ rfl
      have h2 := hf 2 _ rfl
      have h3 := hf 3 _ rfl
      simp [k_int, k_i64, k_str, k_vals] at h0 h1 h2 h3
      obtain ⟨n0, e0, _, b0⟩ := DataW.trod_int Tryz.underlying3 h0
      obtain ⟨n1, e1, _, b1⟩ := DataW.trod_int Tryz.underlying2 h1
      obtain ⟨s2, e2, _, _⟩ := DataW.trod_string Tryz.underlying9 h2
      obtain ⟨la, ln, lc, e3, ys, hr, hq⟩ := open_rd (α := VC) (Q := fun y => ∃ v : Val, CF (fun j => j < w.heap.size) w y v ∧ v.all B64) Tryz.underlying23 k_val (by decide) ⟨0, 0, .empty, none, 0, 0⟩ (fun m hm cs x hcl ht => ih m (by omega) cs x hcl ht) h3
      simp at e0 e1 e2 e3
      subst e0 e1 e2 e3
      obtain ⟨l, hvf, hall⟩ := list_vf hr hq
      refine ⟨⟨n0, n1, s2, la, ln, lc⟩, rfl, .mk n0 n1 s2 l, ⟨rfl, rfl, rfl, hvf⟩, ?_⟩
      rw [Val.all]
      exact ⟨⟨lit64 b0, lit64 b1⟩, hall⟩
set_option maxRecDepth 100000 in
/-- an image that is an argument -/
theorem open_image {r : Reach} {b0 : Nat} {v : Value} {d : DataW H} {p : List MemPlace} (hv : Value.okWide Tryz.prog w r b0 26 v) (h : DataW.Trod tok Tryz.prog w base spare held 26 v d p) :
    ∃ (i : IC) (im : Img), v = .agg #[.slice i.ca i.cn i.cc, .slice i.ka i.kn i.kc, .slice i.na i.nn i.nc, .int .i64 i.pl] ∧ IAt (fun j => j < w.heap.size) w i im ∧ Val.all.allL B64 im.consts ∧ (∀ c ∈ im.code, -9223372036854775808 ≤ c.a ∧ c.a ≤ 9223372036854775807) := by
  obtain ⟨cs, rfl, hsz⟩ := okWide_struct Tryz.underlying26 hv
  obtain ⟨fuel, hf⟩ := h
  rw [k_img] at hsz
  have hl4 : cs.toList.length = 4 := by simpa using hsz
  obtain ⟨xs, n, rfl, _, _, hxl, hf⟩ := DataW.trod_struct Tryz.underlying26 hf
  obtain ⟨c0, c1, c2, c3, hl⟩ := fields4 hl4
  match xs, hxl with
  | [x0, x1, x2, x3], _ =>
    have h0 := hf 0 _ rfl
    have h1 := hf 1 _ rfl
    have h2 := hf 2 _ rfl
    have h3 := hf 3 _ rfl
    simp [Value.cells, hl, k_int, k_code, k_names, k_vals] at h0 h1 h2 h3
    obtain ⟨ca, cn, cc, e0, ys0, r0, q0⟩ := open_rd (α := In) (Q := fun y => -9223372036854775808 ≤ y.a ∧ y.a ≤ 9223372036854775807) Tryz.underlying22 k_ins (by decide) ⟨0, 0⟩ (fun m hm cs x hcl ht => by
      obtain ⟨us, m2, _, _, _, hul, hg⟩ := DataW.trod_struct Tryz.underlying45 ht
      match cs, hcl with
      | [u, v], _ =>
        match us, hul with
        | [y0, y1], _ =>
          have g0 := hg 0 _ rfl
          have g1 := hg 1 _ rfl
          simp [k_int] at g0 g1
          obtain ⟨m0, f0, _, _⟩ := DataW.trod_int Tryz.underlying3 g0
          obtain ⟨m1, f1, _, b1⟩ := DataW.trod_int Tryz.underlying3 g1
          simp at f0 f1
          subst f0 f1
          exact ⟨⟨m0, m1⟩, rfl, lit64 b1⟩) h0
    obtain ⟨ka, kn, kc, e1, ys1, r1, q1⟩ := open_rd (α := VC) (Q := fun y => ∃ v : Val, CF (fun j => j < w.heap.size) w y v ∧ v.all B64) Tryz.underlying23 k_val (by decide) ⟨0, 0, .empty, none, 0, 0⟩ (fun m _ cs x hcl ht => open_val m cs x hcl ht) h1
    obtain ⟨na, nn, nc, e2, ys2, r2, _⟩ := open_rd (α := ByteArray) (Q := fun _ => True) Tryz.underlying24 k_str (by decide) .empty (fun m hm cs x hcl ht => by
      obtain ⟨s, e, _, _⟩ := DataW.trod_string Tryz.underlying9 ht
      exact ⟨s, e, trivial⟩) h2
    obtain ⟨pl, e3, _, _⟩ := DataW.trod_int Tryz.underlying3 h3
    simp at e0 e1 e2 e3
    subst e0 e1 e2 e3
    obtain ⟨l, hvf, hall⟩ := list_vf r1 q1
    refine ⟨⟨ca, cn, cc, ka, kn, kc, na, nn, nc, pl⟩, ⟨ys0, l, ys2, pl⟩, ?_, ⟨r0, hvf, r2, rfl⟩, hall, q0⟩
    congr 1
    exact Array.ext' (by simpa using hl)
end
/-- values of a size with which this is tried may be -/
theorem wf_of : ∀ {x : Val}, x.all B64 → x.all (fun _ _ s => s.size ≤ 1100) → x.wf
  | .mk k n s l, h1, h2 => by
    rw [Val.all] at h1 h2
    rw [Val.wf]
    exact ⟨h1.1.1, h1.1.2, by have := h2.1; omega, wfL_of h1.2 h2.2⟩
where wfL_of : ∀ {l : List Val}, Val.all.allL B64 l → Val.all.allL (fun _ _ s => s.size ≤ 1100) l → Val.wf.wfL l
  | [], _, _ => by rw [Val.wf.wfL]; trivial
  | x :: r, h1, h2 => by
    rw [Val.all.allL] at h1 h2
    rw [Val.wf.wfL]
    exact ⟨wf_of h1.1 h2.1, wfL_of h1.2 h2.2⟩
end Go.Proofs.YtielnengimninaaGreatDoor
