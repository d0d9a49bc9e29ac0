/- The heap, as plain Lean: items in a list, and where each key stands. -/
import Derived.Test.YtkhphnidopbjjaaLib
namespace Go.Hm
open Go.Own Go.Own.MapTy

/-- a key -/
structure Ky where
  run : Int
  kind : Int
  id : Int
deriving DecidableEq

/-- an item: run, kind, id, due, seq -/
structure It where
  run : Int
  kind : Int
  id : Int
  due : Int
  seq : Int
deriving DecidableEq

instance : Inhabited It := ⟨⟨0, 0, 0, 0, 0⟩⟩

def It.key (x : It) : Ky := ⟨x.run, x.kind, x.id⟩
def i64ok (n : Int) : Prop := -9223372036854775808 ≤ n ∧ n ≤ 9223372036854775807
def Ky.ok (k : Ky) : Prop := i64ok k.run ∧ i64ok k.kind ∧ i64ok k.id
def It.ok (x : It) : Prop := x.key.ok ∧ i64ok x.due ∧ 0 ≤ x.seq ∧ x.seq ≤ 18446744073709551615

def itEnc (x : It) : List Value := [.int .i64 x.run, .int .i64 x.kind, .int .i64 x.id, .int .i64 x.due, .int .u64 x.seq]
instance : Cells It where
  sz := 5
  enc := itEnc
  len := fun _ => rfl
  one := by
    intro x v hv
    simp [itEnc] at hv
    rcases hv with rfl | rfl | rfl | rfl | rfl <;> rfl

theorem row_cells {w : World} {e : TypeId} {xs : List It} {g off n cap : Nat} (h : RowAt w e (.slice (some ⟨g, off, none⟩) n cap) xs) {i : Nat} {x : It} (hx : xs[i]? = some x) :
    w.cell? ⟨g, off + i * 5, none⟩ = some (.int .i64 x.run) ∧ w.cell? ⟨g, off + i * 5 + 1, none⟩ = some (.int .i64 x.kind) ∧ w.cell? ⟨g, off + i * 5 + 2, none⟩ = some (.int .i64 x.id) ∧
    w.cell? ⟨g, off + i * 5 + 3, none⟩ = some (.int .i64 x.due) ∧ w.cell? ⟨g, off + i * 5 + 4, none⟩ = some (.int .u64 x.seq) :=
  ⟨h.cell hx (j := 0) (by decide), h.cell hx (j := 1) (by decide), h.cell hx (j := 2) (by decide), h.cell hx (j := 3) (by decide), h.cell hx (j := 4) (by decide)⟩

def kyVal (k : Ky) : Value := .agg #[.int .i64 k.run, .int .i64 k.kind, .int .i64 k.id]
def KM : MapTy Ky Int where
  ke := kyVal
  ve := fun n => .int .i64 n
  inj := by
    intro a b h
    cases a; cases b
    simp [kyVal] at h
    simp [h]

def cmpI (a b : Int) : Int := if a < b then -1 else if b < a then 1 else 0
def cmpIt (a b : It) : Int := if cmpI a.due b.due ≠ 0 then cmpI a.due b.due else cmpI a.seq b.seq

/-- what a heap holds -/
structure Hp where
  L : List It
  M : List (Ky × Int)
  seq : Int

def Hp.set (s : Hp) (i : Nat) (x : It) : Hp := { s with L := s.L.set i x, M := upd s.M x.key i }

def Hp.up : Nat → Hp → Nat → It → Hp
  | 0, s, i, x => s.set i x
  | f + 1, s, i, x =>
    if i = 0 then s.set i x
    else if cmpIt (s.L.getD ((i - 1) / 2) default) x ≤ 0 then s.set i x
    else Hp.up f (s.set i (s.L.getD ((i - 1) / 2) default)) ((i - 1) / 2) x

/-- the place of the earlier one of two below a place -/
def Hp.kid (s : Hp) (i : Nat) : Nat :=
  if 2 * i + 1 + 1 < s.L.length ∧ cmpIt (s.L.getD (2 * i + 1 + 1) default) (s.L.getD (2 * i + 1) default) < 0 then 2 * i + 1 + 1 else 2 * i + 1

def Hp.down : Nat → Hp → Nat → It → Hp
  | 0, s, i, x => s.set i x
  | f + 1, s, i, x =>
    if s.L.length ≤ 2 * i + 1 then s.set i x
    else if cmpIt x (s.L.getD (s.kid i) default) ≤ 0 then s.set i x
    else Hp.down f (s.set i (s.L.getD (s.kid i) default)) (s.kid i) x

theorem getD_of {L : List It} {p : Nat} {y : It} (h : L[p]? = some y) : L.getD p default = y := by simp [List.getD_eq_getElem?_getD, h]
theorem set_len (s : Hp) (i : Nat) (x : It) : (s.set i x).L.length = s.L.length := by simp [Hp.set]

theorem up_zero (f : Nat) (s : Hp) (x : It) : Hp.up f s 0 x = s.set 0 x := by
  cases f <;> simp [Hp.up]
theorem up_stop {f : Nat} {s : Hp} {k : Nat} {x y : It} (h : s.L[(k - 1) / 2]? = some y) (hc : cmpIt y x ≤ 0) : Hp.up f s k x = s.set k x := by
  cases f with
  | zero => rfl
  | succ f =>
    rw [Hp.up, getD_of h, if_pos hc]
    split <;> rfl
theorem up_go {f : Nat} {s : Hp} {k : Nat} {x y : It} (h : s.L[(k - 1) / 2]? = some y) (hc : ¬ cmpIt y x ≤ 0) (hk : 0 < k) (hf : k ≤ f) : Hp.up f s k x = Hp.up (f - 1) (s.set k y) ((k - 1) / 2) x := by
  cases f with
  | zero => omega
  | succ f =>
    rw [Hp.up, getD_of h, if_neg (by omega), if_neg hc]
    rfl

theorem down_end {f : Nat} {s : Hp} {k : Nat} {x : It} (h : s.L.length ≤ 2 * k + 1) : Hp.down f s k x = s.set k x := by
  cases f with
  | zero => rfl
  | succ f => rw [Hp.down, if_pos h]
theorem down_stop {f : Nat} {s : Hp} {k c : Nat} {x y : It} (hk : s.kid k = c) (h : s.L[c]? = some y) (hc : cmpIt x y ≤ 0) : Hp.down f s k x = s.set k x := by
  cases f with
  | zero => rfl
  | succ f =>
    rw [Hp.down, hk, getD_of h, if_pos hc]
    split <;> rfl
theorem down_go {f : Nat} {s : Hp} {k c : Nat} {x y : It} (hn : ¬ s.L.length ≤ 2 * k + 1) (hk : s.kid k = c) (h : s.L[c]? = some y) (hc : ¬ cmpIt x y ≤ 0) (hf : s.L.length ≤ f + k) : Hp.down f s k x = Hp.down (f - 1) (s.set k y) c x := by
  cases f with
  | zero => omega
  | succ f =>
    rw [Hp.down, hk, getD_of h, if_neg hn, if_neg hc]
    rfl
theorem kid_one {s : Hp} {k : Nat} (h : ¬ 2 * k + 1 + 1 < s.L.length) : s.kid k = 2 * k + 1 := by
  unfold Hp.kid; rw [if_neg (fun e => h e.1)]
theorem kid_left {s : Hp} {k : Nat} {a b : It} (ha : s.L[2 * k + 1]? = some a) (hb : s.L[2 * k + 1 + 1]? = some b) (h : ¬ cmpIt b a < 0) : s.kid k = 2 * k + 1 := by
  unfold Hp.kid; rw [getD_of ha, getD_of hb, if_neg (fun e => h e.2)]
theorem kid_right {s : Hp} {k : Nat} {a b : It} (ha : s.L[2 * k + 1]? = some a) (hb : s.L[2 * k + 1 + 1]? = some b) (h : cmpIt b a < 0) : s.kid k = 2 * k + 1 + 1 := by
  unfold Hp.kid; rw [getD_of ha, getD_of hb, if_pos ⟨(List.getElem?_eq_some_iff.1 hb).1, h⟩]
theorem kid_gt (s : Hp) (k : Nat) : k < s.kid k := by unfold Hp.kid; split <;> omega

/-- the item at a place is gone -/
def Hp.cutAt (s : Hp) (i : Nat) : Hp := { s with L := s.L.take (s.L.length - 1), M := del s.M (s.L.getD i default).key }
def Hp.take (s : Hp) (i : Nat) : Hp :=
  if i < s.L.length - 1 then
    Hp.down (s.L.length - 1) (Hp.up i ((s.cutAt i).set i (s.L.getD (s.L.length - 1) default)) i (s.L.getD (s.L.length - 1) default))
      ((get (Hp.up i ((s.cutAt i).set i (s.L.getD (s.L.length - 1) default)) i (s.L.getD (s.L.length - 1) default)).M (s.L.getD (s.L.length - 1) default).key).getD 0).toNat (s.L.getD (s.L.length - 1) default)
  else s.cutAt i

theorem up_len (f : Nat) : ∀ (s : Hp) (i : Nat) (x : It), (Hp.up f s i x).L.length = s.L.length := by
  induction f with
  | zero => intro s i x; simp [Hp.up, Hp.set]
  | succ f ih =>
    intro s i x
    rw [Hp.up]
    split
    · simp [Hp.set]
    · split
      · simp [Hp.set]
      · rw [ih, set_len]
theorem set_at (s : Hp) (i : Nat) (x : It) (h : i < s.L.length) : ∃ j : Nat, get (s.set i x).M x.key = some (j : Int) ∧ (s.set i x).L[j]? = some x :=
  ⟨i, by simp [Hp.set, get_upd], by simp [Hp.set, h]⟩
theorem up_at (f : Nat) : ∀ (s : Hp) (i : Nat) (x : It), i < s.L.length → ∃ j : Nat, get (Hp.up f s i x).M x.key = some (j : Int) ∧ (Hp.up f s i x).L[j]? = some x := by
  induction f with
  | zero => intro s i x h; exact set_at s i x h
  | succ f ih =>
    intro s i x h
    rw [Hp.up]
    split
    · exact set_at s i x h
    · split
      · exact set_at s i x h
      · exact ih _ _ _ (by rw [set_len]; omega)

/-- a thing that is due at a tick; the error's number -/
def Hp.put (s : Hp) (k : Ky) (due : Int) : Hp × Int :=
  if (get s.M k).isSome then (s, 5)
  else if 16384 ≤ s.L.length then (s, 3)
  else (Hp.up s.L.length { L := s.L ++ [⟨k.run, k.kind, k.id, due, s.seq + 1⟩], M := s.M, seq := s.seq + 1 } s.L.length ⟨k.run, k.kind, k.id, due, s.seq + 1⟩, 0)
theorem put_twice {s : Hp} {k : Ky} {due : Int} (h : (get s.M k).isSome = true) : s.put k due = (s, 5) := by unfold Hp.put; rw [if_pos h]
theorem put_full {s : Hp} {k : Ky} {due : Int} (h : (get s.M k).isSome = false) (h2 : 16384 ≤ s.L.length) : s.put k due = (s, 3) := by unfold Hp.put; rw [if_neg (by simp [h]), if_pos h2]
theorem put_new {s : Hp} {k : Ky} {due : Int} (h : (get s.M k).isSome = false) (h2 : ¬ 16384 ≤ s.L.length) :
    s.put k due = (Hp.up s.L.length { L := s.L ++ [⟨k.run, k.kind, k.id, due, s.seq + 1⟩], M := s.M, seq := s.seq + 1 } s.L.length ⟨k.run, k.kind, k.id, due, s.seq + 1⟩, 0) := by unfold Hp.put; rw [if_neg (by simp [h]), if_neg h2]

end Go.Hm
