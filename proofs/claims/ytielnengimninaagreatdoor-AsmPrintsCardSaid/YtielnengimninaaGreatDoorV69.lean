/- what a line of a program says, and what lines are read as: plain. what lines are read as, put together: plain. a printed program is read as that program, in order: plain. the labels of a printed program; asm.Parse behind asm.Print: plain. -/
import Derived.Test.YtielnengimninaaGreatDoorV54
import Derived.Test.YtielnengimninaaGreatDoorV55
namespace Go.Proofs.YtielnengimninaaGreatDoor
open Go.RowKit Go.Own Go.Own.MapTy Go.Va Go.Sort
theorem findFrom_get {name : ByteArray} : ∀ {n k j : Nat}, findFrom name n k = some j → k ≤ j ∧ j < k + n ∧ (ofL j).1.name.data.toList = name.data.toList
  | 0, _, _, h => by cases h
  | n + 1, k, j, h => by
    rw [findFrom] at h
    cases hc : ((ofL k).2 && (ofL k).1.name.data.toList == name.data.toList) with
    | true =>
      rw [hc] at h
      cases h
      rw [Bool.and_eq_true, beq_iff_eq] at hc
      exact ⟨Nat.le_refl _, by omega, hc.2⟩
    | false =>
      rw [hc] at h
      have := findFrom_get h
      exact ⟨by omega, by omega, this.2.2⟩
def mkL (x : List UInt8) : ByteArray := ⟨x.toArray⟩
/-- behind the lines -/
def asmT (ls : List ByteArray) : Img × Int × Int :=
  let q := linesR ls 0 st0
  bif q.1.2 != 0 then (noImg, q.1.1, q.1.2) else
  let j := jumpsR q.2.labels q.2.jumps q.2.code
  bif j.1.2 != 0 then (noImg, j.1.1, j.1.2) else
  let p : Img := ⟨j.2, q.2.consts, q.2.names, q.2.places⟩
  bif imgL p != 0 then (noImg, 0, imgL p) else (p, 0, 0)
theorem asmL_T {s : ByteArray} {ls : List (List UInt8)} (h0 : 0 < ls.length) (hs : s.data.toList = textB ls) (hn : ∀ x ∈ ls, 10 ∉ x) (hb : s.size ≤ 65536) : asmL s = asmT (ls.map mkL) := by
  cases ls with
  | nil => simp at h0
  | cons l r =>
    unfold asmL
    rw [decide_eq_false (show ¬ 65536 < s.size by omega), hs, suffix_text]
    simp only [cond_false, Bool.not_true]
    rw [textL_eq hs hn]
    rfl
/-- what a line says -/
inductive LM where
  | lab (l : ByteArray)
  | ins (op : Int) (a : Arg)
  | jmp (op : Int) (l : ByteArray)
  | bad (e : Int)
def operM (op kind : Int) (s : ByteArray) : LM :=
  if kind = 1 then (if (parseV s.data.toList).2 ≠ 0 then .bad (parseV s.data.toList).2 else .ins op (.val (parseV s.data.toList).1)) else
  if kind = 2 then (match quotedL s.data.toList with
    | none => .bad 8
    | some n => .ins op (.name n)) else
  if kind = 4 then (if labL s.data.toList = true then .jmp op s else .bad 8) else
  match numberL s.data.toList with
  | none => .bad 8
  | some n => .ins op (if kind = 3 then .place n else .int n)
def lineM (s : ByteArray) : LM :=
  if isLab s = true then .lab (trimB s) else
  if Lib.hasPrefix s.data.toList [32, 32] = false then .bad 8 else
  match findL (cutN s) with
  | none => .bad 110
  | some op =>
    if cutM s ≠ ((ofL op).1.operand != 0) then .bad 8 else
    if cutM s = true then operM op (ofL op).1.operand (cutR s) else .ins op (.int 0)
/-- the state behind a jump -/
def putJ (op n : Int) (l : ByteArray) (st : RSt) : RSt := { st with jumps := st.jumps ++ [⟨st.code.length, n, l⟩], code := st.code ++ [⟨op, 0⟩] }
/-- a line is read as it says -/
theorem lineL_M (n : Int) (s : ByteArray) (st : RSt) : match lineM s with
    | .lab l => lineL n s st = if (MapTy.get st.labels l).isSome = true then (5, st) else (0, { st with labels := upd st.labels l st.code.length })
    | .ins op a => lineL n s st = (0, putI (op, a) st)
    | .jmp op l => lineL n s st = (0, putJ op n l st)
    | .bad e => e ≠ 0 ∧ ∃ st', lineL n s st = (e, st') := by
  unfold lineM
  by_cases h1 : isLab s = true
  · rw [if_pos h1]
    dsimp only
    unfold lineL
    rw [if_pos h1]
  · rw [if_neg h1]
    by_cases h2 : Lib.hasPrefix s.data.toList [32, 32] = false
    · rw [if_pos h2]
      dsimp only
      refine ⟨by decide, st, ?_⟩
      unfold lineL
      rw [if_neg h1, if_pos h2]
    · rw [if_neg h2]
      cases h3 : findL (cutN s) with
      | none =>
        dsimp only
        refine ⟨by decide, st, ?_⟩
        unfold lineL
        rw [if_neg h1, if_neg h2, h3]
      | some op =>
        dsimp only
        by_cases h4 : cutM s ≠ ((ofL op).1.operand != 0)
        · rw [if_pos h4]
          dsimp only
          refine ⟨by decide, st, ?_⟩
          unfold lineL
          rw [if_neg h1, if_neg h2, h3]
          dsimp only
          rw [if_pos h4]
        · rw [if_neg h4]
          have hL : lineL n s st = (if cutM s = true then (if (operL (ofL op).1.operand n (cutR s) st).2.1 ≠ 0 then ((operL (ofL op).1.operand n (cutR s) st).2.1, (operL (ofL op).1.operand n (cutR s) st).2.2) else
      (0, { (operL (ofL op).1.operand n (cutR s) st).2.2 with code := (operL (ofL op).1.operand n (cutR s) st).2.2.code ++ [⟨op, (operL (ofL op).1.operand n (cutR s) st).1⟩] })) else
    (0, { st with code := st.code ++ [⟨op, 0⟩] })) := by
            unfold lineL
            rw [if_neg h1, if_neg h2, h3]
            dsimp only
            rw [if_neg h4]
          by_cases h5 : cutM s = true
          · rw [if_pos h5]
            rw [if_pos h5] at hL
            rw [hL]
            clear hL
            generalize (ofL op).1.operand = k
            unfold operM
            by_cases k1 : k = 1
            · have ho : operL k n (cutR s) st = (if (parseV (cutR s).data.toList).2 ≠ 0 then (0, (parseV (cutR s).data.toList).2, st) else (((addV (parseV (cutR s).data.toList).1 st.consts).1 : Int), 0, { st with consts := (addV (parseV (cutR s).data.toList).1 st.consts).2 })) := by unfold operL; rw [if_pos k1]
              rw [ho, if_pos k1]
              by_cases h6 : (parseV (cutR s).data.toList).2 ≠ 0
              · rw [if_pos h6, if_pos h6]
                exact ⟨h6, st, by rw [if_pos h6]⟩
              · rw [if_neg h6, if_neg h6]
                rfl
            · rw [if_neg k1]
              by_cases k2 : k = 2
              · rw [if_pos k2]
                cases hq : quotedL (cutR s).data.toList with
                | none =>
                  have ho : operL k n (cutR s) st = (0, 8, st) := by unfold operL; rw [if_neg k1, if_pos k2, hq]
                  rw [ho]
                  exact ⟨by decide, st, rfl⟩
                | some nm =>
                  have ho : operL k n (cutR s) st = (((addN nm st.names).1 : Int), 0, { st with names := (addN nm st.names).2 }) := by unfold operL; rw [if_neg k1, if_pos k2, hq]
                  rw [ho]
                  rfl
              · rw [if_neg k2]
                by_cases k4 : k = 4
                · have ho : operL k n (cutR s) st = (if labL (cutR s).data.toList = true then (0, 0, { st with jumps := st.jumps ++ [⟨st.code.length, n, cutR s⟩] }) else (0, 8, st)) := by unfold operL; rw [if_neg k1, if_neg k2, if_pos k4]
                  rw [ho, if_pos k4]
                  by_cases h6 : labL (cutR s).data.toList = true
                  · rw [if_pos h6, if_pos h6]
                    rfl
                  · rw [if_neg h6, if_neg h6]
                    exact ⟨by decide, st, rfl⟩
                · rw [if_neg k4]
                  cases hq : numberL (cutR s).data.toList with
                  | none =>
                    have ho : operL k n (cutR s) st = (0, 8, st) := by unfold operL; rw [if_neg k1, if_neg k2, if_neg k4, hq]
                    rw [ho]
                    exact ⟨by decide, st, rfl⟩
                  | some nm =>
                    have ho : operL k n (cutR s) st = ((nm : Int), 0, if k = 3 then { st with places := max st.places (nm + 1) } else st) := by unfold operL; rw [if_neg k1, if_neg k2, if_neg k4, hq]
                    rw [ho]
                    dsimp only
                    by_cases k3 : k = 3
                    · rw [if_pos k3, if_pos k3]
                      rfl
                    · rw [if_neg k3, if_neg k3]
                      rfl
          · rw [if_neg h5]
            rw [if_neg h5] at hL
            exact hL
/-- does what a line says fit its instruction? -/
def fitM : LM → Prop
  | .lab _ => True
  | .ins op a => fitA (op, a) ∧ (ofL op).2 = true ∧ (∀ x, a = .val x → checkL x = 0) ∧ (∀ k, a = .int k → (ofL op).1.operand ≠ 4 ∧ 0 ≤ k ∧ ((ofL op).1.operand = 0 → k = 0))
  | .jmp op _ => (ofL op).1.operand = 4 ∧ (ofL op).2 = true
  | .bad _ => True
theorem parseV_check {s : List UInt8} (h : (parseV s).2 = 0) : checkL (parseV s).1 = 0 := by
  unfold parseV at h ⊢
  cases hv : valR 8 s 0 with
  | deep => rw [hv] at h; simp at h
  | bad => rw [hv] at h; simp at h
  | ok x k =>
    rw [hv] at h
    dsimp only at h ⊢
    by_cases h1 : k < s.length
    · rw [if_pos h1] at h; simp at h
    · rw [if_neg h1] at h ⊢
      by_cases h2 : checkL x ≠ 0
      · rw [if_pos h2] at h; exact absurd h h2
      · rw [if_neg h2]
        simpa using h2
theorem line_fit (s : ByteArray) : fitM (lineM s) := by
  unfold lineM
  split
  · trivial
  · split
    · trivial
    · split
      · trivial
      · rename_i op hf
        have hop : (ofL (op : Int)).2 = true := by
          obtain ⟨_, hk, _⟩ := findFrom_get hf
          exact ok_fin ⟨op, by omega⟩
        split
        · trivial
        · rename_i h4
          have h4 : cutM s = ((ofL op).1.operand != 0) := by simpa using h4
          split
          · rename_i h5
            have hk0 : (ofL op).1.operand ≠ 0 := by rw [h5] at h4; simpa using h4.symm
            generalize hk : (ofL op).1.operand = k at *
            unfold operM
            split
            · rename_i k1
              split
              · trivial
              · rename_i h6
                refine ⟨by show (ofL op).1.operand = 1; rw [hk, k1], hop, fun x e => ?_, fun j e => (by cases e)⟩
                cases e
                exact parseV_check (by simpa using h6)
            · rename_i k1
              split
              · rename_i k2
                cases quotedL (cutR s).data.toList with
                | none => trivial
                | some nm => exact ⟨by show (ofL op).1.operand = 2; rw [hk, k2], hop, fun x e => (by cases e), fun j e => (by cases e)⟩
              · rename_i k2
                split
                · rename_i k4
                  split
                  · exact ⟨by rw [hk, k4], hop⟩
                  · trivial
                · rename_i k4
                  cases numberL (cutR s).data.toList with
                  | none => trivial
                  | some nm =>
                    dsimp only
                    by_cases k3 : k = 3
                    · rw [if_pos k3]
                      exact ⟨⟨by rw [hk, k3], by omega⟩, hop, fun x e => (by cases e), fun j e => (by cases e)⟩
                    · rw [if_neg k3]
                      refine ⟨⟨by rw [hk]; exact k1, by rw [hk]; exact k2, by rw [hk]; exact k3⟩, hop, fun x e => (by cases e), fun j e => ?_⟩
                      cases e
                      exact ⟨by rw [hk]; exact k4, by omega, fun e => absurd (hk ▸ e) hk0⟩
          · rename_i h5
            have hk0 : (ofL op).1.operand = 0 := by
              have : cutM s = false := by simpa using h5
              rw [this] at h4
              simpa using h4.symm
            refine ⟨⟨by rw [hk0]; decide, by rw [hk0]; decide, by rw [hk0]; decide⟩, hop, fun x e => (by cases e), fun j e => ?_⟩
            cases e
            exact ⟨by rw [hk0]; decide, Int.le_refl _, fun _ => rfl⟩
end Go.Proofs.YtielnengimninaaGreatDoor
namespace Go.Proofs.YtielnengimninaaGreatDoor
open Go.RowKit Go.Own Go.Own.MapTy Go.Va Go.Sort
/-- the state behind what a line says -/
def stepM (n : Int) (m : LM) (st : RSt) : Option RSt :=
  match m with
  | .lab l => if (MapTy.get st.labels l).isSome = true then none else some { st with labels := upd st.labels l st.code.length }
  | .ins op a => some (putI (op, a) st)
  | .jmp op l => some (putJ op n l st)
  | .bad _ => none
def runM : List LM → Nat → RSt → Option RSt
  | [], _, st => some st
  | m :: r, n, st => match stepM ((n : Int) + 1) m st with
    | some st' => runM r (n + 1) st'
    | none => none
/-- lines that say what may be said are read -/
theorem linesR_run : ∀ (ls : List ByteArray) (n : Nat) (st st' : RSt), runM (ls.map lineM) n st = some st' → linesR ls n st = ((0, 0), st')
  | [], _, st, st', h => by cases h; rfl
  | l :: r, n, st, st', h => by
    rw [List.map_cons, runM] at h
    have hL := lineL_M ((n : Int) + 1) l st
    rw [linesR]
    cases hm : lineM l with
    | lab x =>
      rw [hm] at h hL
      dsimp only [stepM] at h hL
      by_cases hx : (MapTy.get st.labels x).isSome = true
      · rw [if_pos hx] at h; cases h
      · rw [if_neg hx] at h hL
        rw [hL]
        exact linesR_run r (n + 1) _ st' h
    | ins op a =>
      rw [hm] at h hL
      dsimp only [stepM] at h hL
      rw [hL]
      exact linesR_run r (n + 1) _ st' h
    | jmp op x =>
      rw [hm] at h hL
      dsimp only [stepM] at h hL
      rw [hL]
      exact linesR_run r (n + 1) _ st' h
    | bad e => rw [hm] at h; cases h
/-- the instructions, their jumps still open, or ended by L -/
def genC (L : ByteArray → Int) : List LM → List Val → List ByteArray → List In
  | [], _, _ => []
  | .lab _ :: r, c, n => genC L r c n
  | .bad _ :: r, c, n => genC L r c n
  | .jmp op l :: r, c, n => ⟨op, L l⟩ :: genC L r c n
  | .ins op (.val x) :: r, c, n => ⟨op, ((addV x c).1 : Nat)⟩ :: genC L r (addV x c).2 n
  | .ins op (.name x) :: r, c, n => ⟨op, ((addN x n).1 : Nat)⟩ :: genC L r c (addN x n).2
  | .ins op (.place x) :: r, c, n => ⟨op, x⟩ :: genC L r c n
  | .ins op (.int x) :: r, c, n => ⟨op, x⟩ :: genC L r c n
/-- the instructions, their jumps ended by L -/
def resM (L : ByteArray → Int) : List LM → List (Int × Arg)
  | [] => []
  | .lab _ :: r => resM L r
  | .bad _ :: r => resM L r
  | .jmp op l :: r => (op, .int (L l)) :: resM L r
  | .ins op a :: r => (op, a) :: resM L r
theorem res_gen (L L' : ByteArray → Int) : ∀ (ms : List LM) (st st' : RSt), st.consts = st'.consts → st.names = st'.names → st.places = st'.places →
    (putsI (resM L ms) st).code = st.code ++ genC L ms st.consts st.names ∧ (putsI (resM L ms) st).consts = (putsI (resM L' ms) st').consts ∧ (putsI (resM L ms) st).names = (putsI (resM L' ms) st').names ∧ (putsI (resM L ms) st).places = (putsI (resM L' ms) st').places
  | [], st, st', h1, h2, h3 => ⟨by rw [resM, putsI, genC, List.append_nil], h1, h2, h3⟩
  | .lab _ :: r, st, st', h1, h2, h3 => res_gen L L' r st st' h1 h2 h3
  | .bad _ :: r, st, st', h1, h2, h3 => res_gen L L' r st st' h1 h2 h3
  | .jmp op l :: r, st, st', h1, h2, h3 => by
    have h := res_gen L L' r (putI (op, .int (L l)) st) (putI (op, .int (L' l)) st') h1 h2 h3
    rw [resM, putsI, resM, putsI, genC]
    refine ⟨h.1.trans ?_, h.2⟩
    show (st.code ++ [_]) ++ genC L r st.consts st.names = _
    rw [List.append_assoc]
    rfl
  | .ins op a :: r, st, st', h1, h2, h3 => by
    have h := res_gen L L' r (putI (op, a) st) (putI (op, a) st') (by
      cases a with
      | val x => show (addV x st.consts).2 = (addV x st'.consts).2; rw [h1]
      | _ => exact h1) (by
      cases a with
      | name x => show (addN x st.names).2 = (addN x st'.names).2; rw [h2]
      | _ => exact h2) (by
      cases a with
      | place x => show max st.places (x + 1) = max st'.places (x + 1); rw [h3]
      | _ => exact h3)
    rw [resM, putsI, resM, putsI]
    refine ⟨h.1.trans ?_, h.2⟩
    cases a <;>
    · rw [genC]
      show (st.code ++ [_]) ++ _ = _
      rw [List.append_assoc]
      rfl
/-- the labels, each with the number of instructions ahead of it -/
def labsM : List LM → Nat → List (ByteArray × Nat)
  | [], _ => []
  | .lab l :: r, k => (l, k) :: labsM r k
  | .bad _ :: r, k => labsM r k
  | .jmp _ _ :: r, k => labsM r (k + 1)
  | .ins _ _ :: r, k => labsM r (k + 1)
def jmpsM : List LM → Nat → Nat → List Jp
  | [], _, _ => []
  | .lab _ :: r, k, n => jmpsM r k (n + 1)
  | .bad _ :: r, k, n => jmpsM r k (n + 1)
  | .jmp _ l :: r, k, n => ⟨(k : Int), (n : Int) + 1, l⟩ :: jmpsM r (k + 1) (n + 1)
  | .ins _ _ :: r, k, n => jmpsM r (k + 1) (n + 1)
def findB (l : ByteArray) : List (ByteArray × Nat) → Option Nat
  | [] => none
  | (x, k) :: r => if x = l then some k else findB l r
theorem putI_frame (m : Int × Arg) (st : RSt) : (putI m st).labels = st.labels ∧ (putI m st).jumps = st.jumps ∧ (putI m st).code.length = st.code.length + 1 := by
  obtain ⟨op, a⟩ := m
  cases a <;> exact ⟨rfl, rfl, List.length_append⟩
/-- the state behind lines -/
theorem run_state : ∀ (ms : List LM) (n : Nat) (st st' : RSt), runM ms n st = some st' →
    (st'.code = st.code ++ genC (fun _ => 0) ms st.consts st.names ∧ st'.consts = (putsI (resM (fun _ => 0) ms) st).consts ∧ st'.names = (putsI (resM (fun _ => 0) ms) st).names ∧ st'.places = (putsI (resM (fun _ => 0) ms) st).places) ∧
    st'.jumps = st.jumps ++ jmpsM ms st.code.length n ∧
    ∀ l, MapTy.get st'.labels l = match findB l (labsM ms st.code.length) with
      | some k => some (k : Int)
      | none => MapTy.get st.labels l
  | [], n, st, st', h => by
    cases h
    exact ⟨⟨by rw [genC, List.append_nil], rfl, rfl, rfl⟩, by rw [jmpsM, List.append_nil], fun l => rfl⟩
  | .bad e :: r, n, st, st', h => by rw [runM] at h; cases h
  | .lab x :: r, n, st, st', h => by
    rw [runM] at h
    dsimp only [stepM] at h
    by_cases hx : (MapTy.get st.labels x).isSome = true
    · rw [if_pos hx] at h; cases h
    · rw [if_neg hx] at h
      obtain ⟨h1, h2, h3⟩ := run_state r (n + 1) { st with labels := upd st.labels x st.code.length } st' h
      have hp : ∀ (l : List (Int × Arg)) (s : RSt) (m : List (ByteArray × Int)), (putsI l { s with labels := m }).consts = (putsI l s).consts ∧ (putsI l { s with labels := m }).names = (putsI l s).names ∧ (putsI l { s with labels := m }).places = (putsI l s).places := by
        intro l
        induction l with
        | nil => exact fun s m => ⟨rfl, rfl, rfl⟩
        | cons y t ih =>
          intro s m
          have e : putI y { s with labels := m } = { putI y s with labels := m } := by obtain ⟨o, a⟩ := y; cases a <;> rfl
          rw [putsI, e]
          exact ih (putI y s) m
      refine ⟨⟨h1.1, h1.2.1.trans (hp _ _ _).1, h1.2.2.1.trans (hp _ _ _).2.1, h1.2.2.2.trans (hp _ _ _).2.2⟩, h2, fun l => ?_⟩
      rw [h3 l, labsM, findB]
      by_cases hl : x = l
      · rw [if_pos hl]
        subst hl
        have hf : findB x (labsM r st.code.length) = none := by
          cases hf : findB x (labsM r st.code.length) with
          | none => rfl
          | some k =>
            exfalso
            -- a label that stands twice is told
            have key : ∀ (ms : List LM) (n k : Nat) (s s' : RSt), runM ms n s = some s' → (MapTy.get s.labels x).isSome = true → findB x (labsM ms k) = none := by
              intro ms
              induction ms with
              | nil => intros; rfl
              | cons m t ih =>
                intro n k s s' hr hs
                rw [runM] at hr
                cases m with
                | bad e => cases hr
                | lab y =>
                  dsimp only [stepM] at hr
                  by_cases hy : (MapTy.get s.labels y).isSome = true
                  · rw [if_pos hy] at hr; cases hr
                  · rw [if_neg hy] at hr
                    rw [labsM, findB, if_neg (fun (e : y = x) => hy (by rw [e]; exact hs))]
                    refine ih (n + 1) k _ s' hr ?_
                    show (MapTy.get (upd s.labels y s.code.length) x).isSome = true
                    rw [get_upd]
                    split
                    · rfl
                    · exact hs
                | jmp op y => exact ih (n + 1) (k + 1) _ s' hr hs
                | ins op a =>
                  refine ih (n + 1) (k + 1) _ s' hr ?_
                  rw [(putI_frame (op, a) s).1]
                  exact hs
            have := key r (n + 1) st.code.length _ st' h (by show (MapTy.get (upd st.labels x st.code.length) x).isSome = true; rw [get_upd, if_pos rfl]; rfl)
            rw [this] at hf
            cases hf
        show (match findB x (labsM r st.code.length) with | some k => some (k : Int) | none => MapTy.get (upd st.labels x st.code.length) x) = _
        rw [hf]
        show MapTy.get (upd st.labels x st.code.length) x = some ((st.code.length : Nat) : Int)
        rw [get_upd, if_pos rfl]
      · rw [if_neg hl]
        show (match findB l (labsM r st.code.length) with | some k => some (k : Int) | none => MapTy.get (upd st.labels x st.code.length) l) = _
        cases findB l (labsM r st.code.length) with
        | some k => rfl
        | none =>
          show MapTy.get (upd st.labels x st.code.length) l = MapTy.get st.labels l
          rw [get_upd, if_neg (fun e => hl e.symm)]
  | .jmp op x :: r, n, st, st', h => by
    rw [runM] at h
    dsimp only [stepM] at h
    obtain ⟨h1, h2, h3⟩ := run_state r (n + 1) (putJ op ((n : Int) + 1) x st) st' h
    have hl : (putJ op ((n : Int) + 1) x st).code.length = st.code.length + 1 := List.length_append
    rw [hl] at h2 h3
    have hp : ∀ (l : List (Int × Arg)) (s s' : RSt), s.consts = s'.consts → s.names = s'.names → s.places = s'.places → (putsI l s).consts = (putsI l s').consts ∧ (putsI l s).names = (putsI l s').names ∧ (putsI l s).places = (putsI l s').places := by
      intro l
      induction l with
      | nil => exact fun s s' a b c => ⟨a, b, c⟩
      | cons y t ih =>
        intro s s' a b c
        rw [putsI, putsI]
        obtain ⟨o, g⟩ := y
        cases g with
        | val v => exact ih _ _ (by show (addV v s.consts).2 = (addV v s'.consts).2; rw [a]) b c
        | name v => exact ih _ _ a (by show (addN v s.names).2 = (addN v s'.names).2; rw [b]) c
        | place v => exact ih _ _ a b (by show max s.places (v + 1) = max s'.places (v + 1); rw [c])
        | int v => exact ih _ _ a b c
    have hq := hp (resM (fun _ => 0) r) (putJ op ((n : Int) + 1) x st) (putI (op, .int 0) st) rfl rfl rfl
    refine ⟨⟨?_, h1.2.1.trans hq.1, h1.2.2.1.trans hq.2.1, h1.2.2.2.trans hq.2.2⟩, ?_, fun l => ?_⟩
    · rw [h1.1, genC]
      show (st.code ++ [_]) ++ _ = _
      rw [List.append_assoc]
      rfl
    · rw [h2, jmpsM]
      show (st.jumps ++ [_]) ++ _ = _
      rw [List.append_assoc]
      rfl
    · rw [h3 l, labsM]
      rfl
  | .ins op a :: r, n, st, st', h => by
    rw [runM] at h
    dsimp only [stepM] at h
    obtain ⟨h1, h2, h3⟩ := run_state r (n + 1) (putI (op, a) st) st' h
    obtain ⟨f1, f2, f3⟩ := putI_frame (op, a) st
    rw [f3] at h2 h3
    rw [f2] at h2
    refine ⟨⟨?_, h1.2.1, h1.2.2.1, h1.2.2.2⟩, ?_, fun l => ?_⟩
    · rw [h1.1]
      cases a <;>
      · rw [genC]
        show (st.code ++ [_]) ++ _ = _
        rw [List.append_assoc]
        rfl
    · rw [h2, jmpsM]
    · rw [h3 l, labsM, f1]
theorem setA_here (pre : List In) (x : In) (r : List In) (tg : Int) : setA (pre ++ x :: r) pre.length tg = pre ++ { x with a := tg } :: r := by
  rw [setA_set (x := x) (by rw [List.getElem?_append_right (Nat.le_refl _)]; simp)]
  rw [List.set_append_right _ _ (Nat.le_refl _)]
  simp
/-- jumps whose labels stand somewhere ahead of the end are ended -/
theorem jumps_ok {labels : List (ByteArray × Int)} {L : ByteArray → Int} {len : Nat} : ∀ (ms : List LM) (n : Nat) (pre : List In) (c : List Val) (nm : List ByteArray), (∀ op l, LM.jmp op l ∈ ms → MapTy.get labels l = some (L l) ∧ L l ≠ len) → (pre ++ genC (fun _ => 0) ms c nm).length = len →
    jumpsR labels (jmpsM ms pre.length n) (pre ++ genC (fun _ => 0) ms c nm) = ((0, 0), pre ++ genC L ms c nm)
  | [], n, pre, c, nm, _, _ => rfl
  | .lab _ :: r, n, pre, c, nm, h, hl => jumps_ok r (n + 1) pre c nm (fun op l hm => h op l (List.mem_cons_of_mem _ hm)) hl
  | .bad _ :: r, n, pre, c, nm, h, hl => jumps_ok r (n + 1) pre c nm (fun op l hm => h op l (List.mem_cons_of_mem _ hm)) hl
  | .jmp op l :: r, n, pre, c, nm, h, hl => by
    obtain ⟨h1, h2⟩ := h op l List.mem_cons_self
    rw [genC] at hl ⊢
    rw [jmpsM, jumpsR]
    dsimp only
    rw [h1]
    dsimp only
    have e : (L l == (((pre ++ ⟨op, 0⟩ :: genC (fun _ => 0) r c nm).length : Nat) : Int)) = false := by rw [beq_eq_false_iff_ne, hl]; exact h2
    rw [e, cond_false]
    have ih := jumps_ok r (n + 1) (pre ++ [⟨op, L l⟩]) c nm (fun op l hm => h op l (List.mem_cons_of_mem _ hm)) (by
      rw [← hl]
      simp only [List.length_append, List.length_cons, List.length_nil]
      omega)
    rw [show (pre ++ [(⟨op, L l⟩ : In)]).length = pre.length + 1 from List.length_append, List.append_assoc, List.append_assoc] at ih
    rw [show ((pre.length : Int)).toNat = pre.length from rfl, setA_here]
    rw [genC]
    exact ih
  | .ins op a :: r, n, pre, c, nm, h, hl => by
    have key : ∀ (i : In) (c' : List Val) (nm' : List ByteArray), genC (fun _ => 0) (.ins op a :: r) c nm = i :: genC (fun _ => 0) r c' nm' → genC L (.ins op a :: r) c nm = i :: genC L r c' nm' → jumpsR labels (jmpsM (.ins op a :: r) pre.length n) (pre ++ genC (fun _ => 0) (.ins op a :: r) c nm) = ((0, 0), pre ++ genC L (.ins op a :: r) c nm) := by
      intro i c' nm' e1 e2
      rw [e1] at hl ⊢
      rw [e2, jmpsM]
      have ih := jumps_ok r (n + 1) (pre ++ [i]) c' nm' (fun op l hm => h op l (List.mem_cons_of_mem _ hm)) (by
        rw [← hl]
        simp only [List.length_append, List.length_cons, List.length_nil]
        omega)
      rw [show (pre ++ [i]).length = pre.length + 1 from List.length_append, List.append_assoc, List.append_assoc] at ih
      exact ih
    cases a with
    | val x => exact key _ _ _ (by rw [genC]) (by rw [genC])
    | name x => exact key _ _ _ (by rw [genC]) (by rw [genC])
    | place x => exact key _ _ _ (by rw [genC]) (by rw [genC])
    | int x => exact key _ _ _ (by rw [genC]) (by rw [genC])
/-- lines that say what may be said, their jumps to labels that stand -/
theorem asmT_ok {ls : List ByteArray} {st : RSt} {L : ByteArray → Int} (h : runM (ls.map lineM) 0 st0 = some st) (hL : ∀ op l, LM.jmp op l ∈ ls.map lineM → findB l (labsM (ls.map lineM) 0) = some (L l).toNat ∧ 0 ≤ L l ∧ L l ≠ (resM L (ls.map lineM)).length) :
    asmT ls = bif imgL (imgOf (putsI (resM L (ls.map lineM)) st0)) != 0 then (noImg, 0, imgL (imgOf (putsI (resM L (ls.map lineM)) st0))) else (imgOf (putsI (resM L (ls.map lineM)) st0), 0, 0) := by
  obtain ⟨⟨h1, h2, h3, h4⟩, h5, h6⟩ := run_state _ _ _ _ h
  obtain ⟨g1, g2, g3, g4⟩ := res_gen L (fun _ => 0) (ls.map lineM) st0 st0 rfl rfl rfl
  have hlen : (resM L (ls.map lineM)).length = (genC L (ls.map lineM) [] []).length := by
    rw [← (means_all (resM L (ls.map lineM))).1, g1]
    rfl
  have glen : ∀ (L1 L2 : ByteArray → Int) (ms : List LM) (c : List Val) (n : List ByteArray), (genC L1 ms c n).length = (genC L2 ms c n).length := by
    intro L1 L2 ms
    induction ms with
    | nil => intros; rfl
    | cons m t ih =>
      intro c n
      cases m with
      | lab _ => exact ih c n
      | bad _ => exact ih c n
      | jmp op l => rw [genC, genC, List.length_cons, List.length_cons, ih]
      | ins op a => cases a <;> rw [genC, genC, List.length_cons, List.length_cons, ih]
  have hj := jumps_ok (labels := st.labels) (L := L) (ls.map lineM) 0 [] [] [] (len := (resM L (ls.map lineM)).length) (fun op l hm => by
    obtain ⟨a1, a2, a3⟩ := hL op l hm
    refine ⟨?_, a3⟩
    rw [h6 l]
    show (match findB l (labsM (ls.map lineM) 0) with | some k => some (k : Int) | none => _) = _
    rw [a1]
    show some (((L l).toNat : Nat) : Int) = some (L l)
    congr 1
    omega) (by rw [List.nil_append, hlen]; exact glen _ _ _ _ _)
  have hjj : jumpsR st.labels st.jumps st.code = ((0, 0), genC L (ls.map lineM) [] []) := by
    rw [h5, h1]
    exact hj
  unfold asmT
  rw [linesR_run ls 0 st0 st h]
  dsimp only
  rw [hjj]
  simp only [bne_self_eq_false, cond_false]
  have e : (⟨genC L (ls.map lineM) [] [], st.consts, st.names, st.places⟩ : Img) = imgOf (putsI (resM L (ls.map lineM)) st0) := by
    unfold imgOf
    rw [g1, g2, g3, g4, h2, h3, h4]
    rfl
  rw [e]
end Go.Proofs.YtielnengimninaaGreatDoor
namespace Go.Va
open Go.Own Go.RowKit Go.Own.MapTy
theorem escL_fin : ∀ n : Fin 256, (10 : UInt8) ∉ escL (UInt8.ofNat n.1) := by decide +kernel
theorem escL_10 (c : UInt8) : (10 : UInt8) ∉ escL c := by
  have h := escL_fin ⟨c.toNat, c.toNat_lt⟩
  simpa using h
theorem dec_10 (u : Nat) : (10 : UInt8) ∉ Lib.decDigits u := fun h => by
  have := decDigits_digC u 10 h
  revert this
  decide
theorem itoa_10 (n : Int) : (10 : UInt8) ∉ Lib.itoa n := by
  unfold Lib.itoa
  split
  · intro h
    rcases List.mem_cons.1 h with h | h
    · revert h; decide
    · exact dec_10 _ h
  · exact dec_10 _
theorem quote_10 (s : List UInt8) : (10 : UInt8) ∉ 34 :: (s.flatMap escL ++ [34]) := by
  intro h
  rcases List.mem_cons.1 h with h | h
  · revert h; decide
  · rcases List.mem_append.1 h with h | h
    · obtain ⟨c, _, hc⟩ := List.mem_flatMap.1 h
      exact escL_10 c hc
    · revert h; decide
theorem prL_10 {n : Nat} {x : Val} (h : OkV n x) : (10 : UInt8) ∉ prL x := by
  induction h with
  | nil n x h => rw [prL_nil h]; decide
  | int n x h h0 h1 => rw [prL_int h]; exact itoa_10 _
  | txt n x h => rw [prL_txt h]; exact quote_10 _
  | list n x h hl ih =>
    rw [prL_list h]
    intro hh
    have hs : ∀ l : List Val, (∀ y ∈ l, (10 : UInt8) ∉ prL y) → (10 : UInt8) ∉ sepL l := by
      intro l hl2 hm
      obtain ⟨y, hy, hc⟩ := List.mem_flatMap.1 hm
      rcases List.mem_cons.1 hc with hc | hc
      · revert hc; decide
      · exact hl2 y hy hc
    rcases List.mem_cons.1 hh with hh | hh
    · revert hh; decide
    · rcases List.mem_append.1 hh with hh | hh
      · cases hx : x.list with
        | nil => rw [hx] at hh; cases hh
        | cons y r =>
          rw [hx, bodyL] at hh
          rcases List.mem_append.1 hh with hh | hh
          · exact ih y (by rw [hx]; exact List.mem_cons_self) hh
          · exact hs r (fun z hz => ih z (by rw [hx]; exact List.mem_cons_of_mem _ hz)) hh
      · revert hh; decide
/-- a printed value by itself -/
theorem parse_print {x : Val} (h : checkL x = 0) (hw : x.wf) : parseV (prL x) = (cloneV x, 0) := by
  have hr := read_print (okV_check h hw) [] [] (fun c r e => by cases e)
  rw [List.nil_append, List.append_nil, List.length_nil, Nat.zero_add] at hr
  unfold parseV
  rw [hr]
  dsimp only
  rw [if_neg (Nat.lt_irrefl _), if_neg (by rw [check_clone, h]; simp)]
theorem check_text {s : ByteArray} (h : s.size ≤ 64) : checkL (.mk 2 0 s []) = 0 := by
  have h1 : walkV (.mk 2 0 s []) 0 (0, 0) = (1, 0) := by
    rw [walkV_eq]
    show (bif (0 : Int) != 0 then _ else bif decide (256 ≤ 0) then _ else bif (2 : Int) == 0 || (2 : Int) == 1 then _ else bif (2 : Int) == 2 then (0 + 1, bif decide (256 < s.size) then (2 : Int) else 0) else _) = _
    rw [decide_eq_false (show ¬ 256 < s.size by omega)]
    rfl
  have h2 : (bytesV (.mk 2 0 s [])).length ≤ 512 := by
    rw [bytesV_eq]
    have h3 := numB_len s.data.toList.length
    have h4 : s.data.toList.length = s.size := by simp
    show (textB s.data.toList).length + 1 ≤ 512
    unfold textB
    rw [List.length_append]
    omega
  unfold checkL
  rw [h1, decide_eq_false (by omega)]
  rfl
end Go.Va
namespace Go.Proofs.YtielnengimninaaGreatDoor
open Go.RowKit Go.Own Go.Own.MapTy Go.Va Go.Sort
theorem quoted_print {s : ByteArray} (h : s.size ≤ 64) : quotedL (34 :: (s.data.toList.flatMap escL ++ [34])) = some s := by
  have h1 := parse_print (check_text h) (show (Val.mk 2 0 s []).wf from by rw [Val.wf]; exact ⟨by decide, by decide, by omega, by rw [Val.wf.wfL]; trivial⟩)
  rw [prL_txt rfl] at h1
  have h1 : parseV (34 :: (s.data.toList.flatMap escL ++ [34])) = (cloneV (.mk 2 0 s []), 0) := h1
  unfold quotedL
  rw [h1, if_pos ⟨rfl, by rw [clone_kind]; rfl⟩, clone_txt]
  rfl
theorem number_fin : ∀ k : Fin 100, numberL (Lib.itoa (k.1 : Int)) = some k.1 := by decide +kernel
theorem number_print {k : Nat} (h : k < 100) : numberL (Lib.itoa (k : Int)) = some k := number_fin ⟨k, h⟩
theorem opfind_fin : ∀ k : Fin 33, findL (ofL (k.1 : Int)).1.name = some k.1 ∧ (32 : UInt8) ∉ (ofL (k.1 : Int)).1.name.data.toList ∧ (10 : UInt8) ∉ (ofL (k.1 : Int)).1.name.data.toList := by decide +kernel
theorem opfind {op : Int} (h : (ofL op).2 = true) : findL (ofL op).1.name = some op.toNat ∧ (32 : UInt8) ∉ (ofL op).1.name.data.toList ∧ (10 : UInt8) ∉ (ofL op).1.name.data.toList := by
  have := ok_range.1 h
  obtain ⟨k, rfl⟩ : ∃ k : Nat, op = k := ⟨op.toNat, by omega⟩
  exact opfind_fin ⟨k, by omega⟩
theorem index_miss32 : ∀ {l : List UInt8}, (32 : UInt8) ∉ l → Lib.index l [32] = -1
  | [], _ => rfl
  | b :: l, h => by
    have hp : ([32] : List UInt8).isPrefixOf (b :: l) = false := by
      show ((32 == b) && ([] : List UInt8).isPrefixOf l) = false
      rw [show ((32 : UInt8) == b) = false from beq_eq_false_iff_ne.2 (fun e => h (e ▸ List.mem_cons_self))]
      rfl
    rw [Lib.index, hp, index_miss32 (fun e => h (List.mem_cons_of_mem _ e))]
    rfl
theorem index_at32 : ∀ {l rest : List UInt8}, (32 : UInt8) ∉ l → Lib.index (l ++ 32 :: rest) [32] = l.length
  | [], rest, _ => by
    rw [List.nil_append, Lib.index]
    rfl
  | b :: l, rest, h => by
    have hp : ([32] : List UInt8).isPrefixOf (b :: (l ++ 32 :: rest)) = false := by
      show ((32 == b) && ([] : List UInt8).isPrefixOf _) = false
      rw [show ((32 : UInt8) == b) = false from beq_eq_false_iff_ne.2 (fun e => h (e ▸ List.mem_cons_self))]
      rfl
    rw [List.cons_append, Lib.index, hp, index_at32 (fun e => h (List.mem_cons_of_mem _ e))]
    have : ((l.length : Int) == -1) = false := by rw [beq_eq_false_iff_ne]; omega
    rw [this]
    show (l.length : Int) + 1 = ((l.length + 1 : Nat) : Int)
    omega
theorem cut_none {l : List UInt8} (h : (32 : UInt8) ∉ l) : Lib.cut l [32] = (l, [], false) := by
  unfold Lib.cut
  rw [index_miss32 h]
  rfl
theorem cut_some {l r : List UInt8} (h : (32 : UInt8) ∉ l) : Lib.cut (l ++ 32 :: r) [32] = (l, r, true) := by
  unfold Lib.cut
  rw [index_at32 h]
  split
  · congr 1
    · simp
    · congr 1
      simp
  · rename_i hh
    exact absurd hh (by simp)
theorem lab_blank (x : List UInt8) : labL (32 :: x) = false := by
  unfold labL
  rw [labFrom, show labC 0 32 = false from rfl]
  rfl
/-- a line that begins with two blanks is no label -/
theorem not_lab (x : List UInt8) : isLab (mkL (32 :: 32 :: x)) = false := by
  unfold isLab
  have hd : (mkL (32 :: 32 :: x)).data.toList = 32 :: 32 :: x := by unfold mkL; simp
  cases hq : Lib.hasSuffix (mkL (32 :: 32 :: x)).data.toList [58] with
  | false => rfl
  | true =>
    have h2 : (trimB (mkL (32 :: 32 :: x))).data.toList = 32 :: (32 :: x).take ((32 :: x).length - 1) := by
      unfold trimB Lib.trimSuffix
      rw [hq, if_pos rfl, hd]
      show List.take _ (32 :: (32 :: x)) = _
      rw [show (32 :: 32 :: x).length - ([58] : List UInt8).length = ((32 :: x).length - 1) + 1 by simp]
      rfl
    rw [h2, lab_blank]
    rfl
theorem mkL_list (x : List UInt8) : (mkL x).data.toList = x := by unfold mkL; simp
theorem mkL_of (s : ByteArray) : mkL s.data.toList = s := by
  apply ByteArray.ext
  unfold mkL
  simp
/-- a line of an instruction without operand -/
theorem line_noarg {op : Int} (h : (ofL op).2 = true) (h0 : (ofL op).1.operand = 0) : lineM (mkL ([32, 32] ++ (ofL op).1.name.data.toList)) = .ins op (.int 0) := by
  obtain ⟨h1, h2, _⟩ := opfind h
  have hop := ok_range.1 h
  have hc : Lib.cut (Lib.trimPrefix (mkL ([32, 32] ++ (ofL op).1.name.data.toList)).data.toList [32, 32]) [32] = ((ofL op).1.name.data.toList, [], false) := by
    rw [mkL_list]
    exact cut_none h2
  have hN : cutN (mkL ([32, 32] ++ (ofL op).1.name.data.toList)) = (ofL op).1.name := by
    unfold cutN
    rw [hc]
  have hM : cutM (mkL ([32, 32] ++ (ofL op).1.name.data.toList)) = false := by unfold cutM; rw [hc]
  unfold lineM
  rw [if_neg (by rw [show [32, 32] ++ (ofL op).1.name.data.toList = 32 :: 32 :: (ofL op).1.name.data.toList from rfl, not_lab]; simp), if_neg (by rw [mkL_list]; simp [Lib.hasPrefix]), hN, h1]
  dsimp only
  rw [show ((op.toNat : Nat) : Int) = op by omega, hM, h0, if_neg (by simp), if_neg (by simp)]
/-- a line of an instruction with an operand -/
theorem line_arg {op : Int} (h : (ofL op).2 = true) (h0 : (ofL op).1.operand ≠ 0) (a : List UInt8) : lineM (mkL ([32, 32] ++ ((ofL op).1.name.data.toList ++ 32 :: a))) = operM op (ofL op).1.operand (mkL a) := by
  obtain ⟨h1, h2, _⟩ := opfind h
  have hop := ok_range.1 h
  have hc : Lib.cut (Lib.trimPrefix (mkL ([32, 32] ++ ((ofL op).1.name.data.toList ++ 32 :: a))).data.toList [32, 32]) [32] = ((ofL op).1.name.data.toList, a, true) := by
    rw [mkL_list]
    exact cut_some h2
  have hN : cutN (mkL ([32, 32] ++ ((ofL op).1.name.data.toList ++ 32 :: a))) = (ofL op).1.name := by
    unfold cutN
    rw [hc]
  have hM : cutM (mkL ([32, 32] ++ ((ofL op).1.name.data.toList ++ 32 :: a))) = true := by unfold cutM; rw [hc]
  have hR : cutR (mkL ([32, 32] ++ ((ofL op).1.name.data.toList ++ 32 :: a))) = mkL a := by unfold cutR; rw [hc]; rfl
  unfold lineM
  rw [if_neg (by rw [show [32, 32] ++ ((ofL op).1.name.data.toList ++ 32 :: a) = 32 :: 32 :: ((ofL op).1.name.data.toList ++ 32 :: a) from rfl, not_lab]; simp), if_neg (by rw [mkL_list]; simp [Lib.hasPrefix]), hN, h1]
  dsimp only
  rw [show ((op.toNat : Nat) : Int) = op by omega, hM, if_neg (by simp [h0]), if_pos rfl, hR]
/-- a label's line -/
theorem line_labM {s : ByteArray} (h : labL s.data.toList = true) : lineM (mkL (s.data.toList ++ [58])) = .lab s := by
  have hs : Lib.hasSuffix (mkL (s.data.toList ++ [58])).data.toList [58] = true := by
    rw [mkL_list]
    unfold Lib.hasSuffix
    simp
  have ht : trimB (mkL (s.data.toList ++ [58])) = s := by
    unfold trimB Lib.trimSuffix
    rw [if_pos hs, mkL_list]
    have e : List.take ((s.data.toList ++ [58]).length - ([58] : List UInt8).length) (s.data.toList ++ [58]) = s.data.toList := by simp
    rw [e]
  unfold lineM isLab
  rw [hs, ht, h]
  rfl
end Go.Proofs.YtielnengimninaaGreatDoor
namespace Go.Proofs.YtielnengimninaaGreatDoor
open Go.RowKit Go.Own Go.Own.MapTy Go.Va Go.Sort
theorem itoa_inj {a b : Nat} (ha : a ≤ 1000) (hb : b ≤ 1000) (h : Lib.itoa (a : Int) = Lib.itoa (b : Int)) : a = b := by
  have h1 := parse_itoa (v := (a : Int)) (by omega) (by omega)
  have h2 := parse_itoa (v := (b : Int)) (by omega) (by omega)
  rw [h, h2] at h1
  have : (b : Int) = (a : Int) := by injection h1
  omega
theorem labName_list (n : Nat) : (labName n).data.toList = 108 :: Lib.itoa (n : Int) := by
  unfold labName itoaB
  rw [ByteArray.data_append, Array.toList_append]
  simp
theorem labName_inj {a b : Nat} (ha : a ≤ 1000) (hb : b ≤ 1000) (h : labName a = labName b) : a = b := by
  have h1 : (labName a).data.toList = (labName b).data.toList := by rw [h]
  rw [labName_list, labName_list] at h1
  exact itoa_inj ha hb (List.cons.inj h1).2
theorem labName_ok {n : Nat} (h : n ≤ 1000) : labL (labName n).data.toList = true := by
  rw [labName_list]
  have hd : Lib.itoa (n : Int) = Lib.decDigits n := Lib.itoa_nonneg n
  have hl : (Lib.decDigits n).length ≤ 4 := by
    rw [Lib.decDigits_length]
    have e : ∀ m : Fin 1001, Lib.nDigits m.1 ≤ 4 := by
      intro m
      rcases Nat.lt_or_ge m.1 10 with h1 | h1
      · rw [Lib.nDigits_small h1]; decide
      · rw [Lib.nDigits_big (by omega)]
        rcases Nat.lt_or_ge (m.1 / 10) 10 with h2 | h2
        · rw [Lib.nDigits_small h2]; decide
        · rw [Lib.nDigits_big (by omega)]
          rcases Nat.lt_or_ge (m.1 / 10 / 10) 10 with h3 | h3
          · rw [Lib.nDigits_small h3]; decide
          · rw [Lib.nDigits_big (by omega), Lib.nDigits_small (by omega)]; decide
    exact e ⟨n, by omega⟩
  have hf : ∀ (l : List UInt8) (k : Nat), 0 < k → (∀ c ∈ l, digC c = true) → labFrom k l = true := by
    intro l
    induction l with
    | nil => intro k _ _; rfl
    | cons c r ih =>
      intro k hk hc
      have h1 := hc c List.mem_cons_self
      unfold digC at h1
      have h1 := of_decide_eq_true h1
      rw [labFrom, ih (k + 1) (by omega) (fun d hd => hc d (List.mem_cons_of_mem _ hd))]
      have : labC k c = true := by unfold labC; exact decide_eq_true (.inr ⟨hk, h1⟩)
      rw [this]
      rfl
  unfold labL
  rw [hd, labFrom, show labC 0 108 = true from rfl, hf _ 1 (by decide) (decDigits_digC n)]
  simp
  omega
theorem labName_10 (n : Nat) : (10 : UInt8) ∉ (labName n).data.toList := by
  rw [labName_list]
  intro h
  rcases List.mem_cons.1 h with h | h
  · revert h; decide
  · exact itoa_10 _ h
theorem get_lab1_some : ∀ (code : List In) (m : List (Int × ByteArray)) (x : Int), (MapTy.get (lab1 m code) x).isSome = true ↔ (MapTy.get m x).isSome = true ∨ ∃ c ∈ code, (ofL c.op).1.operand = 4 ∧ c.a = x
  | [], m, x => by rw [lab1]; simp
  | c :: r, m, x => by
    rw [lab1, get_lab1_some r]
    cases h4 : ((ofL c.op).1.operand == 4) with
    | false =>
      have h4 : (ofL c.op).1.operand ≠ 4 := by simpa using h4
      simp only [cond_false, List.mem_cons, exists_eq_or_imp]
      refine ⟨fun h => ?_, fun h => ?_⟩
      · rcases h with h | h
        · exact .inl h
        · exact .inr (.inr h)
      · rcases h with h | h | h
        · exact .inl h
        · exact absurd h.1 h4
        · exact .inr h
    | true =>
      have h4 : (ofL c.op).1.operand = 4 := by simpa using h4
      simp only [cond_true, List.mem_cons, exists_eq_or_imp]
      rw [get_upd]
      refine ⟨fun h => ?_, fun h => ?_⟩
      · rcases h with h | h
        · by_cases hx : x = c.a
          · exact .inr (.inl ⟨h4, hx.symm⟩)
          · rw [if_neg hx] at h; exact .inl h
        · exact .inr (.inr h)
      · rcases h with h | h | h
        · left
          by_cases hx : x = c.a
          · rw [if_pos hx]; rfl
          · rw [if_neg hx]; exact h
        · left; rw [if_pos h.2.symm]; rfl
        · exact .inr h
/-- the names of the labels, from an instruction on -/
theorem lab2_names : ∀ (f i n : Nat) (m : List (Int × ByteArray)), ∃ g : Nat → Nat,
    (∀ x : Nat, (x < i ∨ i + f ≤ x) → MapTy.get (lab2 m i n f) (x : Int) = MapTy.get m (x : Int)) ∧
    (∀ x : Nat, i ≤ x → x < i + f → ((MapTy.get m (x : Int)).isSome = true → MapTy.get (lab2 m i n f) (x : Int) = some (labName (g x)) ∧ n < g x ∧ g x ≤ n + (x + 1 - i)) ∧ ((MapTy.get m (x : Int)).isSome = false → MapTy.get (lab2 m i n f) (x : Int) = none)) ∧
    (∀ x y : Nat, i ≤ y → y < x → x < i + f → (MapTy.get m (y : Int)).isSome = true → (MapTy.get m (x : Int)).isSome = true → g y < g x)
  | 0, i, n, m => ⟨fun _ => 0, fun x _ => rfl, fun x h1 h2 => by omega, fun x y h1 h2 h3 => by omega⟩
  | f + 1, i, n, m => by
    cases hi : (MapTy.get m (i : Int)).isSome with
    | false =>
      obtain ⟨g, g1, g2, g3⟩ := lab2_names f (i + 1) n m
      have e : lab2 m i n (f + 1) = lab2 m (i + 1) n f := by rw [lab2, hi]; rfl
      rw [e]
      refine ⟨g, fun x h => g1 x (by omega), fun x h1 h2 => ?_, fun x y h1 h2 h3 hy hx => ?_⟩
      · by_cases hx : x = i
        · subst hx
          refine ⟨fun h => (by rw [hi] at h; cases h), fun _ => ?_⟩
          rw [g1 x (.inl (by omega))]
          cases hg : MapTy.get m (x : Int) with
          | none => rfl
          | some s => rw [hg] at hi; cases hi
        · obtain ⟨h3, h4⟩ := g2 x (by omega) (by omega)
          exact ⟨fun h => ⟨(h3 h).1, (h3 h).2.1, by have := (h3 h).2.2; omega⟩, h4⟩
      · by_cases hyi : y = i
        · subst hyi; rw [hi] at hy; cases hy
        · exact g3 x y (by omega) h2 (by omega) hy hx
    | true =>
      obtain ⟨g, g1, g2, g3⟩ := lab2_names f (i + 1) (n + 1) (upd m (i : Int) (labName (n + 1)))
      have e : lab2 m i n (f + 1) = lab2 (upd m (i : Int) (labName (n + 1))) (i + 1) (n + 1) f := by rw [lab2, hi]; rfl
      rw [e]
      have hu : ∀ x : Nat, x ≠ i → MapTy.get (upd m (i : Int) (labName (n + 1))) (x : Int) = MapTy.get m (x : Int) := fun x h => by rw [get_upd, if_neg (by omega)]
      refine ⟨fun x => if x = i then n + 1 else g x, fun x h => ?_, fun x h1 h2 => ?_, fun x y h1 h2 h3 hy hx => ?_⟩
      · rw [g1 x (by omega), hu x (by omega)]
      · by_cases hx : x = i
        · subst hx
          refine ⟨fun _ => ?_, fun h => (by rw [hi] at h; cases h)⟩
          dsimp only
          rw [if_pos rfl, g1 x (.inl (by omega)), get_upd, if_pos rfl]
          exact ⟨rfl, by omega, by omega⟩
        · obtain ⟨h3, h4⟩ := g2 x (by omega) (by omega)
          rw [hu x hx] at h3 h4
          dsimp only
          rw [if_neg hx]
          exact ⟨fun h => ⟨(h3 h).1, by have := (h3 h).2.1; omega, by have := (h3 h).2.2; omega⟩, h4⟩
      · have hxi : x ≠ i := by omega
        by_cases hyi : y = i
        · subst hyi
          dsimp only
          rw [if_pos rfl, if_neg hxi]
          have := ((g2 x (by omega) (by omega)).1 (by rw [hu x hxi]; exact hx)).2.1
          omega
        · dsimp only
          rw [if_neg hyi, if_neg hxi]
          exact g3 x y (by omega) h2 (by omega) (by rw [hu y hyi]; exact hy) (by rw [hu x hxi]; exact hx)
/-- the labels of a program -/
structure LabOk (code : List In) (L : List (Int × ByteArray)) : Prop where
  has : ∀ c ∈ code, (ofL c.op).1.operand = 4 → 0 ≤ c.a → c.a < code.length → ∃ s, MapTy.get L c.a = some s
  name : ∀ (i : Nat) s, i < code.length → MapTy.get L (i : Int) = some s → ∃ n, n ≤ 1000 ∧ s = labName n
  inj : ∀ (i j : Nat) s, i < code.length → j < code.length → MapTy.get L (i : Int) = some s → MapTy.get L (j : Int) = some s → i = j
theorem labs_ok {code : List In} (h : code.length ≤ 512) : LabOk code (labsL code) := by
  obtain ⟨g, g1, g2, g3⟩ := lab2_names code.length 0 0 (lab1 [] code)
  have hS : ∀ (i : Nat) s, i < code.length → MapTy.get (labsL code) (i : Int) = some s → (MapTy.get (lab1 [] code) (i : Int)).isSome = true ∧ s = labName (g i) ∧ g i ≤ 1000 := by
    intro i s hi hs
    obtain ⟨h1, h2⟩ := g2 i (by omega) (by omega)
    cases hg : (MapTy.get (lab1 [] code) (i : Int)).isSome with
    | false =>
      have := h2 hg
      unfold labsL at hs
      rw [this] at hs
      cases hs
    | true =>
      obtain ⟨h3, h4, h5⟩ := h1 hg
      unfold labsL at hs
      rw [h3] at hs
      cases hs
      exact ⟨rfl, rfl, by omega⟩
  refine ⟨fun c hc h4 h0 hl => ?_, fun i s hi hs => ?_, fun i j s hi hj hs ht => ?_⟩
  · obtain ⟨k, hk⟩ : ∃ k : Nat, c.a = k := ⟨c.a.toNat, by omega⟩
    have h1 : (MapTy.get (lab1 [] code) (k : Int)).isSome = true := (get_lab1_some code [] _).2 (.inr ⟨c, hc, h4, hk⟩)
    rw [hk]
    exact ⟨_, ((g2 k (by omega) (by omega)).1 h1).1⟩
  · obtain ⟨_, h2, h3⟩ := hS i s hi hs
    exact ⟨_, h3, h2⟩
  · obtain ⟨a1, a2, a3⟩ := hS i s hi hs
    obtain ⟨b1, b2, b3⟩ := hS j s hj ht
    have he := labName_inj a3 b3 (a2.symm.trans b2)
    rcases Nat.lt_trichotomy i j with hij | hij | hij
    · have := g3 j i (by omega) hij (by omega) a1 b1; omega
    · exact hij
    · have := g3 i j (by omega) hij (by omega) b1 a1; omega
/-- the lines of a printed program -/
def headB (L : List (Int × ByteArray)) (i : Nat) : List (List UInt8) := match MapTy.get L (i : Int) with
  | some s => [s.data.toList ++ [58]]
  | none => []
def insL (p : Img) (L : List (Int × ByteArray)) (c : In) : List UInt8 := [32, 32] ++ ((ofL c.op).1.name.data.toList ++ argP p L (ofL c.op).1.operand c.a.toNat)
def linesP (p : Img) (L : List (Int × ByteArray)) : Nat → List In → List (List UInt8)
  | _, [] => []
  | i, c :: r => headB L i ++ insL p L c :: linesP p L (i + 1) r
theorem textB_two (a b : List (List UInt8)) : textB (a ++ b) = textB a ++ textB b := List.flatMap_append
theorem codeP_lines (p : Img) (L : List (Int × ByteArray)) : ∀ (l : List In) (i : Nat), codeP p L i l = textB (linesP p L i l)
  | [], _ => rfl
  | c :: r, i => by
    rw [codeP, linesP, textB_two, codeP_lines p L r (i + 1)]
    unfold lineP headP headB
    have hn : (⟨#[32, 32]⟩ ++ (ofL c.op).1.name : ByteArray).data.toList = [32, 32] ++ (ofL c.op).1.name.data.toList := by rw [ByteArray.data_append, Array.toList_append]
    rw [hn]
    cases MapTy.get L (i : Int) with
    | none => simp [textB, insL]
    | some s =>
      have hs : (s ++ ⟨#[58, 10]⟩ : ByteArray).data.toList = s.data.toList ++ [58, 10] := by rw [ByteArray.data_append, Array.toList_append]
      dsimp only
      rw [hs]
      simp [textB, insL]
/-- what they say -/
def headM (L : List (Int × ByteArray)) (i : Nat) : List LM := match MapTy.get L (i : Int) with
  | some s => [.lab s]
  | none => []
def insM (p : Img) (L : List (Int × ByteArray)) (c : In) : LM := if (ofL c.op).1.operand = 4 then .jmp c.op ((MapTy.get L c.a).getD ⟨#[]⟩) else .ins c.op (argOf p c)
def linesM (p : Img) (L : List (Int × ByteArray)) : Nat → List In → List LM
  | _, [] => []
  | i, c :: r => headM L i ++ insM p L c :: linesM p L (i + 1) r
/-- an instruction's line says what the instruction says -/
theorem line_ins {p : Img} (h : imgL p = 0) (hw : ∀ x ∈ p.consts, x.wf) {L : List (Int × ByteArray)} (hL : LabOk p.code L) {c : In} (hc : c ∈ p.code) : lineM (mkL (insL p L c)) = insM p L c ∧ 10 ∉ insL p L c := by
  obtain ⟨ok, a0, aC, aN, aP, aT, aK, aO⟩ := at_ok h hc
  have hch := consts_ok (imgL_ok h).2.2.2.2.2.2.1
  have hnm := names_ok (imgL_ok h).2.2.2.2.2.2.2.1
  have hpl := (imgL_ok h).2.2.2.2.2.1
  obtain ⟨_, _, n10⟩ := opfind ok
  have hten : ∀ a : List UInt8, 10 ∉ a → 10 ∉ [32, 32] ++ ((ofL c.op).1.name.data.toList ++ 32 :: a) := by
    intro a ha hm
    rcases List.mem_append.1 hm with hm | hm
    · revert hm; decide
    · rcases List.mem_append.1 hm with hm | hm
      · exact n10 hm
      · rcases List.mem_cons.1 hm with hm | hm
        · revert hm; decide
        · exact ha hm
  have hsp : ∀ s : ByteArray, (⟨#[32]⟩ ++ s : ByteArray).data.toList = 32 :: s.data.toList := fun s => by rw [ByteArray.data_append, Array.toList_append]; rfl
  unfold insL insM
  rcases operand_bd6 c.op with e | e | e | e | e | e
  · have ha : argP p L (ofL c.op).1.operand c.a.toNat = [] := by rw [e]; rfl
    rw [ha, List.append_nil, line_noarg ok e, if_neg (by omega), argOf_4 (by omega) (by omega) (by omega)]
    refine ⟨by rw [show c.a = 0 by have := aO e; omega], fun hm => ?_⟩
    rcases List.mem_append.1 hm with hm | hm
    · revert hm; decide
    · exact n10 hm
  · obtain ⟨x, hx⟩ := aC e
    have ha : argP p L (ofL c.op).1.operand c.a.toNat = 32 :: prL x := by
      rw [e]
      show (⟨#[32]⟩ ++ printV (p.consts[c.a.toNat]?.getD vNil) : ByteArray).data.toList = _
      rw [hsp, hx]
      rfl
    have hm := mem_of_get hx
    rw [ha, line_arg ok (by omega), e, if_neg (by omega), argOf_1 e, hx]
    refine ⟨?_, hten _ (prL_10 (okV_check (hch x hm) (hw x hm)))⟩
    unfold operM
    rw [if_pos rfl, mkL_list, parse_print (hch x hm) (hw x hm), if_neg (by simp)]
    rfl
  · obtain ⟨s, hs⟩ := aN e
    have hm := mem_of_get hs
    have ha : argP p L (ofL c.op).1.operand c.a.toNat = 32 :: (34 :: (s.data.toList.flatMap escL ++ [34])) := by
      rw [e]
      show (⟨#[32]⟩ ++ quoteB (p.names[c.a.toNat]?.getD ⟨#[]⟩) : ByteArray).data.toList = _
      rw [hsp, hs]
      show 32 :: (quoteL s.data.toList).toArray.toList = _
      rfl
    rw [ha, line_arg ok (by omega), e, if_neg (by omega), argOf_2 e, hs]
    refine ⟨?_, hten _ (quote_10 _)⟩
    unfold operM
    rw [if_neg (by decide), if_pos rfl, mkL_list, quoted_print (hnm s hm)]
    rfl
  · have ha : argP p L (ofL c.op).1.operand c.a.toNat = 32 :: Lib.itoa (c.a.toNat : Int) := by
      rw [e]
      show (⟨#[32]⟩ ++ itoaB (c.a.toNat : Int) : ByteArray).data.toList = _
      rw [hsp]
      rfl
    have hp := aP e
    rw [ha, line_arg ok (by omega), e, if_neg (by omega), argOf_3 e]
    refine ⟨?_, hten _ (itoa_10 _)⟩
    unfold operM
    rw [if_neg (by decide), if_neg (by decide), if_neg (by decide), mkL_list, number_print (by omega)]
    dsimp only
    rw [if_pos rfl, show ((c.a.toNat : Nat) : Int) = c.a by omega]
  · obtain ⟨s, hs⟩ := hL.has c hc e a0 (aT e)
    have ha : argP p L (ofL c.op).1.operand c.a.toNat = 32 :: s.data.toList := by
      rw [e]
      show (⟨#[32]⟩ ++ (MapTy.get L (c.a.toNat : Int)).getD ⟨#[]⟩ : ByteArray).data.toList = _
      rw [hsp, show ((c.a.toNat : Nat) : Int) = c.a by omega, hs]
      rfl
    obtain ⟨k, hk⟩ : ∃ k : Nat, c.a = k := ⟨c.a.toNat, by omega⟩
    have hkl : k < p.code.length := by have := aT e; omega
    obtain ⟨n, hn, rfl⟩ := hL.name k s hkl (by rw [← hk]; exact hs)
    rw [ha, line_arg ok (by omega), e, if_pos rfl, hs]
    refine ⟨?_, hten _ (labName_10 _)⟩
    unfold operM
    rw [if_neg (by decide), if_neg (by decide), if_pos rfl, mkL_list, if_pos (labName_ok hn), mkL_of]
    rfl
  · have ha : argP p L (ofL c.op).1.operand c.a.toNat = 32 :: Lib.itoa (c.a.toNat : Int) := by
      rw [e]
      show (⟨#[32]⟩ ++ itoaB (c.a.toNat : Int) : ByteArray).data.toList = _
      rw [hsp]
      rfl
    have hp := aK e
    rw [ha, line_arg ok (by omega), e, if_neg (by omega), argOf_4 (by omega) (by omega) (by omega)]
    refine ⟨?_, hten _ (itoa_10 _)⟩
    unfold operM
    rw [if_neg (by decide), if_neg (by decide), if_neg (by decide), mkL_list, number_print (by omega)]
    dsimp only
    rw [if_neg (by decide), show ((c.a.toNat : Nat) : Int) = c.a by omega]
theorem lines_say {p : Img} (h : imgL p = 0) (hw : ∀ x ∈ p.consts, x.wf) {L : List (Int × ByteArray)} (hL : LabOk p.code L) : ∀ (l : List In) (i : Nat), i + l.length ≤ p.code.length → (∀ c ∈ l, c ∈ p.code) →
    ((linesP p L i l).map mkL).map lineM = linesM p L i l ∧ ∀ x ∈ linesP p L i l, 10 ∉ x
  | [], _, _, _ => ⟨rfl, fun x h => by cases h⟩
  | c :: r, i, hi, hc => by
    rw [List.length_cons] at hi
    obtain ⟨h1, h2⟩ := lines_say h hw hL r (i + 1) (by omega) (fun d hd => hc d (List.mem_cons_of_mem _ hd))
    obtain ⟨h3, h4⟩ := line_ins h hw hL (hc c List.mem_cons_self)
    rw [linesP, linesM, List.map_append, List.map_append, List.map_cons, List.map_cons, h1, h3]
    have hh : ((headB L i).map mkL).map lineM = headM L i ∧ ∀ x ∈ headB L i, 10 ∉ x := by
      unfold headB headM
      cases hs : MapTy.get L (i : Int) with
      | none => exact ⟨rfl, fun x h => by cases h⟩
      | some s =>
        obtain ⟨n, hn, rfl⟩ := hL.name i s (by omega) hs
        refine ⟨by rw [List.map_singleton, List.map_singleton, line_labM (labName_ok hn)], fun x hx => ?_⟩
        rw [List.mem_singleton] at hx
        subst hx
        intro hm
        rcases List.mem_append.1 hm with hm | hm
        · exact labName_10 _ hm
        · revert hm; decide
    rw [hh.1]
    refine ⟨rfl, fun x hx => ?_⟩
    rcases List.mem_append.1 hx with hx | hx
    · exact hh.2 x hx
    · rcases List.mem_cons.1 hx with rfl | hx
      · exact h4
      · exact h2 x hx
theorem insM_count (p : Img) (L : List (Int × ByteArray)) (c : In) (r : List LM) (k : Nat) : labsM (insM p L c :: r) k = labsM r (k + 1) := by
  unfold insM
  split <;> rfl
/-- where a label stands -/
theorem find_label {p : Img} {L : List (Int × ByteArray)} (hL : LabOk p.code L) : ∀ (l : List In) (i j : Nat) (s : ByteArray), i + l.length ≤ p.code.length → i ≤ j → j < i + l.length → MapTy.get L (j : Int) = some s → findB s (labsM (linesM p L i l) i) = some j
  | [], i, j, s, _, h1, h2, _ => by simp at h2; omega
  | c :: r, i, j, s, hi, h1, h2, hs => by
    rw [List.length_cons] at hi h2
    rw [linesM]
    have ih := fun (hj : i + 1 ≤ j) => find_label hL r (i + 1) j s (by omega) hj (by omega) hs
    unfold headM
    cases hg : MapTy.get L (i : Int) with
    | none =>
      rw [List.nil_append, insM_count]
      refine ih ?_
      by_cases hij : i = j
      · subst hij; rw [hg] at hs; cases hs
      · omega
    | some t =>
      rw [List.singleton_append, labsM, findB]
      by_cases hij : i = j
      · subst hij
        rw [hg] at hs
        cases hs
        rw [if_pos rfl]
      · have hts : t ≠ s := fun e => hij (hL.inj i j s (by omega) (by omega) (e ▸ hg) hs)
        rw [if_neg hts, insM_count]
        exact ih (by omega)
/-- the lines can be read one by one -/
theorem run_lines {p : Img} {L : List (Int × ByteArray)} (hL : LabOk p.code L) : ∀ (l : List In) (i n : Nat) (st : RSt), i + l.length ≤ p.code.length → (∀ s, (MapTy.get st.labels s).isSome = true → ∃ j : Nat, j < i ∧ MapTy.get L (j : Int) = some s) → ∃ st', runM (linesM p L i l) n st = some st'
  | [], _, _, st, _, _ => ⟨st, rfl⟩
  | c :: r, i, n, st, hi, hst => by
    rw [List.length_cons] at hi
    have hins : ∀ (n : Nat) (st : RSt), (∀ s, (MapTy.get st.labels s).isSome = true → ∃ j : Nat, j < i + 1 ∧ MapTy.get L (j : Int) = some s) → ∃ st', runM (insM p L c :: linesM p L (i + 1) r) n st = some st' := by
      intro n st hst
      unfold insM
      split
      · rw [runM]
        exact run_lines hL r (i + 1) (n + 1) _ (by omega) hst
      · rw [runM]
        refine run_lines hL r (i + 1) (n + 1) _ (by omega) ?_
        rw [(putI_frame _ st).1]
        exact hst
    rw [linesM]
    unfold headM
    cases hg : MapTy.get L (i : Int) with
    | none =>
      rw [List.nil_append]
      exact hins n st (fun s hs => by obtain ⟨j, h1, h2⟩ := hst s hs; exact ⟨j, by omega, h2⟩)
    | some t =>
      rw [List.singleton_append, runM]
      dsimp only [stepM]
      have hno : ¬ (MapTy.get st.labels t).isSome = true := fun h => by
        obtain ⟨j, h1, h2⟩ := hst t h
        have := hL.inj j i t (by omega) (by omega) h2 hg
        omega
      rw [if_neg hno]
      refine hins (n + 1) _ (fun s hs => ?_)
      have hs : (MapTy.get (upd st.labels t st.code.length) s).isSome = true := hs
      rw [get_upd] at hs
      by_cases hst2 : s = t
      · exact ⟨i, by omega, by rw [hst2]; exact hg⟩
      · rw [if_neg hst2] at hs
        obtain ⟨j, h1, h2⟩ := hst s hs
        exact ⟨j, by omega, h2⟩
theorem res_lines {p : Img} {L : List (Int × ByteArray)} {Lf : ByteArray → Int} : ∀ (l : List In) (i : Nat), (∀ c ∈ l, (ofL c.op).1.operand = 4 → Lf ((MapTy.get L c.a).getD ⟨#[]⟩) = c.a) → resM Lf (linesM p L i l) = l.map fun c => (c.op, argOf p c)
  | [], _, _ => rfl
  | c :: r, i, h => by
    have ih := res_lines (p := p) r (i + 1) (fun d hd => h d (List.mem_cons_of_mem _ hd))
    have hi : resM Lf (insM p L c :: linesM p L (i + 1) r) = (c.op, argOf p c) :: r.map fun c => (c.op, argOf p c) := by
      unfold insM
      split
      · rename_i h4
        rw [resM, ih, h c List.mem_cons_self h4, argOf_4 (by omega) (by omega) (by omega)]
      · rw [resM, ih]
    rw [linesM]
    unfold headM
    cases MapTy.get L (i : Int) with
    | none => exact hi
    | some t =>
      rw [List.singleton_append, resM]
      exact hi
theorem jmp_mem {p : Img} {L : List (Int × ByteArray)} {op : Int} {x : ByteArray} : ∀ (l : List In) (i : Nat), LM.jmp op x ∈ linesM p L i l → ∃ c ∈ l, (ofL c.op).1.operand = 4 ∧ x = (MapTy.get L c.a).getD ⟨#[]⟩
  | [], _, h => by cases h
  | c :: r, i, h => by
    rw [linesM] at h
    rcases List.mem_append.1 h with h | h
    · unfold headM at h
      cases hg : MapTy.get L (i : Int) with
      | none => rw [hg] at h; cases h
      | some t => rw [hg] at h; simp at h
    · rcases List.mem_cons.1 h with h | h
      · unfold insM at h
        split at h
        · rename_i h4
          injection h with h1 h2
          exact ⟨c, List.mem_cons_self, h4, h2⟩
        · cases h
      · obtain ⟨d, hd, h4⟩ := jmp_mem r (i + 1) h
        exact ⟨d, List.mem_cons_of_mem _ hd, h4⟩
/-- what is printed is read as that program, in order -/
theorem parse_printed {p : Img} (h : imgL p = 0) (hw : ∀ x ∈ p.consts, x.wf) (hz : (asmP p).1.size ≤ 65536) : asmL (asmP p).1 = (imgOf (putsI (meanP p) st0), 0, 0) := by
  have hlen := (imgL_ok h).2.1
  have h0 := (imgL_ok h).1
  have hL := labs_ok (code := p.code) hlen
  have ha : (asmP p).1 = ⟨(codeP p (labsL p.code) 0 p.code).toArray⟩ := by
    unfold asmP
    rw [h]
    rfl
  generalize labsL p.code = L at *
  obtain ⟨h1, h2⟩ := lines_say h hw hL p.code 0 (by omega) (fun c hc => hc)
  obtain ⟨st, hst⟩ := run_lines hL p.code 0 0 st0 (by omega) (fun s hs => by simp [st0, MapTy.get] at hs)
  have hpos : 0 < (linesP p L 0 p.code).length := by
    cases hc : p.code with
    | nil => rw [hc] at h0; simp at h0
    | cons c r => rw [linesP]; simp only [List.length_append, List.length_cons]; omega
  obtain ⟨Lf, hLf⟩ : ∃ Lf : ByteArray → Int, ∀ l, Lf l = ((findB l (labsM (linesM p L 0 p.code) 0)).getD 0 : Nat) := ⟨_, fun l => rfl⟩
  have hJ : ∀ c ∈ p.code, (ofL c.op).1.operand = 4 → findB ((MapTy.get L c.a).getD ⟨#[]⟩) (labsM (linesM p L 0 p.code) 0) = some c.a.toNat ∧ Lf ((MapTy.get L c.a).getD ⟨#[]⟩) = c.a ∧ 0 ≤ c.a ∧ c.a < p.code.length := by
    intro c hc h4
    obtain ⟨_, a0, _, _, _, aT, _⟩ := at_ok h hc
    have aT := aT h4
    obtain ⟨s, hs⟩ := hL.has c hc h4 a0 aT
    have hf := find_label hL p.code 0 c.a.toNat s (by omega) (by omega) (by omega) (by rw [show ((c.a.toNat : Nat) : Int) = c.a by omega]; exact hs)
    rw [hs]
    refine ⟨hf, ?_, a0, aT⟩
    rw [hLf]
    show (((findB s (labsM (linesM p L 0 p.code) 0)).getD 0 : Nat) : Int) = c.a
    rw [hf]
    show ((c.a.toNat : Nat) : Int) = c.a
    omega
  have hres : resM Lf (linesM p L 0 p.code) = meanP p := res_lines p.code 0 (fun c hc h4 => (hJ c hc h4).2.1)
  have hml : (meanP p).length = p.code.length := by unfold meanP; simp
  have hs : (asmP p).1.data.toList = textB (linesP p L 0 p.code) := by
    rw [ha, ← codeP_lines]
  rw [asmL_T hpos hs h2 hz]
  rw [asmT_ok (L := Lf) (by rw [h1]; exact hst) (by
    rw [h1]
    intro op l hm
    obtain ⟨c, hc, h4, rfl⟩ := jmp_mem p.code 0 hm
    obtain ⟨j1, j2, j3, j4⟩ := hJ c hc h4
    rw [j2, hres, hml]
    exact ⟨j1, j3, by omega⟩)]
  rw [h1, hres, tidy_img h]
  rfl
end Go.Proofs.YtielnengimninaaGreatDoor
