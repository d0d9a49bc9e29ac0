/- The heap's methods, walked: Drop. -/
import Derived.Test.YtkhphnidopbjjaaH11
namespace Go.Hm
open Go.Own
/-- a key's three cells -/
def kyEnc (x : Ky) : List Value := [.int .i64 x.run, .int .i64 x.kind, .int .i64 x.id]
instance : Cells Ky where
  sz := 3
  enc := kyEnc
  len := fun _ => rfl
  one := by
    intro x v hv
    simp [kyEnc] at hv
    rcases hv with rfl | rfl | rfl <;> rfl
end Go.Hm
namespace Go.Proofs.Ytkhphnidopbjjaa
open Go.RowKit Go.Own Go.Own.MapTy Go.Hm
open Go.Own.Cells (sz enc)

theorem info32 : (Try.prog.info? 32).map (fun i => (i.zero, i.size, i.bytes)) = some (some (.agg #[.int .i64 0, .int .i64 0, .int .i64 0]), 3, 24) := by kernel_rfl
theorem news_key {W : World} {b : Nat} {x : Ky} {e : TypeId} {fr : Nat × Nat} (h : W.heap[b]? = some (.cells #[.int .i64 x.run, .int .i64 x.kind, .int .i64 x.id] e fr)) :
    ∀ j u, ([x].flatMap enc)[j]? = some u → W.cell? ((⟨b, 0, none⟩ : Addr).add j) = some u := by
  intro j u hu
  rw [Addr.add_lit, cell_of_heap h, Nat.zero_add]
  simp [enc, kyEnc] at hu ⊢
  exact hu
theorem row_key {w : World} {e : TypeId} {xs : List Ky} {g off n cap : Nat} (h : RowAt w e (.slice (some ⟨g, off, none⟩) n cap) xs) {i : Nat} {x : Ky} (hx : xs[i]? = some x) :
    w.cell? ⟨g, off + i * 3, none⟩ = some (.int .i64 x.run) ∧ w.cell? ⟨g, off + i * 3 + 1, none⟩ = some (.int .i64 x.kind) ∧ w.cell? ⟨g, off + i * 3 + 2, none⟩ = some (.int .i64 x.id) :=
  ⟨h.cell hx (j := 0) (by decide), h.cell hx (j := 1) (by decide), h.cell hx (j := 2) (by decide)⟩

/-- those of somebody -/
def mine (s : Hp) (r : Int) : List It := s.L.filter (fun x => x.run == r)

def D1Rel (w : World) (s : Hp) (r : Int) (v15 v5 : Value) (wr : World) : Prop :=
  ∃ k : Nat, v15 = .int .i64 k ∧ k ≤ s.L.length ∧ RowAt wr 32 v5 (((s.L.take k).filter (fun x => x.run == r)).map It.key) ∧ Below w.heap.size w wr ∧ ∀ g, v5.ownBlock = some g → w.heap.size ≤ g
def D2Rel (w : World) (hb : Nat) (lv mv : Value) (T : TypeId) (s : Hp) (r : Int) (vk : Value) (v32 : Value) (wr : World) : Prop :=
  ∃ (k : Nat) (s' : Hp) (lv' : Value), v32 = .int .i64 k ∧ k ≤ (mine s r).length ∧ HV wr hb lv' mv T s' ∧ Hm.Good s' ∧ ((mine s r).take k ++ s'.L).Perm s.L ∧ s'.seq = s.seq ∧ lv'.ownBlock = lv.ownBlock ∧
    Keeps (foot hb lv mv) w wr ∧ RowAt wr 32 vk ((mine s r).map It.key)

/-- what Drop leaves -/
def DropPost (hb : Nat) (lv mv : Value) (T : TypeId) (s : Hp) (r : Int) (w : World) (e : Ending) (w' : World) : Prop :=
  ∃ (s' : Hp) (lv' : Value), e = .returned (.int .i64 (mine s r).length) ∧ HV w' hb lv' mv T s' ∧ Hm.Good s' ∧ s'.L.Perm (s.L.filter (fun x => !(x.run == r))) ∧ s'.seq = s.seq ∧ lv'.ownBlock = lv.ownBlock ∧ Keeps (foot hb lv mv) w w'

theorem drop_step {s s' : Hp} {r : Int} {k : Nat} {x : It} (hg : Hm.Good s) (hg' : Hm.Good s') (hp : ((mine s r).take k ++ s'.L).Perm s.L) (hx : (mine s r)[k]? = some x) :
    ∃ j : Nat, MapTy.get s'.M x.key = some (j : Int) ∧ s'.L[j]? = some x ∧ Hm.Good (s'.take j) ∧ ((mine s r).take (k + 1) ++ (s'.take j).L).Perm s.L ∧ (s'.take j).seq = s'.seq := by
  have hk : k < (mine s r).length := (List.getElem?_eq_some_iff.1 hx).1
  have hmem : x ∈ s.L := (List.mem_filter.1 (List.mem_of_getElem? hx)).1
  have hnd : (mine s r).Nodup := by
    have h1 : s.L.Nodup := List.Pairwise.imp (fun h e => h (by rw [e])) (List.pairwise_map.1 hg.idx.nodup)
    exact h1.filter _
  have hnot : x ∉ (mine s r).take k := by
    intro h
    obtain ⟨i, hi, e⟩ := List.getElem_of_mem h
    have hi' : i < k := by simp at hi; omega
    have e1 : (mine s r)[i]'(by omega) = (mine s r)[k] := by
      rw [List.getElem_take] at e
      rw [e]
      have := (List.getElem?_eq_some_iff.1 hx).2
      exact this.symm
    have := (List.getElem_inj hnd).1 e1
    omega
  have hin : x ∈ s'.L := by
    rcases List.mem_append.1 (hp.mem_iff.2 hmem) with h | h
    · exact absurd h hnot
    · exact h
  obtain ⟨j, hj⟩ := List.getElem?_of_mem hin
  obtain ⟨g1, g2, g3⟩ := hg'.take hj
  refine ⟨j, hg'.idx.at_ j x hj, hj, g1, ?_, g3⟩
  have ht : (mine s r).take (k + 1) = (mine s r).take k ++ [x] := by
    rw [List.take_add_one, hx]
    rfl
  rw [ht, List.append_assoc]
  exact (List.Perm.append_left _ g2).trans hp
theorem drop_end {s s' : Hp} {r : Int} (hp : ((mine s r).take (mine s r).length ++ s'.L).Perm s.L) : s'.L.Perm (s.L.filter (fun x => !(x.run == r))) := by
  rw [List.take_length] at hp
  have h := List.filter_append_perm (fun x : It => x.run == r) s.L
  exact (List.perm_append_left_iff _).1 (hp.trans h.symm)

set_option maxHeartbeats 4000000 in
theorem drop_any (r : Int) (hb : Nat) (lv mv : Value) (T : TypeId) (s : Hp) (w : World) (H : HV w hb lv mv T s) (hg : Hm.Good s) (hcap : s.L.length ≤ 16384) :
    Calls Try.prog 18 #[.pointer (some ⟨hb, 0, none⟩), .int .i64 r] w (DropPost hb lv mv T s r w) := by
  obtain ⟨a, cap, rfl⟩ := H.row.slice
  obtain ⟨c0, c1, b0, hn⟩ := H.facts
  clear c1
  have HH := Lib.hid H
  have HGD := Lib.hid hg
  clear H hg
  go_enter Try.func18, Try.ntmps18
  go_wp2_with fail
  go_loopw [15, 5] (fun v15 v5 wr => D1Rel w s r v15 v5 wr) (fun v15 _ _ => s.L.length - (intOf v15).toNat)
  case atStart => exact ⟨0, rfl, Nat.zero_le _, RowAt.nil _ _, Below.refl _ _, fun g h => by simp [Value.ownBlock] at h⟩
  case round =>
    obtain ⟨k, rfl, hk, hR, hB, hf⟩ := hrel
    have H' := HH.out.keep (Keeps.of_below hB) (fun _ _ h => h)
    by_cases hkn : k < s.L.length
    · have hx : s.L[k]? = some s.L[k] := by simp [hkn]
      generalize s.L[k] = x at hx
      rcases H'.row with ⟨_, h⟩ | ⟨g, off, cap', cur, hlv, hcur, _⟩
      · rw [h] at hkn; cases hkn
      cases hlv
      obtain ⟨e0, e1, e2, e3, e4⟩ := row_cells H'.row hx
      have hgl : g < wr.heap.size := H'.row.lt (g := g) rfl
      have ht : s.L.take (k + 1) = s.L.take k ++ [x] := by rw [List.take_add_one, hx]; rfl
      have HTK := Lib.hid ht
      have HR := Lib.hid hR
      clear hx hcur ht hR H'
      by_cases hr : x.run = r
      · obtain ⟨a5, p5, rfl⟩ := HR.out.slice
        obtain ⟨i0, hi0, hz0, hz1, hz2⟩ := info_parts info32
        have HI := Lib.hid (And.intro hi0 (And.intro hz0 (And.intro hz1 hz2)))
        clear hi0 hz0 hz1 hz2
        have hkl : (((s.L.take k).filter (fun x => x.run == r)).map It.key).length ≤ 16384 := by
          have := List.length_filter_le (fun x : It => x.run == r) (s.L.take k)
          rw [List.length_take] at this
          rw [List.length_map]
          omega
        obtain ⟨keys, hkeys⟩ : ∃ keys, keys = ((s.L.take k).filter (fun x => x.run == r)).map It.key := ⟨_, rfl⟩
        rw [← hkeys] at HR hkl hf
        rw [← hkeys]
        have HK := Lib.hid hkeys
        clear hkeys
        subst hr
        go_wp2_with (refine wpList_append (α := Ky) rfl (.tmp 24) (.tmp 27) 103 rfl 32 i0 _ 24 Try.underlying103 HI.out.1 HI.out.2.1 HI.out.2.2.1 HI.out.2.2.2 rfl (.slice a5 keys.length p5) keys rfl (HR.out.frame (fun g h => (Below.heap_alloc (wr.alloc _) _ _ (by have := HR.out.lt h; simp; omega)).trans (Below.heap_alloc _ _ _ (HR.out.lt h)))) ⟨wr.heap.size + 1, 0, none⟩ 1 1 [x.key] rfl rfl (news_key (x := x.key) (by rw [show wr.heap.size + 1 = (wr.alloc (.cells #[.int .i64 x.run, .int .i64 x.kind, .int .i64 x.id, .int .i64 x.due, .int .u64 x.seq] 35)).heap.size by simp]; exact heap_alloc_new _ _)) (by omega) (by unfold maxLen; omega) ?_; intro v1 w1 hr1 hg1 hf1)
        go_roundw
        case rel =>
          have hB2 : Below w.heap.size w ((wr.alloc (.cells #[.int .i64 x.run, .int .i64 x.kind, .int .i64 x.id, .int .i64 x.due, .int .u64 x.seq] 35)).alloc (.cells #[.int .i64 x.run, .int .i64 x.kind, .int .i64 x.id] 32)) := (hB.alloc hB.size _).alloc (by have := hB.size; simp; omega) _
          refine ⟨k + 1, by simp, hkn, ?_, hB2.grown hg1 hB2.size (fun j h => hf j h), fun g' h => ?_⟩
          · rw [HTK.out, List.filter_append, List.map_append, ← HK.out]
            simpa using hr1
          · rcases hf1 g' h with h | h
            · exact hf g' h
            · have := hB2.size; omega
        case measure => simp [intOf]; omega
      · have hr1 : (x.run == r) = false := beq_eq_false_iff_ne.2 hr
        go_wp2_with fail
        go_roundw
        case rel =>
          refine ⟨k + 1, rfl, hkn, ?_, hB.alloc hB.size _, hf⟩
          rw [HTK.out, List.filter_append]
          simp only [List.filter_cons, hr1]
          simpa using HR.out.frame (fun g h => Below.heap_alloc _ _ _ (HR.out.lt h))
        case measure => simp [intOf]; omega
    · have hke : k = s.L.length := by omega
      have hkeys : ((s.L.take k).filter (fun x => x.run == r)).map It.key = (mine s r).map It.key := by rw [hke, List.take_length]; rfl
      rw [hkeys] at hR
      obtain ⟨a5, p5, rfl⟩ := hR.slice
      rw [List.length_map] at hR
      have hml : (mine s r).length ≤ 16384 := by
        have := List.length_filter_le (fun x : It => x.run == r) s.L
        unfold mine
        omega
      have HR := Lib.hid hR
      have H2 := Lib.hid H'
      clear hR H' hkeys hke
      obtain ⟨kk, rfl⟩ : ∃ kk : Nat, kk = k := ⟨_, rfl⟩
      obtain ⟨wo, rfl⟩ : ∃ wo : World, wo = wr := ⟨_, rfl⟩
      simp only [List.length_map]
      go_wp2_with fail
      go_loopw [32] (fun v32 wx => D2Rel w hb (.slice a s.L.length cap) mv T s r (.slice a5 (mine s r).length p5) v32 wx) (fun v32 _ => (mine s r).length - (intOf v32).toNat)
      case atStart => exact ⟨0, s, _, rfl, Nat.zero_le _, H2.out, HGD.out, by simp, rfl, rfl, (Keeps.of_below hB : Keeps (fun _ => False) w wo).mono (fun _ _ h => h.elim), HR.out⟩
      case round =>
        obtain ⟨k, s', lv', rfl, hk2, hV, hG, hp, hq, hown, hK, hRk⟩ := hrel
        by_cases hkn2 : k < (mine s r).length
        · have hx : (mine s r)[k]? = some (mine s r)[k] := by simp [hkn2]
          generalize (mine s r)[k] = x at hx
          obtain ⟨j, hj1, hj2, hG', hp', hq'⟩ := drop_step HGD.out hG hp hx
          have hxk : ((mine s r).map It.key)[k]? = some x.key := by rw [List.getElem?_map, hx]; rfl
          obtain ⟨ad, hadr⟩ : ∃ ad, a5 = some ad := by
            rcases hRk with ⟨_, h⟩ | ⟨g, off, cap', _, h, _⟩
            · have := congrArg List.length h
              rw [List.length_map, List.length_nil] at this
              omega
            · exact ⟨⟨g, off, none⟩, by simp only [Value.slice.injEq] at h; exact h.1⟩
          subst hadr
          obtain ⟨gk, ok, hadr⟩ : ∃ gk ok, ad = ⟨gk, ok, none⟩ := by
            rcases hRk with ⟨h, _⟩ | ⟨g, off, cap', _, h, _⟩
            · simp at h
            · simp only [Value.slice.injEq, Option.some.injEq] at h; exact ⟨g, off, h.1⟩
          subst hadr
          obtain ⟨k0, k1, k2⟩ := row_key hRk hxk
          have hgk : gk < wr.heap.size := hRk.lt (g := gk) rfl
          have hgw : w.heap.size ≤ gk := hf gk rfl
          have hlen : s'.L.length ≤ 16384 := by have := hp.length_eq; simp at this; omega
          have CN := Lib.hid (fun (W : World) (h : HV W hb lv' mv T s') => cancel_some x.key x j hb lv' mv T s' W h hj1 hj2 hlen)
          have HV' := Lib.hid hV
          have FF := Lib.hid (And.intro hG' (And.intro hp' (And.intro (hq'.trans hq) hown)))
          have KR := Lib.hid (And.intro hK hRk)
          clear hx hxk hj1 hj2 hG' hp' hq' hG hp hq hV hK hRk hown
          go_wp2_with fail
          have KA : Keeps (fun _ => False) wr (wr.alloc (.cells #[.int .i64 x.key.run, .int .i64 x.key.kind, .int .i64 x.key.id] 32)) := (Keeps.refl _ wr).alloc _
          refine (CN.out _ (HV'.out.keep KA (fun _ _ h => h))).mono ?_
          rintro e w2 ⟨lv2, rfl, hV2, hK2, hown2⟩
          go_wp2_with fail
          go_roundw
          case rel =>
            have hfe : ∀ j, foot hb lv' mv j → foot hb (.slice a s.L.length cap) mv j := by
              rintro j (h | h | h)
              · exact .inl h
              · exact .inr (.inl (by rw [← FF.out.2.2.2]; exact h))
              · exact .inr (.inr h)
            have hfl : ∀ j, foot hb (.slice a s.L.length cap) mv j → j < w.heap.size := fun j h => HH.out.lt h
            have K2 := (KA.mono (fun _ _ h => h.elim) : Keeps (foot hb lv' mv) wr _).comp hK2
            refine ⟨k + 1, s'.take j, lv2, by simp, hkn2, hV2, FF.out.1, FF.out.2.1, FF.out.2.2.1, hown2.trans FF.out.2.2.2, KR.out.1.comp (K2.mono (fun j _ h => hfe j h)), KR.out.2.keep K2 (fun g' h hj => ?_)⟩
            have e1 : g' = gk := by simp [Value.ownBlock] at h; exact h.symm
            have := hfl _ (hfe _ hj)
            omega
          case measure => simp [intOf]; omega
        · obtain rfl : k = (mine s r).length := by omega
          go_wp2_with fail
          go_ret
          exact ⟨s', lv', by simp, hV, hG, drop_end hp, hq, hown, hK⟩
end Go.Proofs.Ytkhphnidopbjjaa
