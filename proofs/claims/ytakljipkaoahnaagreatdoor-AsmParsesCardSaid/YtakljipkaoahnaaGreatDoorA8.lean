/- Parts of the proof: what the functions and the plain laws give that later parts lean on. Conditions: none beyond those that each theorem names. -/
import Derived.Test.YtakljipkaoahnaaGreatDoorA5
set_option maxRecDepth 100000
set_option maxHeartbeats 8000000
namespace Go.Va
open Go.Own Go.RowKit
def vNil:Val:=.mk 0 0 ⟨#[]⟩ []
def listR (V:Nat→PR)(s:List UInt8):Nat→Nat→List Val→PR
 |0,_,_=>.bad
 |f+1,k,acc=>
  if eatL s k 93=true then .ok (.mk 3 0 ⟨#[]⟩ acc) (k+1)else
  if acc.length≠0∧eatL s k 32=false then .bad else
  match V (if acc.length=0 then k else k+1)with
  | .ok x k2=>listR V s f k2 (acc++[x])
  | .deep=>.deep
  | .bad=>.bad
def quoR:Option (List UInt8×Nat)→PR
 |some (t,k2)=>.ok (.mk 2 0 ⟨t.toArray⟩ []) k2
 |none=>.bad
def headR (L:Nat→PR)(s:List UInt8)(k:Nat):PR:=
 if Lib.hasPrefix (s.drop k) [110,105,108]=true then .ok vNil (k+3)else
 if eatL s k 34=true then quoR (quotL [] (k+1) (s.drop (k+1)))else
 if eatL s k 91=true then L (k+1)else numR s k
def valR:Nat→List UInt8→Nat→PR
 |0,s,k=>headR (fun _=>.deep) s k
 |n+1,s,k=>headR (fun j=>listR (valR n s) s (s.length+1) j []) s k
theorem quotL_le:∀(n:Nat) (acc:List UInt8) (k:Nat) (r:List UInt8),r.length≤n→∀t k2,quotL acc k r=some (t,k2)→k<k2∧k2≤k+r.length
 |n,acc,k,[],_,t,k2,h=>by rw[quotL_nil]at h;cases h
 |0,acc,k,c::r,hl,t,k2,h=>by simp at hl
 |n+1,acc,k,c::r,hl,t,k2,h=>by
  rw[quotL_cons]at h
  simp only[List.length_cons]at hl⊢
  split at h
  ·cases h;omega
  ·split at h
   ·cases h
   ·split at h
    ·have:=quotL_le n _ _ r (by omega) _ _ h;omega
    ·cases r with
     |nil=>cases h
     |cons d r1=>
      dsimp only at h
      simp only[List.length_cons]at hl⊢
      split at h
      ·have:=quotL_le n _ _ r1 (by omega) _ _ h;omega
      ·split at h
       ·have:=quotL_le n _ _ r1 (by omega) _ _ h;omega
       ·split at h
        ·cases h
        ·cases r1 with
         |nil=>cases h
         |cons a r2=>
          cases r2 with
          |nil=>cases h
          |cons b r3=>
           dsimp only at h
           simp only[List.length_cons]at hl⊢
           split at h
           ·cases h
           ·have:=quotL_le n _ _ r3 (by omega) _ _ h;omega
theorem numR_le {s:List UInt8}{k:Nat}(hk:k≤s.length){x:Val}{k2:Nat}(h:numR s k= .ok x k2):k<k2∧k2≤s.length:=by
 have hb:=numEnd_le hk
 unfold numR at h
 split at h
 ·rename_i v hv
  split at h
  ·cases h
   refine⟨?_,hb.2⟩
   have:numT s k≠[]:=by
    intro e
    rw[e]at hv
    cases hv
   unfold numT at this
   rcases Nat.lt_or_ge k (numEnd s k)with h1|h1
   ·exact h1
   ·exfalso;exact this (by rw[show numEnd s k - k=0 from by omega];rfl)
  ·cases h
 ·cases h
theorem hasPrefix_len:∀(l p:List UInt8),Lib.hasPrefix l p=true→p.length≤l.length:=by
 intro l p h
 exact(List.isPrefixOf_iff_prefix.1 h).length_le
theorem headR_le {L:Nat→PR}{s:List UInt8}{k:Nat}(hk:k≤s.length)(hL:∀j x k2,j≤s.length→L j= .ok x k2→j≤k2∧k2≤s.length){x:Val}{k2:Nat}(h:headR L s k= .ok x k2):k<k2∧k2≤s.length:=by
 unfold headR at h
 split at h
 ·rename_i h1
  cases h
  have:=hasPrefix_len _ _ h1
  simp at this
  omega
 ·split at h
  ·rename_i h1
   have hl:=eatL_lt h1
   cases hq:quotL [] (k+1) (s.drop (k+1))with
   |some r=>
    obtain⟨t,k3⟩:=r
    rw[hq]at h
    cases h
    have:=quotL_le _ _ _ _ (Nat.le_refl _) _ _ hq
    simp at this
    omega
   |none=>rw[hq]at h;cases h
  ·split at h
   ·rename_i h1
    have hl:=eatL_lt h1
    have:=hL _ _ _ (by omega) h
    omega
   ·exact numR_le hk h
theorem listR_le {V:Nat→PR}{s:List UInt8}(hV:∀j x k2,j≤s.length→V j= .ok x k2→j<k2∧k2≤s.length):∀(f k:Nat) (acc:List Val) (x:Val) (k2:Nat),k≤s.length→listR V s f k acc= .ok x k2→k≤k2∧k2≤s.length
 |0,k,acc,x,k2,hk,h=>by cases h
 |f+1,k,acc,x,k2,hk,h=>by
  rw[listR]at h
  split at h
  ·rename_i h1
   have hl:=eatL_lt h1
   cases h
   omega
  ·split at h
   ·cases h
   ·rename_i h1
    have hj:(if acc.length=0 then k else k+1)≤s.length:=by
     split
     ·exact hk
     ·rename_i h2
      have:eatL s k 32=true:=by
       cases he:eatL s k 32 with
       |true=>rfl
       |false=>exact absurd ⟨h2,he⟩ h1
      have:=eatL_lt this
      omega
    split at h
    ·rename_i y k3 hv
     have h3:=hV _ _ _ hj hv
     have:=listR_le hV f k3 _ x k2 h3.2 h
     have:k≤(if acc.length=0 then k else k+1):=by split<;>omega
     omega
    ·cases h
    ·cases h
theorem valR_le:∀(n:Nat) (s:List UInt8) (k:Nat) (x:Val) (k2:Nat),k≤s.length→valR n s k= .ok x k2→k<k2∧k2≤s.length
 |0,s,k,x,k2,hk,h=>headR_le hk (fun j x k2 _ h=>by cases h) h
 |n+1,s,k,x,k2,hk,h=>headR_le hk (fun j x k2 hj h=>listR_le (fun j x k2 hj h=>valR_le n s j x k2 hj h) _ _ _ _ _ hj h) h
end Go.Va
namespace Go.Proofs.YtakljipkaoahnaaGreatDoor
open Go.RowKit Go.Own Go.Own.MapTy Go.Va Go.Sort
open Go.Own.Cells (sz enc)
theorem text_any (s:ByteArray)(w:World):Calls Tryz.prog 59 #[.string s] w fun e w'=>e= .returned (.agg #[.int .i64 2,.int .i64 0,.string s,.slice none 0 0])∧Below w.heap.size w w':=by
 go_enter Tryz.func59,Tryz.ntmps59
 go_wp2_with fail
 exact bodyPost_ret (v:=.agg #[.int .i64 2,.int .i64 0,.string s,.slice none 0 0]) (by simp only[results,Tryz.results59];go_simp) rfl ⟨rfl,zal⟩
theorem vof_any (n:Int)(w:World):Calls Tryz.prog 48 #[.int .i64 n] w fun e w'=>e= .returned (.agg #[.int .i64 1,.int .i64 n,.string ⟨#[]⟩,.slice none 0 0])∧Below w.heap.size w w':=by
 go_enter Tryz.func48,Tryz.ntmps48
 go_wp2_with fail
 exact bodyPost_ret (v:=.agg #[.int .i64 1,.int .i64 n,.string ⟨#[]⟩,.slice none 0 0]) (by simp only[results,Tryz.results48];go_simp) rfl ⟨rfl,zal⟩
theorem eat_T {b:Nat}{s:ByteArray}{k:Nat}{deep:Bool}{c:UInt8}{w:World}(H:TX w b s k deep)(hs:s.size≤4294967280)(he:eatL s.data.toList k c=true):
  Calls Tryz.prog 123 #[.pointer (some ⟨b,0,none⟩),.int .u8 c.toNat] w fun e w'=>e= .returned (.bool true)∧Hid (TX w' b s (k+1) deep∧Keeps (fun j=>j=b) w w'):=
 (eat_any b s k deep c w H hs).mono fun e w' ⟨h1,h2⟩=>⟨by rw[h1,he],zhd (by have:=h2.out;rw[he]at this;exact this)⟩
theorem eat_F {b:Nat}{s:ByteArray}{k:Nat}{deep:Bool}{c:UInt8}{w:World}(H:TX w b s k deep)(hs:s.size≤4294967280)(he:eatL s.data.toList k c=false):
  Calls Tryz.prog 123 #[.pointer (some ⟨b,0,none⟩),.int .u8 c.toNat] w fun e w'=>e= .returned (.bool false)∧Hid (TX w' b s k deep∧Keeps (fun j=>j=b) w w'):=
 (eat_any b s k deep c w H hs).mono fun e w' ⟨h1,h2⟩=>⟨by rw[h1,he],zhd (by have:=h2.out;rw[he]at this;exact this)⟩
def Z4 (W:World)(B:Nat):Prop:=W.heap[B]? =some (.cells #[.int .i64 0,.int .i64 0,.string .empty,.slice none 0 0] 39 (0,0))
theorem Z4.c0 {W:World}{B:Nat}(h:Z4 W B):W.cell? ⟨B,0,none⟩=some (.int .i64 0):=by rw[zch h];rfl
theorem Z4.c1 {W:World}{B:Nat}(h:Z4 W B):W.cell? ⟨B,1,none⟩=some (.int .i64 0):=by rw[zch h];rfl
theorem Z4.c2 {W:World}{B:Nat}(h:Z4 W B):W.cell? ⟨B,2,none⟩=some (.string .empty):=by rw[zch h];rfl
theorem Z4.c3 {W:World}{B:Nat}(h:Z4 W B):W.cell? ⟨B,3,none⟩=some (.slice none 0 0):=by rw[zch h];rfl
theorem Z4.fr {W:World}{B:Nat}(h:Z4 W B)(o:Nat):W.frozen? ⟨B,o,none⟩=false:=zfr h o
structure VS (w:World)(N b:Nat)(s:ByteArray)(k:Nat)(deep:Bool)(W:World):Prop where
 t:TX W b s k deep
 k:Keeps (fun j=>j=b) w W
 z:Z4 W w.heap.size
 g:Gl Tryz.prog N W
 lt:w.heap.size<W.heap.size
theorem VS.step {w W W':World}{N b:Nat}{s:ByteArray}{k k':Nat}{deep deep':Bool}(h:VS w N b s k deep W)(b0:b<w.heap.size)(hN:N≤b)(T:TX W' b s k' deep')(K:Keeps (fun j=>j=b) W W'):VS w N b s k' deep' W':=
 ⟨T,h.k.trans K (fun _ _ e=>e),(K.block _ h.lt (by omega)).trans h.z,h.g.keep K (fun j e=>by omega),Nat.lt_of_lt_of_le h.lt K.size⟩
theorem VS.fin {w W:World}{N b:Nat}{s:ByteArray}{k:Nat}{deep:Bool}(h:VS w N b s k deep W)(b0:b<w.heap.size)(x0 x1 x2 x3:Value):
  TX ((((W.setCell ⟨w.heap.size,0,none⟩ x0).setCell ⟨w.heap.size,1,none⟩ x1).setCell ⟨w.heap.size,2,none⟩ x2).setCell ⟨w.heap.size,3,none⟩ x3) b s k deep∧
  Keeps (fun j=>j=b) w ((((W.setCell ⟨w.heap.size,0,none⟩ x0).setCell ⟨w.heap.size,1,none⟩ x1).setCell ⟨w.heap.size,2,none⟩ x2).setCell ⟨w.heap.size,3,none⟩ x3)∧
  Keeps (fun j=>j=w.heap.size) W ((((W.setCell ⟨w.heap.size,0,none⟩ x0).setCell ⟨w.heap.size,1,none⟩ x1).setCell ⟨w.heap.size,2,none⟩ x2).setCell ⟨w.heap.size,3,none⟩ x3):=by
 have K:=((((Keeps.refl (fun j=>j=w.heap.size) W).setCell (p:=⟨w.heap.size,0,none⟩) (.inl rfl) x0).setCell (p:=⟨w.heap.size,1,none⟩) (.inl rfl) x1).setCell (p:=⟨w.heap.size,2,none⟩) (.inl rfl) x2).setCell (p:=⟨w.heap.size,3,none⟩) (.inl rfl) x3
 exact⟨h.t.keep K (by omega),h.k.trans K (fun j hj e=>by omega),K⟩
theorem VS.own {S:Nat→Prop}{w W W':World}{N b:Nat}{s:ByteArray}{k:Nat}{deep:Bool}(h:VS w N b s k deep W)(b0:b<w.heap.size)(hN:N≤b)(K:Keeps S W W')(hS:∀j,S j→w.heap.size<j):VS w N b s k deep W':=
 ⟨h.t.keep K (fun e=>by have:=hS b e;omega),h.k.trans K (fun j hj e=>by have:=hS j e;omega),(K.block _ h.lt (fun e=>by have:=hS _ e;omega)).trans h.z,h.g.keep K (fun j e=>by have:=hS j e;omega),Nat.lt_of_lt_of_le h.lt K.size⟩
theorem VS.below {w W W':World}{N b:Nat}{s:ByteArray}{k:Nat}{deep:Bool}(h:VS w N b s k deep W)(b0:b<w.heap.size)(hN:N≤b)(K:Below W.heap.size W W'):VS w N b s k deep W':=
 h.step b0 hN (h.t.keep (S:=fun _=>False) (zkb K) (fun f=>f)) ((zkb (S:=fun _=>False) K).mono (fun _ _ f=>f.elim))
theorem VS.move {w W:World}{N b:Nat}{s:ByteArray}{k:Nat}{deep:Bool}(h:VS w N b s k deep W)(b0:b<w.heap.size)(hN:N≤b)(k':Nat):VS w N b s k' deep (W.setCell ⟨b,1,none⟩ (.int .i64 k')):=
 h.step b0 hN (h.t.move k') (Keeps.setCell (S:=fun j=>j=b) (p:=⟨b,1,none⟩) (Keeps.refl _ _) (.inl rfl) _)
theorem TX.flag {w:World}{b:Nat}{s:ByteArray}{k:Nat}{deep:Bool}(H:TX w b s k deep)(d:Bool):TX (w.setCell ⟨b,2,none⟩ (.bool d)) b s k d:=by
 unfold TX at H⊢
 simp[World.setCell,Array.getElem?_modify,H]
theorem VS.flag {w W:World}{N b:Nat}{s:ByteArray}{k:Nat}{deep:Bool}(h:VS w N b s k deep W)(b0:b<w.heap.size)(hN:N≤b)(d:Bool):VS w N b s k d (W.setCell ⟨b,2,none⟩ (.bool d)):=
 h.step b0 hN (h.t.flag d) (Keeps.setCell (S:=fun j=>j=b) (p:=⟨b,2,none⟩) (Keeps.refl _ _) (.inl rfl) _)
theorem TX.alloc {w:World}{b:Nat}{s:ByteArray}{k:Nat}{deep:Bool}(H:TX w b s k deep)(o:Obj):TX (w.alloc o) b s k deep:=H.keep (S:=fun _=>False) ((Keeps.refl _ _).alloc o) (fun f=>f)
def L8 (W:World)(B:Nat)(vl:Value):Prop:=W.heap[B]? =some (.cells #[.int .i64 3,.int .i64 0,.string ⟨#[]⟩,vl] 39 (0,0))
theorem L8.c0 {W:World}{B:Nat}{vl:Value}(h:L8 W B vl):W.cell? ⟨B,0,none⟩=some (.int .i64 3):=by rw[zch h];rfl
theorem L8.c1 {W:World}{B:Nat}{vl:Value}(h:L8 W B vl):W.cell? ⟨B,1,none⟩=some (.int .i64 0):=by rw[zch h];rfl
theorem L8.c2 {W:World}{B:Nat}{vl:Value}(h:L8 W B vl):W.cell? ⟨B,2,none⟩=some (.string ⟨#[]⟩):=by rw[zch h];rfl
theorem L8.c3 {W:World}{B:Nat}{vl:Value}(h:L8 W B vl):W.cell? ⟨B,3,none⟩=some vl:=by rw[zch h];rfl
theorem L8.fr {W:World}{B:Nat}{vl:Value}(h:L8 W B vl)(o:Nat):W.frozen? ⟨B,o,none⟩=false:=zfr h o
theorem L8.lt {W:World}{B:Nat}{vl:Value}(h:L8 W B vl):B<W.heap.size:=zlt h
theorem L8.keep {W W':World}{B:Nat}{vl:Value}{S:Nat→Prop}(h:L8 W B vl)(K:Keeps S W W')(hs:¬S B):L8 W' B vl:=(K.block B h.lt hs).trans h
theorem L8.set {W:World}{B:Nat}{vl:Value}(h:L8 W B vl)(u:Value):L8 (W.setCell ⟨B,3,none⟩ u) B u:=by
 unfold L8 at h⊢
 simp[World.setCell,Array.getElem?_modify,h]
theorem elemV:ElemOf VC Tryz.prog 24 39 56:=elem_mk Tryz.underlying24 (z:=.agg #[.int .i64 0,.int .i64 0,.string .empty,.slice none 0 0]) (n:=4) (by kernel_rfl) rfl rfl
def LF (w:World)(B:Nat)(vl:Value):Nat→Prop:=fun j=>w.heap.size<j∧j≠B∧vl.ownBlock≠some j
def LRel (w:World)(N b:Nat)(s:ByteArray)(B n:Nat)(r:PR)(gk:Nat)(wr:World):Prop:=
 ∃(k:Nat) (acc:List Val) (vl:Value) (f:Nat),gk=s.size - k∧k≤s.size∧s.size - k<f∧VS w N b s k false wr∧L8 wr B vl∧VRow (LF w B vl) wr 39 vl acc∧(∀g,vl.ownBlock=some g→w.heap.size<g∧g≠B)∧listR (valR n s.data.toList) s.data.toList f k acc=r∧acc.length≤k
theorem LRel.app {w w7 w8 w6:World}{N b B n f k2:Nat}{s:ByteArray}{r:PR}{vl v6:Value}{acc:List Val}{cs:List VC}{c:VC}{x:Val}{X Y:Obj}(b0:b<w.heap.size)(hN:N≤b)(lB:w.heap.size<B)(hB7:B<w7.heap.size)(S8:VS w N b s k2 false w8)(h78:w7.heap.size≤w8.heap.size)
  (hR7:∀g,vl.ownBlock=some g→g<w7.heap.size)(hcl:cs.length=acc.length)(hce:∀(i:Nat) (c:VC) (x:Val),cs[i]? =some c→acc[i]? =some x→CF (LF w B vl) w8 c x)(hC:CF (fun j=>w7.heap.size≤j) w8 c x)(hO:∀g,vl.ownBlock=some g→w.heap.size<g∧g≠B)
  (hr6:RowAt w6 39 v6 (cs++[c]))(hk6:Keeps (fun j=>vl.ownBlock=some j) ((w8.alloc X).alloc Y) w6)(hf6:∀g,v6.ownBlock=some g→vl.ownBlock=some g∨((w8.alloc X).alloc Y).heap.size≤g)(L6:L8 w6 B vl)
  (hk2:k2≤s.size)(hf:s.size - k2<f)(hl:listR (valR n s.data.toList) s.data.toList f k2 (acc++[x])=r)(hak:acc.length+1≤k2):LRel w N b s B n r (s.size - k2) (w6.setCell ⟨B,3,none⟩ v6):=by
 have K0:Keeps (fun _=>False) w8 ((w8.alloc X).alloc Y):=((Keeps.refl _ _).alloc _).alloc _
 have sz:w8.heap.size+2=((w8.alloc X).alloc Y).heap.size:=by simp
 have KB:Keeps (fun j=>j=B) w6 (w6.setCell ⟨B,3,none⟩ v6):=Keeps.setCell (S:=fun j=>j=B) (p:=⟨B,3,none⟩) (Keeps.refl _ _) (.inl rfl) _
 have hO6:∀g,v6.ownBlock=some g→w.heap.size<g∧g≠B:=fun g hg=>by
  rcases hf6 g hg with h|h
  ·exact hO g h
  ·omega
 have V6:VRow (LF w B v6) w6 39 v6 (acc++[x]):=by
  refine VRow.app (F:=fun g=>LF w B vl g∧g<w8.heap.size) (w:=(w8.alloc X).alloc Y) hcl (fun i c x h1 h2=>((hce i c x h1 h2).mono (fun g h l=>⟨h,l⟩)).keep K0 (fun _ _ f=>f)) ((hC.mono (fun g h l=>⟨⟨by omega,by omega,fun e=>by have:=hR7 g e;omega⟩,l⟩)).keep K0 (fun _ _ f=>f)) hr6 hk6 (fun g h=>h.1.2.2) (fun g h _=>⟨h.1.1,h.1.2.1,fun e=> ?_⟩)
  rcases hf6 g e with h1|h1
  ·exact h.1.2.2 h1
  ·have:=h.2;omega
 refine⟨k2,acc++[x],v6,f,rfl,hk2,hf,((S8.own b0 hN K0 (fun _ f=>f.elim)).own b0 hN hk6 (fun j e=>(hO j e).1)).own b0 hN KB (fun j e=>by omega),L6.set v6,V6.keep KB (fun g h=>h.2.1) (fun g h=>(hO6 g h).2),hO6,hl,by simp;exact hak⟩
def VPost (w:World)(b:Nat)(s:ByteArray)(r:PR)(e:Ending)(w':World):Prop:=
 ∃(c:VC) (k2:Nat),k2≤s.size∧Keeps (fun j=>j=b) w w'∧match r with
  | .ok x k3=>e= .returned (.tuple #[.agg #[.int .i64 c.kind,.int .i64 c.n,.string c.s,.slice c.la c.ln c.lc],.bool true])∧k2=k3∧CF (fun j=>w.heap.size≤j) w' c x∧TX w' b s k2 false
  | .deep=>e= .returned (.tuple #[.agg #[.int .i64 c.kind,.int .i64 c.n,.string c.s,.slice c.la c.ln c.lc],.bool false])∧TX w' b s k2 true
  | .bad=>e= .returned (.tuple #[.agg #[.int .i64 c.kind,.int .i64 c.n,.string c.s,.slice c.la c.ln c.lc],.bool false])∧TX w' b s k2 false
theorem head_nil {N:Nat}
  (b:Nat)(s:ByteArray)(k:Nat)(d:Nat)(w:World)(H:TX w b s k false)(hs:s.size≤4294967280)(ha:k≤s.size)(G:Gl Tryz.prog N w)(hN:N≤b)
  (hp:Lib.hasPrefix (s.data.toList.drop k) [110,105,108]=true):
  Calls Tryz.prog 89 #[.pointer (some ⟨b,0,none⟩),.int .i64 d] w
   (VPost w b s (.ok vNil (k+3))):=by
 have b0:b<w.heap.size:=H.lt
 have c0:=H.c0
 have c1:=H.c1
 have hkk:(k:Int)≤s.size:=by omega
 have HH:=zh2 H G
 clear H G
 have HPx:=zhd (show∀W,Calls Tryz.prog 122 #[.string (s.extract k s.size),.string ⟨#[110,105,108]⟩] W (fun e w'=>e= .returned (.bool true)∧W=w')from fun W=>(Any.strings_HasPrefix Tryz.lays99 (s.extract k s.size) ⟨#[110,105,108]⟩ W).mono fun e w' ⟨h1,h2⟩=>⟨by rw[h1,show(s.extract k s.size).data.toList=s.data.toList.drop k from by simp[ByteArray.data_extract,List.take_of_length_le],hp],h2.symm⟩)
 have HPP:=zhd hp
 clear hp
 go_enter Tryz.func89,Tryz.ntmps89
 go_wp2_with fail
 refine wp_region_ext (by kernel_rfl) (by kernel_rfl) ?_
 repeat(go_big_quiet_step ((go_at_call 122;exact ext_call_same (HPx.out _))))
 refine wpQuiet_nil ?_
 intro w1 hB1
 have S1:VS w N b s k false w1:=by
  have K0:Keeps (fun _=>False) w w1:=((Keeps.refl (fun _=>False) w).alloc _).trans (zkb hB1) (fun _ _ f=>f)
  exact⟨HH.out.1.keep K0 (fun f=>f),K0.mono (fun _ _ f=>f.elim),(hB1.block _ (by simp)).trans (heap_alloc_new _ _),HH.out.2.keep K0 (fun _ f=>f.elim),by have:=hB1.size;simp at this;omega⟩
 clear c0 c1 hB1
 have c0:=S1.t.c0
 have c1:=S1.t.c1
 have c2:=S1.t.c2
 have z0:=S1.z.c0
 have z1:=S1.z.c1
 have z2:=S1.z.c2
 have z3:=S1.z.c3
 have f0:=S1.t.fr
 have zf:=S1.z.fr
 have lt1:=S1.lt
 have HS:=zhd S1
 clear S1
 have hl:k+3≤s.size:=by
  have:=hasPrefix_len _ _ HPP.out
  simp at this
  omega
 have hw:IntKind.i64.wrap ((k:Int)+3)=(k:Int)+3:=IntWalk.i64_in _ (by omega)
 go_wp2_with fail
 have S2:=HS.out.move b0 hN (k+3)
 have F:=S2.fin b0 (.int .i64 0) (.int .i64 0) (.string ⟨#[]⟩) (.slice none 0 0)
 exact bodyPost_ret (v:=.tuple #[.agg #[.int .i64 0,.int .i64 0,.string ⟨#[]⟩,.slice none 0 0],.bool true]) (by simp only[results,Tryz.results89];go_simp) rfl ⟨⟨0,0,⟨#[]⟩,none,0,0⟩,k+3,hl,F.2.1,rfl,rfl,⟨rfl,rfl,rfl,VF.nil _ _⟩,F.1⟩
theorem head_num {N:Nat}
  (b:Nat)(s:ByteArray)(k:Nat)(d:Nat)(w:World)(H:TX w b s k false)(hs:s.size≤4294967280)(ha:k≤s.size)(G:Gl Tryz.prog N w)(hN:N≤b)
  (hp:Lib.hasPrefix (s.data.toList.drop k) [110,105,108]=false)(h1:eatL s.data.toList k 34=false)(h2:eatL s.data.toList k 91=false)(r:PR)(hr:numR s.data.toList k=r):
  Calls Tryz.prog 89 #[.pointer (some ⟨b,0,none⟩),.int .i64 d] w
   (VPost w b s r):=by
 have HR:=zhd hr
 clear hr
 have b0:b<w.heap.size:=H.lt
 have c0:=H.c0
 have c1:=H.c1
 have hkk:(k:Int)≤s.size:=by omega
 have HH:=zh2 H G
 clear H G
 have HPx:=zhd (show∀W,Calls Tryz.prog 122 #[.string (s.extract k s.size),.string ⟨#[110,105,108]⟩] W (fun e w'=>e= .returned (.bool false)∧W=w')from fun W=>(Any.strings_HasPrefix Tryz.lays99 (s.extract k s.size) ⟨#[110,105,108]⟩ W).mono fun e w' ⟨h1,h2⟩=>⟨by rw[h1,show(s.extract k s.size).data.toList=s.data.toList.drop k from by simp[ByteArray.data_extract,List.take_of_length_le],hp],h2.symm⟩)
 have HPP:=zhd hp
 clear hp
 go_enter Tryz.func89,Tryz.ntmps89
 go_wp2_with fail
 refine wp_region_ext (by kernel_rfl) (by kernel_rfl) ?_
 repeat(go_big_quiet_step ((go_at_call 122;exact ext_call_same (HPx.out _))))
 refine wpQuiet_nil ?_
 intro w1 hB1
 have S1:VS w N b s k false w1:=by
  have K0:Keeps (fun _=>False) w w1:=((Keeps.refl (fun _=>False) w).alloc _).trans (zkb hB1) (fun _ _ f=>f)
  exact⟨HH.out.1.keep K0 (fun f=>f),K0.mono (fun _ _ f=>f.elim),(hB1.block _ (by simp)).trans (heap_alloc_new _ _),HH.out.2.keep K0 (fun _ f=>f.elim),by have:=hB1.size;simp at this;omega⟩
 clear c0 c1 hB1
 have c0:=S1.t.c0
 have c1:=S1.t.c1
 have c2:=S1.t.c2
 have z0:=S1.z.c0
 have z1:=S1.z.c1
 have z2:=S1.z.c2
 have z3:=S1.z.c3
 have f0:=S1.t.fr
 have zf:=S1.z.fr
 have lt1:=S1.lt
 have HS:=zhd S1
 clear S1
 go_wp2_with fail
 refine(eat_F (c:=34) HS.out.t hs h1).mono ?_
 rintro e w2 ⟨rfl,H2⟩
 have S2:=zhd (HS.out.step b0 hN H2.out.1 H2.out.2)
 clear c0 c1 c2 z0 z1 z2 z3 f0 zf
 have c0:=S2.out.t.c0
 have c1:=S2.out.t.c1
 have c2:=S2.out.t.c2
 have z0:=S2.out.z.c0
 have z1:=S2.out.z.c1
 have z2:=S2.out.z.c2
 have z3:=S2.out.z.c3
 have f0:=S2.out.t.fr
 have zf:=S2.out.z.fr
 have lt2:=S2.out.lt
 have bl2:=S2.out.t.lt
 go_wp2_with fail
 refine(eat_F (c:=91) S2.out.t hs h2).mono ?_
 rintro e w3 ⟨rfl,H3⟩
 have S3:=zhd (S2.out.step b0 hN H3.out.1 H3.out.2)
 clear c0 c1 c2 z0 z1 z2 z3 f0 zf
 have c0:=S3.out.t.c0
 have c1:=S3.out.t.c1
 have c2:=S3.out.t.c2
 have z0:=S3.out.z.c0
 have z1:=S3.out.z.c1
 have z2:=S3.out.z.c2
 have z3:=S3.out.z.c3
 have f0:=S3.out.t.fr
 have zf:=S3.out.z.fr
 have lt3:=S3.out.lt
 have bl3:=S3.out.t.lt
 go_wp2_with fail
 refine(number_any b s k false w3 S3.out.t hs ha S3.out.g hN).mono ?_
 rintro e w4 ⟨T4,K4,H4⟩
 have hle:=(numEnd_le (s:=s.data.toList) (k:=k) (by simpa using ha)).2
 have hle:numEnd s.data.toList k≤s.size:=by simpa using hle
 have HL:=zhd hle
 clear hle
 have S4:=zhd (S3.out.step b0 hN T4 K4)
 clear c0 c1 c2 z0 z1 z2 z3 f0 zf
 have c0:=S4.out.t.c0
 have c1:=S4.out.t.c1
 have c2:=S4.out.t.c2
 have z0:=S4.out.z.c0
 have z1:=S4.out.z.c1
 have z2:=S4.out.z.c2
 have z3:=S4.out.z.c3
 have f0:=S4.out.t.fr
 have zf:=S4.out.z.fr
 have lt4:=S4.out.lt
 have bl4:=S4.out.t.lt
 clear T4 K4
 rw[HR.out]at H4
 cases r with
 |ok x k2=>
  obtain⟨rfl,hx,hk2⟩:=H4
  have HX:=zh2 hx hk2
  clear hx hk2
  go_wp2_with fail
  refine(vof_any _ _).mono ?_
  rintro e w5 ⟨rfl,hB5⟩
  have S5:=zhd (S4.out.below b0 hN hB5)
  clear c0 c1 c2 z0 z1 z2 z3 f0 zf
  have c0:=S5.out.t.c0
  have c1:=S5.out.t.c1
  have c2:=S5.out.t.c2
  have z0:=S5.out.z.c0
  have z1:=S5.out.z.c1
  have z2:=S5.out.z.c2
  have z3:=S5.out.z.c3
  have f0:=S5.out.t.fr
  have zf:=S5.out.z.fr
  have lt5:=S5.out.lt
  have bl5:=S5.out.t.lt
  clear hB5
  go_wp2_with fail
  have F:=S5.out.fin b0 (.int .i64 1) (.int .i64 x.num) (.string ⟨#[]⟩) (.slice none 0 0)
  exact bodyPost_ret (v:=.tuple #[.agg #[.int .i64 1,.int .i64 x.num,.string ⟨#[]⟩,.slice none 0 0],.bool true]) (by simp only[results,Tryz.results89];go_simp) rfl ⟨⟨1,x.num,⟨#[]⟩,none,0,0⟩,numEnd s.data.toList k,HL.out,F.2.1,rfl,HX.out.2.symm,by rw[HX.out.1];exact⟨rfl,rfl,rfl,VF.nil _ _⟩,F.1⟩
 |deep=>
  exfalso
  have hn:=HR.out
  unfold numR at hn
  split at hn
  ·split at hn<;>cases hn
  ·cases hn
 |bad=>
  obtain⟨n,rfl⟩:=H4
  go_wp2_with fail
  refine(vof_any _ _).mono ?_
  rintro e w5 ⟨rfl,hB5⟩
  have S5:=zhd (S4.out.below b0 hN hB5)
  clear c0 c1 c2 z0 z1 z2 z3 f0 zf
  have c0:=S5.out.t.c0
  have c1:=S5.out.t.c1
  have c2:=S5.out.t.c2
  have z0:=S5.out.z.c0
  have z1:=S5.out.z.c1
  have z2:=S5.out.z.c2
  have z3:=S5.out.z.c3
  have f0:=S5.out.t.fr
  have zf:=S5.out.z.fr
  have lt5:=S5.out.lt
  have bl5:=S5.out.t.lt
  clear hB5
  go_wp2_with fail
  have F:=S5.out.fin b0 (.int .i64 1) (.int .i64 n) (.string ⟨#[]⟩) (.slice none 0 0)
  exact bodyPost_ret (v:=.tuple #[.agg #[.int .i64 1,.int .i64 n,.string ⟨#[]⟩,.slice none 0 0],.bool false]) (by simp only[results,Tryz.results89];go_simp) rfl ⟨⟨1,n,⟨#[]⟩,none,0,0⟩,numEnd s.data.toList k,HL.out,F.2.1,rfl,F.1⟩
theorem head_quote {N:Nat}
  (b:Nat)(s:ByteArray)(k:Nat)(d:Nat)(w:World)(H:TX w b s k false)(hs:s.size≤4294967280)(ha:k≤s.size)(G:Gl Tryz.prog N w)(hN:N≤b)
  (hp:Lib.hasPrefix (s.data.toList.drop k) [110,105,108]=false)(h1:eatL s.data.toList k 34=true)(q:Option (List UInt8×Nat))(hr:quotL [] (k+1) (s.data.toList.drop (k+1))=q):
  Calls Tryz.prog 89 #[.pointer (some ⟨b,0,none⟩),.int .i64 d] w
   (VPost w b s (quoR q)):=by
 have HR:=zhd hr
 clear hr
 have b0:b<w.heap.size:=H.lt
 have c0:=H.c0
 have c1:=H.c1
 have hkk:(k:Int)≤s.size:=by omega
 have HH:=zh2 H G
 clear H G
 have HPx:=zhd (show∀W,Calls Tryz.prog 122 #[.string (s.extract k s.size),.string ⟨#[110,105,108]⟩] W (fun e w'=>e= .returned (.bool false)∧W=w')from fun W=>(Any.strings_HasPrefix Tryz.lays99 (s.extract k s.size) ⟨#[110,105,108]⟩ W).mono fun e w' ⟨h1,h2⟩=>⟨by rw[h1,show(s.extract k s.size).data.toList=s.data.toList.drop k from by simp[ByteArray.data_extract,List.take_of_length_le],hp],h2.symm⟩)
 have HPP:=zhd hp
 clear hp
 go_enter Tryz.func89,Tryz.ntmps89
 go_wp2_with fail
 refine wp_region_ext (by kernel_rfl) (by kernel_rfl) ?_
 repeat(go_big_quiet_step ((go_at_call 122;exact ext_call_same (HPx.out _))))
 refine wpQuiet_nil ?_
 intro w1 hB1
 have S1:VS w N b s k false w1:=by
  have K0:Keeps (fun _=>False) w w1:=((Keeps.refl (fun _=>False) w).alloc _).trans (zkb hB1) (fun _ _ f=>f)
  exact⟨HH.out.1.keep K0 (fun f=>f),K0.mono (fun _ _ f=>f.elim),(hB1.block _ (by simp)).trans (heap_alloc_new _ _),HH.out.2.keep K0 (fun _ f=>f.elim),by have:=hB1.size;simp at this;omega⟩
 clear c0 c1 hB1
 have c0:=S1.t.c0
 have c1:=S1.t.c1
 have c2:=S1.t.c2
 have z0:=S1.z.c0
 have z1:=S1.z.c1
 have z2:=S1.z.c2
 have z3:=S1.z.c3
 have f0:=S1.t.fr
 have zf:=S1.z.fr
 have lt1:=S1.lt
 have HS:=zhd S1
 clear S1
 have hk1:k+1≤s.size:=by have:=eatL_lt h1;simp at this;omega
 go_wp2_with fail
 refine(eat_T (c:=34) HS.out.t hs h1).mono ?_
 rintro e w2 ⟨rfl,H2⟩
 have S2:=zhd (HS.out.step b0 hN H2.out.1 H2.out.2)
 clear c0 c1 c2 z0 z1 z2 z3 f0 zf
 have c0:=S2.out.t.c0
 have c1:=S2.out.t.c1
 have c2:=S2.out.t.c2
 have z0:=S2.out.z.c0
 have z1:=S2.out.z.c1
 have z2:=S2.out.z.c2
 have z3:=S2.out.z.c3
 have f0:=S2.out.t.fr
 have zf:=S2.out.z.fr
 have lt2:=S2.out.lt
 have bl2:=S2.out.t.lt
 go_wp2_with fail
 refine(quoted_any b s (k+1) false w2 S2.out.t hs hk1).mono ?_
 rintro e w3 ⟨k3,hk3,T3,K3,H3⟩
 have S3:=zhd (S2.out.step b0 hN T3 K3)
 clear c0 c1 c2 z0 z1 z2 z3 f0 zf
 have c0:=S3.out.t.c0
 have c1:=S3.out.t.c1
 have c2:=S3.out.t.c2
 have z0:=S3.out.z.c0
 have z1:=S3.out.z.c1
 have z2:=S3.out.z.c2
 have z3:=S3.out.z.c3
 have f0:=S3.out.t.fr
 have zf:=S3.out.z.fr
 have lt3:=S3.out.lt
 have bl3:=S3.out.t.lt
 clear T3 K3
 rw[HR.out]at H3
 cases q with
 |some r=>
  obtain⟨t,k2⟩:=r
  obtain⟨rfl,hk2⟩:=H3
  have HX:=zhd hk2
  clear hk2
  go_wp2_with fail
  refine(text_any _ _).mono ?_
  rintro e w5 ⟨rfl,hB5⟩
  have S5:=zhd (S3.out.below b0 hN hB5)
  clear c0 c1 c2 z0 z1 z2 z3 f0 zf
  have c0:=S5.out.t.c0
  have c1:=S5.out.t.c1
  have c2:=S5.out.t.c2
  have z0:=S5.out.z.c0
  have z1:=S5.out.z.c1
  have z2:=S5.out.z.c2
  have z3:=S5.out.z.c3
  have f0:=S5.out.t.fr
  have zf:=S5.out.z.fr
  have lt5:=S5.out.lt
  have bl5:=S5.out.t.lt
  clear hB5
  go_wp2_with fail
  have F:=S5.out.fin b0 (.int .i64 2) (.int .i64 0) (.string ⟨t.toArray⟩) (.slice none 0 0)
  exact bodyPost_ret (v:=.tuple #[.agg #[.int .i64 2,.int .i64 0,.string ⟨t.toArray⟩,.slice none 0 0],.bool true]) (by simp only[results,Tryz.results89];go_simp) rfl ⟨⟨2,0,⟨t.toArray⟩,none,0,0⟩,k3,hk3,F.2.1,rfl,HX.out,⟨rfl,rfl,rfl,VF.nil _ _⟩,F.1⟩
 |none=>
  obtain rfl:=H3
  go_wp2_with fail
  refine(text_any _ _).mono ?_
  rintro e w5 ⟨rfl,hB5⟩
  have S5:=zhd (S3.out.below b0 hN hB5)
  clear c0 c1 c2 z0 z1 z2 z3 f0 zf
  have c0:=S5.out.t.c0
  have c1:=S5.out.t.c1
  have c2:=S5.out.t.c2
  have z0:=S5.out.z.c0
  have z1:=S5.out.z.c1
  have z2:=S5.out.z.c2
  have z3:=S5.out.z.c3
  have f0:=S5.out.t.fr
  have zf:=S5.out.z.fr
  have lt5:=S5.out.lt
  have bl5:=S5.out.t.lt
  clear hB5
  go_wp2_with fail
  have F:=S5.out.fin b0 (.int .i64 2) (.int .i64 0) (.string ⟨#[]⟩) (.slice none 0 0)
  exact bodyPost_ret (v:=.tuple #[.agg #[.int .i64 2,.int .i64 0,.string ⟨#[]⟩,.slice none 0 0],.bool false]) (by simp only[results,Tryz.results89];go_simp) rfl ⟨⟨2,0,⟨#[]⟩,none,0,0⟩,k3,hk3,F.2.1,rfl,F.1⟩
theorem head_deep {N:Nat}(b:Nat)(s:ByteArray)(k:Nat)(w:World)(H:TX w b s k false)(hs:s.size≤4294967280)(ha:k≤s.size)(G:Gl Tryz.prog N w)(hN:N≤b)
  (hp:Lib.hasPrefix (s.data.toList.drop k) [110,105,108]=false)(h1:eatL s.data.toList k 34=false)(h2:eatL s.data.toList k 91=true):
  Calls Tryz.prog 89 #[.pointer (some ⟨b,0,none⟩),.int .i64 8] w (VPost w b s .deep):=by
 have b0:b<w.heap.size:=H.lt
 have c0:=H.c0
 have c1:=H.c1
 have hkk:(k:Int)≤s.size:=by omega
 have HH:=zh2 H G
 clear H G
 have HPx:=zhd (show∀W,Calls Tryz.prog 122 #[.string (s.extract k s.size),.string ⟨#[110,105,108]⟩] W (fun e w'=>e= .returned (.bool false)∧W=w')from fun W=>(Any.strings_HasPrefix Tryz.lays99 (s.extract k s.size) ⟨#[110,105,108]⟩ W).mono fun e w' ⟨h1,h2⟩=>⟨by rw[h1,show(s.extract k s.size).data.toList=s.data.toList.drop k from by simp[ByteArray.data_extract,List.take_of_length_le],hp],h2.symm⟩)
 have HPP:=zhd hp
 clear hp
 go_enter Tryz.func89,Tryz.ntmps89
 go_wp2_with fail
 refine wp_region_ext (by kernel_rfl) (by kernel_rfl) ?_
 repeat(go_big_quiet_step ((go_at_call 122;exact ext_call_same (HPx.out _))))
 refine wpQuiet_nil ?_
 intro w1 hB1
 have S1:VS w N b s k false w1:=by
  have K0:Keeps (fun _=>False) w w1:=((Keeps.refl (fun _=>False) w).alloc _).trans (zkb hB1) (fun _ _ f=>f)
  exact⟨HH.out.1.keep K0 (fun f=>f),K0.mono (fun _ _ f=>f.elim),(hB1.block _ (by simp)).trans (heap_alloc_new _ _),HH.out.2.keep K0 (fun _ f=>f.elim),by have:=hB1.size;simp at this;omega⟩
 clear c0 c1 hB1
 have c0:=S1.t.c0
 have c1:=S1.t.c1
 have c2:=S1.t.c2
 have z0:=S1.z.c0
 have z1:=S1.z.c1
 have z2:=S1.z.c2
 have z3:=S1.z.c3
 have f0:=S1.t.fr
 have zf:=S1.z.fr
 have lt1:=S1.lt
 have HS:=zhd S1
 clear S1
 have hk1:k+1≤s.size:=by have:=eatL_lt h2;simp at this;omega
 go_wp2_with fail
 refine(eat_F (c:=34) HS.out.t hs h1).mono ?_
 rintro e w2 ⟨rfl,H2⟩
 have S2:=zhd (HS.out.step b0 hN H2.out.1 H2.out.2)
 clear c0 c1 c2 z0 z1 z2 z3 f0 zf
 have c0:=S2.out.t.c0
 have c1:=S2.out.t.c1
 have c2:=S2.out.t.c2
 have z0:=S2.out.z.c0
 have z1:=S2.out.z.c1
 have z2:=S2.out.z.c2
 have z3:=S2.out.z.c3
 have f0:=S2.out.t.fr
 have zf:=S2.out.z.fr
 have lt2:=S2.out.lt
 have bl2:=S2.out.t.lt
 go_wp2_with fail
 refine(eat_T (c:=91) S2.out.t hs h2).mono ?_
 rintro e w3 ⟨rfl,H3⟩
 have S3:=zhd (S2.out.step b0 hN H3.out.1 H3.out.2)
 clear c0 c1 c2 z0 z1 z2 z3 f0 zf
 have c0:=S3.out.t.c0
 have c1:=S3.out.t.c1
 have c2:=S3.out.t.c2
 have z0:=S3.out.z.c0
 have z1:=S3.out.z.c1
 have z2:=S3.out.z.c2
 have z3:=S3.out.z.c3
 have f0:=S3.out.t.fr
 have zf:=S3.out.z.fr
 have lt3:=S3.out.lt
 have bl3:=S3.out.t.lt
 have n1:¬w3.heap.size=b:=by omega
 have n2:¬b=w3.heap.size:=by omega
 have n3:¬w3.heap.size=w.heap.size:=by omega
 have n4:¬w.heap.size=w3.heap.size:=by omega
 have n5:¬w.heap.size=b:=by omega
 have n6:¬b=w.heap.size:=by omega
 go_wp2_with fail
 have F:=(S3.out.flag b0 hN true).fin b0 (.int .i64 3) (.int .i64 0) (.string ⟨#[]⟩) (.slice none 0 0)
 exact bodyPost_ret (v:=.tuple #[.agg #[.int .i64 3,.int .i64 0,.string ⟨#[]⟩,.slice none 0 0],.bool false]) (by simp only[results,Tryz.results89];go_simp) rfl ⟨⟨3,0,⟨#[]⟩,none,0,0⟩,k+1,hk1,F.2.1.alloc _,rfl,F.1.alloc _⟩
theorem head_list {N:Nat}(n:Nat)
  (b:Nat)(s:ByteArray)(k:Nat)(d:Nat)(w:World)(H:TX w b s k false)(hs:s.size≤4294967280)(ha:k≤s.size)(G:Gl Tryz.prog N w)(hN:N≤b)
  (hd:d<8)(IH:∀(k':Nat) (W:World),TX W b s k' false→k'≤s.size→Gl Tryz.prog N W→Calls Tryz.prog 89 #[.pointer (some ⟨b,0,none⟩),.int .i64 ((d:Int)+1)] W (VPost W b s (valR n s.data.toList k')))
  (hp:Lib.hasPrefix (s.data.toList.drop k) [110,105,108]=false)(h1:eatL s.data.toList k 34=false)(h2:eatL s.data.toList k 91=true)(r:PR)(hr:listR (valR n s.data.toList) s.data.toList (s.data.toList.length+1) (k+1) []=r):
  Calls Tryz.prog 89 #[.pointer (some ⟨b,0,none⟩),.int .i64 d] w
   (VPost w b s r):=by
 have HR:=zhd hr
 have HI:=zhd IH
 clear hr IH
 have b0:b<w.heap.size:=H.lt
 have c0:=H.c0
 have c1:=H.c1
 have hkk:(k:Int)≤s.size:=by omega
 have HH:=zh2 H G
 clear H G
 have HPx:=zhd (show∀W,Calls Tryz.prog 122 #[.string (s.extract k s.size),.string ⟨#[110,105,108]⟩] W (fun e w'=>e= .returned (.bool false)∧W=w')from fun W=>(Any.strings_HasPrefix Tryz.lays99 (s.extract k s.size) ⟨#[110,105,108]⟩ W).mono fun e w' ⟨h1,h2⟩=>⟨by rw[h1,show(s.extract k s.size).data.toList=s.data.toList.drop k from by simp[ByteArray.data_extract,List.take_of_length_le],hp],h2.symm⟩)
 have HPP:=zhd hp
 clear hp
 go_enter Tryz.func89,Tryz.ntmps89
 go_wp2_with fail
 refine wp_region_ext (by kernel_rfl) (by kernel_rfl) ?_
 repeat(go_big_quiet_step ((go_at_call 122;exact ext_call_same (HPx.out _))))
 refine wpQuiet_nil ?_
 intro w1 hB1
 have S1:VS w N b s k false w1:=by
  have K0:Keeps (fun _=>False) w w1:=((Keeps.refl (fun _=>False) w).alloc _).trans (zkb hB1) (fun _ _ f=>f)
  exact⟨HH.out.1.keep K0 (fun f=>f),K0.mono (fun _ _ f=>f.elim),(hB1.block _ (by simp)).trans (heap_alloc_new _ _),HH.out.2.keep K0 (fun _ f=>f.elim),by have:=hB1.size;simp at this;omega⟩
 clear c0 c1 hB1
 have c0:=S1.t.c0
 have c1:=S1.t.c1
 have c2:=S1.t.c2
 have z0:=S1.z.c0
 have z1:=S1.z.c1
 have z2:=S1.z.c2
 have z3:=S1.z.c3
 have f0:=S1.t.fr
 have zf:=S1.z.fr
 have lt1:=S1.lt
 have HS:=zhd S1
 clear S1
 have hk1:k+1≤s.size:=by have:=eatL_lt h2;simp at this;omega
 have hd8:(d:Int)<8:=by omega
 have hd8b:((d:Int)==8)=false:=by rw[beq_eq_false_iff_ne];omega
 go_wp2_with fail
 refine(eat_F (c:=34) HS.out.t hs h1).mono ?_
 rintro e w2 ⟨rfl,H2⟩
 have S2:=zhd (HS.out.step b0 hN H2.out.1 H2.out.2)
 clear c0 c1 c2 z0 z1 z2 z3 f0 zf
 have c0:=S2.out.t.c0
 have c1:=S2.out.t.c1
 have c2:=S2.out.t.c2
 have z0:=S2.out.z.c0
 have z1:=S2.out.z.c1
 have z2:=S2.out.z.c2
 have z3:=S2.out.z.c3
 have f0:=S2.out.t.fr
 have zf:=S2.out.z.fr
 have lt2:=S2.out.lt
 have bl2:=S2.out.t.lt
 go_wp2_with fail
 refine(eat_T (c:=91) S2.out.t hs h2).mono ?_
 rintro e w3 ⟨rfl,H3⟩
 have S3:=zhd (S2.out.step b0 hN H3.out.1 H3.out.2)
 clear c0 c1 c2 z0 z1 z2 z3 f0 zf
 have c0:=S3.out.t.c0
 have c1:=S3.out.t.c1
 have c2:=S3.out.t.c2
 have z0:=S3.out.z.c0
 have z1:=S3.out.z.c1
 have z2:=S3.out.z.c2
 have z3:=S3.out.z.c3
 have f0:=S3.out.t.fr
 have zf:=S3.out.z.fr
 have lt3:=S3.out.lt
 have bl3:=S3.out.t.lt
 go_wp2_with fail
 obtain⟨B,hB⟩:∃B,B=w3.heap.size:=⟨_,rfl⟩
 rw[←hB]
 have hB3:w3.heap.size≤B:=by omega
 have lB:w.heap.size<B:=by omega
 have HBB:=zhd hB
 have n1:¬B=b:=by omega
 have n2:¬b=B:=by omega
 have n3:¬B=w.heap.size:=by omega
 have n4:¬w.heap.size=B:=by omega
 have n5:¬w.heap.size=b:=by omega
 have n6:¬b=w.heap.size:=by omega
 have S4:VS w N b s (k+1) false (w3.alloc (.cells #[.int .i64 3,.int .i64 0,.string ⟨#[]⟩,.slice none 0 0] 39)):=S3.out.below b0 hN (zal)
 have L4:L8 (w3.alloc (.cells #[.int .i64 3,.int .i64 0,.string ⟨#[]⟩,.slice none 0 0] 39)) B (.slice none 0 0):=by rw[hB];exact heap_alloc_new _ _
 clear hB
 go_loopg [] (s.size - (k+1)) (fun gk wr=>LRel w N b s B n r gk wr)
 case atStart=>exact⟨k+1,[],_,s.data.toList.length+1,rfl,hk1,(by have h:s.data.toList.length=s.size:=(by simp);omega),S4,L4,VRow.nil _ _ _,(fun g hg=>by cases hg),HR.out,Nat.zero_le _⟩
 case round=>
  clear c0 c1 c2 z0 z1 z2 z3 f0 zf S4 L4
  obtain⟨k1,acc,vl,f,hgk,hk1',hf,S5,H8,HV,HO,hl,hak⟩:=hrel
  obtain⟨la,lc,rfl⟩:=HV.slice
  cases f with
  |zero=>omega
  |succ f=>
   rw[listR]at hl
   have S5:=zhd S5
   have c0:=S5.out.t.c0
   have c1:=S5.out.t.c1
   have c2:=S5.out.t.c2
   have z0:=S5.out.z.c0
   have z1:=S5.out.z.c1
   have z2:=S5.out.z.c2
   have z3:=S5.out.z.c3
   have f0:=S5.out.t.fr
   have zf:=S5.out.z.fr
   have lt5:=S5.out.lt
   have bl5:=S5.out.t.lt
   by_cases h93:eatL s.data.toList k1 93=true
   ·rw[if_pos h93]at hl
    have HX:=zh4 hl HV HO H8
    have hk2:k1+1≤s.size:=by have:=eatL_lt h93;simp at this;omega
    clear hl HV HO H8 hgk
    go_wp2_with fail
    refine(eat_T (c:=93) S5.out.t hs h93).mono ?_
    rintro e w6 ⟨rfl,H6⟩
    have S6:=zhd (S5.out.step b0 hN H6.out.1 H6.out.2)
    clear c0 c1 c2 z0 z1 z2 z3 f0 zf
    have c0:=S6.out.t.c0
    have c1:=S6.out.t.c1
    have c2:=S6.out.t.c2
    have z0:=S6.out.z.c0
    have z1:=S6.out.z.c1
    have z2:=S6.out.z.c2
    have z3:=S6.out.z.c3
    have f0:=S6.out.t.fr
    have zf:=S6.out.z.fr
    have lt6:=S6.out.lt
    have bl6:=S6.out.t.lt
    have HV6:=HX.out.2.1.keep H6.out.2 (fun g hg e=>by have:=hg.1;omega) (fun g hg e=>by have:=(HX.out.2.2.1 g hg).1;omega)
    have L6:=HX.out.2.2.2.keep H6.out.2 (by omega)
    have d0:=L6.c0
    have d1:=L6.c1
    have d2:=L6.c2
    have d3:=L6.c3
    have df:=L6.fr
    have dl:=L6.lt
    have HL6:=zh2 HV6 L6
    clear HV6 L6
    go_wp2_with fail
    have F:=S6.out.fin b0 (.int .i64 3) (.int .i64 0) (.string ⟨#[]⟩) (.slice la acc.length lc)
    rw[←HX.out.1]
    exact bodyPost_ret (v:=.tuple #[.agg #[.int .i64 3,.int .i64 0,.string ⟨#[]⟩,.slice la acc.length lc],.bool true]) (by simp only[results,Tryz.results89];go_simp) rfl ⟨⟨3,0,⟨#[]⟩,la,acc.length,lc⟩,k1+1,hk2,F.2.1,rfl,rfl,
     ⟨rfl,rfl,rfl,(HL6.out.1.vf (G:=fun j=>w.heap.size<j) (fun g h=>h.1) (fun g h=>(HX.out.2.2.1 g h).1)).keep F.2.2 (fun g h e=>by omega)|>.mono (fun g h _=>by omega)⟩,F.1⟩
   ·rw[if_neg h93]at hl
    have h93':eatL s.data.toList k1 93=false:=by cases he:eatL s.data.toList k1 93 with
     |true=>exact absurd he h93
     |false=>rfl
    clear h93
    by_cases hb:acc.length≠0∧eatL s.data.toList k1 32=false
    ·rw[if_pos hb]at hl
     have HX:=zh4 hl HV HO H8
     obtain⟨hb1,hb2⟩:=hb
     have hb3:(0:Int)<acc.length:=by omega
     have hb4:decide (0<acc.length)=true:=by rw[decide_eq_true_eq];omega
     clear hl HV HO H8 hgk hb1
     go_wp2_with fail
     refine(eat_F (c:=93) S5.out.t hs h93').mono ?_
     rintro e w6 ⟨rfl,H6⟩
     have S6:=zhd (S5.out.step b0 hN H6.out.1 H6.out.2)
     clear c0 c1 c2 z0 z1 z2 z3 f0 zf
     have c0:=S6.out.t.c0
     have c1:=S6.out.t.c1
     have c2:=S6.out.t.c2
     have z0:=S6.out.z.c0
     have z1:=S6.out.z.c1
     have z2:=S6.out.z.c2
     have z3:=S6.out.z.c3
     have f0:=S6.out.t.fr
     have zf:=S6.out.z.fr
     have lt6:=S6.out.lt
     have bl6:=S6.out.t.lt
     have HV6:=HX.out.2.1.keep H6.out.2 (fun g hg e=>by have:=hg.1;omega) (fun g hg e=>by have:=(HX.out.2.2.1 g hg).1;omega)
     have L6:=HX.out.2.2.2.keep H6.out.2 (by omega)
     have d0:=L6.c0
     have d1:=L6.c1
     have d2:=L6.c2
     have d3:=L6.c3
     have df:=L6.fr
     have dl:=L6.lt
     have HL6:=zh2 HV6 L6
     clear HV6 L6
     go_wp2_with fail
     refine(eat_F (c:=32) S6.out.t hs hb2).mono ?_
     rintro e w7 ⟨rfl,H7⟩
     have S7:=zhd (S6.out.step b0 hN H7.out.1 H7.out.2)
     clear c0 c1 c2 z0 z1 z2 z3 f0 zf
     have c0:=S7.out.t.c0
     have c1:=S7.out.t.c1
     have c2:=S7.out.t.c2
     have z0:=S7.out.z.c0
     have z1:=S7.out.z.c1
     have z2:=S7.out.z.c2
     have z3:=S7.out.z.c3
     have f0:=S7.out.t.fr
     have zf:=S7.out.z.fr
     have lt7:=S7.out.lt
     have bl7:=S7.out.t.lt
     have L7:=HL6.out.2.keep H7.out.2 (by omega)
     clear d0 d1 d2 d3 df dl
     have d0:=L7.c0
     have d1:=L7.c1
     have d2:=L7.c2
     have d3:=L7.c3
     have df:=L7.fr
     have dl:=L7.lt
     have HL7:=zhd L7
     clear L7
     go_wp2_with fail
     have F:=S7.out.fin b0 (.int .i64 3) (.int .i64 0) (.string ⟨#[]⟩) (.slice la acc.length lc)
     rw[←HX.out.1]
     exact bodyPost_ret (v:=.tuple #[.agg #[.int .i64 3,.int .i64 0,.string ⟨#[]⟩,.slice la acc.length lc],.bool false]) (by simp only[results,Tryz.results89];go_simp) rfl ⟨⟨3,0,⟨#[]⟩,la,acc.length,lc⟩,k1,hk1',F.2.1,rfl,F.1⟩
    ·rw[if_neg hb]at hl
     obtain⟨kk,hkk2⟩:∃kk,kk=if acc.length=0 then k1 else k1+1:=⟨_,rfl⟩
     rw[←hkk2]at hl
     have hkb:k1≤kk∧kk≤s.size∧(acc.length≠0→kk=k1+1∧eatL s.data.toList k1 32=true)∧(acc.length=0→kk=k1):=by
      by_cases h0:acc.length=0
      ·rw[if_pos h0]at hkk2
       exact⟨by omega,by omega,fun h=>absurd h0 h,fun _=>hkk2⟩
      ·rw[if_neg h0]at hkk2
       have he:eatL s.data.toList k1 32=true:=by cases he:eatL s.data.toList k1 32 with
        |true=>rfl
        |false=>exact absurd ⟨h0,he⟩ hb
       have:=eatL_lt he
       simp at this
       exact⟨by omega,by omega,fun _=>⟨hkk2,he⟩,fun h=>absurd h h0⟩
     obtain⟨hkb1,hkb2,hkb3,hkb4⟩:=hkb
     have HX:=zh4 hl HV HO H8
     have HK:=zh3 hkb3 hkb4 hgk
     clear hl HV HO H8 hgk hb hkk2 hkb3 hkb4
     go_wp2_with fail
     refine(eat_F (c:=93) S5.out.t hs h93').mono ?_
     rintro e w6 ⟨rfl,H6⟩
     have S6:=zhd (S5.out.step b0 hN H6.out.1 H6.out.2)
     clear c0 c1 c2 z0 z1 z2 z3 f0 zf
     have c0:=S6.out.t.c0
     have c1:=S6.out.t.c1
     have c2:=S6.out.t.c2
     have z0:=S6.out.z.c0
     have z1:=S6.out.z.c1
     have z2:=S6.out.z.c2
     have z3:=S6.out.z.c3
     have f0:=S6.out.t.fr
     have zf:=S6.out.z.fr
     have lt6:=S6.out.lt
     have bl6:=S6.out.t.lt
     have HV6:=HX.out.2.1.keep H6.out.2 (fun g hg e=>by have:=hg.1;omega) (fun g hg e=>by have:=(HX.out.2.2.1 g hg).1;omega)
     have L6:=HX.out.2.2.2.keep H6.out.2 (by omega)
     have d0:=L6.c0
     have d1:=L6.c1
     have d2:=L6.c2
     have d3:=L6.c3
     have df:=L6.fr
     have dl:=L6.lt
     have HL6:=zh2 HV6 L6
     clear HV6 L6
     by_cases h0:acc.length=0
     ·have hb3:¬(0:Int)<acc.length:=by omega
      have hb4:decide (0<acc.length)=false:=by rw[decide_eq_false_iff_not];omega
      have S7:Hid (VS w N b s kk false w6):=by rw[HK.out.2.1 h0];exact S6
      have HL7:=HL6
      have HA:=zhd h0
      clear h0
      go_wp2_with fail
      refine(HI.out kk _ S7.out.t hkb2 S7.out.g).mono ?_
      rintro e w8 ⟨c,k2,hk2,K8,H8⟩
      have hl:=HX.out.1
      have hv3:=valR_le n s.data.toList kk
      generalize valR n s.data.toList kk=rv at H8 hl hv3
      have HV8:=HL7.out.1.keep K8 (fun g hg e=>by have:=hg.1;omega) (fun g hg e=>by have:=(HX.out.2.2.1 g hg).1;omega)
      have L8':=HL7.out.2.keep K8 (by omega)
      have szl:=K8.size
      clear c0 c1 c2 z0 z1 z2 z3 f0 zf d0 d1 d2 d3 df dl
      have d0:=L8'.c0
      have d1:=L8'.c1
      have d2:=L8'.c2
      have d3:=L8'.c3
      have df:=L8'.fr
      have dl:=L8'.lt
      have HL8:=zh2 HV8 L8'
      clear HV8 L8'
      cases rv with
      |ok x k3=>
       obtain⟨rfl,rfl,hC,T8⟩:=H8
       have hv3:=(hv3 x k2 (by simpa using hkb2) rfl).1
       have S8:=zhd (S7.out.step b0 hN T8 K8)
       have hlb:w8.heap.size≤w8.heap.size:=Nat.le_refl _
       have m1:¬w8.heap.size=B:=by omega
       have m2:¬B=w8.heap.size:=by omega
       have m3:¬w8.heap.size+1=B:=by omega
       have m4:¬B=w8.heap.size+1:=by omega
       obtain⟨cs,hR,hcl,hce⟩:=HL8.out.1
       have HR8:=zh3 hR hcl hce
       have HC:=zh2 hC hl
       have e8:cs.length=acc.length:=hcl
       have hbd:=zhd (show(cs.length+1)*56≤140737488355328∧cs.length+1≤maxLen from by unfold maxLen;omega)
       have l8:=S8.out.lt
       have bl8:=S8.out.t.lt
       have hsl:∀g,(Value.slice la acc.length lc).ownBlock=some g→w.heap.size<g∧g≠B:=HX.out.2.2.1
       have HO8:=zhd hsl
       clear hR hcl hce hC hl T8 K8 hsl
       have E8:=zhd e8
       clear e8
       go_wp2_with (at_builtin;go_must (refine wp_appW (α:=VC) elemV rfl (.tmp 77) (.tmp 79) rfl (((HR8.out.1.alloc _).alloc _)) c rfl rfl heap_new2 hbd.out.1 hbd.out.2 ?_);intro a6 q6 w9 hr6 hk6 hf6;have L6:L8 w9 B (.slice la acc.length lc):=(HL8.out.2.keep (S:=fun _=>False) (((Keeps.refl _ _).alloc _).alloc _) (fun f=>f)).keep hk6 (fun e=>(HO8.out _ e).2 rfl);clear d0 d1 d2 d3 df dl;have d3:=L6.c3;have df:=L6.fr;have dl:=L6.lt)
       go_roundg (s.size - k2)
       case measure=>have:=HK.out.2.2;omega
       case rel=>
        have hf':=hf
        refine LRel.app (w7:=w6) b0 hN lB HL7.out.2.lt S8.out szl (fun g e=> ?_) HR8.out.2.1 HR8.out.2.2 HC.out.1 HO8.out hr6 hk6 hf6 L6 hk2 (by omega) HC.out.2 (by omega)
        obtain⟨cs7,h7,_⟩:=HL7.out.1
        exact h7.lt e
      |deep=>
       obtain⟨rfl,T8⟩:=H8
       have S8:=zhd (S7.out.step b0 hN T8 K8)
       clear T8 K8
       have z0:=S8.out.z.c0
       have z1:=S8.out.z.c1
       have z2:=S8.out.z.c2
       have z3:=S8.out.z.c3
       have zf:=S8.out.z.fr
       have HZ:=zhd hl
       have l8:=S8.out.lt
       have bl8:=S8.out.t.lt
       clear hl hv3
       go_wp2_with fail
       have F:=S8.out.fin b0 (.int .i64 3) (.int .i64 0) (.string ⟨#[]⟩) (.slice la acc.length lc)
       rw[←HZ.out]
       exact bodyPost_ret (v:=.tuple #[.agg #[.int .i64 3,.int .i64 0,.string ⟨#[]⟩,.slice la acc.length lc],.bool false]) (by simp only[results,Tryz.results89];go_simp) rfl ⟨⟨3,0,⟨#[]⟩,la,acc.length,lc⟩,k2,hk2,F.2.1.alloc _,rfl,F.1.alloc _⟩
      |bad=>
       obtain⟨rfl,T8⟩:=H8
       have S8:=zhd (S7.out.step b0 hN T8 K8)
       clear T8 K8
       have z0:=S8.out.z.c0
       have z1:=S8.out.z.c1
       have z2:=S8.out.z.c2
       have z3:=S8.out.z.c3
       have zf:=S8.out.z.fr
       have HZ:=zhd hl
       have l8:=S8.out.lt
       have bl8:=S8.out.t.lt
       clear hl hv3
       go_wp2_with fail
       have F:=S8.out.fin b0 (.int .i64 3) (.int .i64 0) (.string ⟨#[]⟩) (.slice la acc.length lc)
       rw[←HZ.out]
       exact bodyPost_ret (v:=.tuple #[.agg #[.int .i64 3,.int .i64 0,.string ⟨#[]⟩,.slice la acc.length lc],.bool false]) (by simp only[results,Tryz.results89];go_simp) rfl ⟨⟨3,0,⟨#[]⟩,la,acc.length,lc⟩,k2,hk2,F.2.1.alloc _,rfl,F.1.alloc _⟩
     ·have hb3:(0:Int)<acc.length:=by omega
      have hb4:decide (0<acc.length)=true:=by rw[decide_eq_true_eq];omega
      have HA:=zhd h0
      clear h0
      go_wp2_with fail
      refine(eat_T (c:=32) S6.out.t hs (HK.out.1 HA.out).2).mono ?_
      rintro e w7 ⟨rfl,H7⟩
      clear c0 c1 c2 z0 z1 z2 z3 f0 zf
      have S7:Hid (VS w N b s kk false w7):=zhd (by rw[(HK.out.1 HA.out).1];exact S6.out.step b0 hN H7.out.1 H7.out.2)
      have HV7:=HL6.out.1.keep H7.out.2 (fun g hg e=>by have:=hg.1;omega) (fun g hg e=>by have:=(HX.out.2.2.1 g hg).1;omega)
      have L7:=HL6.out.2.keep H7.out.2 (by omega)
      have HL7:=zh2 HV7 L7
      clear HV7 L7 d0 d1 d2 d3 df dl
      have c0:=S7.out.t.c0
      have c1:=S7.out.t.c1
      have c2:=S7.out.t.c2
      have z0:=S7.out.z.c0
      have z1:=S7.out.z.c1
      have z2:=S7.out.z.c2
      have z3:=S7.out.z.c3
      have f0:=S7.out.t.fr
      have zf:=S7.out.z.fr
      have d0:=HL7.out.2.c0
      have d1:=HL7.out.2.c1
      have d2:=HL7.out.2.c2
      have d3:=HL7.out.2.c3
      have df:=HL7.out.2.fr
      have dl:=HL7.out.2.lt
      go_wp2_with fail
      refine(HI.out kk _ S7.out.t hkb2 S7.out.g).mono ?_
      rintro e w8 ⟨c,k2,hk2,K8,H8⟩
      have hl:=HX.out.1
      have hv3:=valR_le n s.data.toList kk
      generalize valR n s.data.toList kk=rv at H8 hl hv3
      have HV8:=HL7.out.1.keep K8 (fun g hg e=>by have:=hg.1;omega) (fun g hg e=>by have:=(HX.out.2.2.1 g hg).1;omega)
      have L8':=HL7.out.2.keep K8 (by omega)
      have szl:=K8.size
      clear c0 c1 c2 z0 z1 z2 z3 f0 zf d0 d1 d2 d3 df dl
      have d0:=L8'.c0
      have d1:=L8'.c1
      have d2:=L8'.c2
      have d3:=L8'.c3
      have df:=L8'.fr
      have dl:=L8'.lt
      have HL8:=zh2 HV8 L8'
      clear HV8 L8'
      cases rv with
      |ok x k3=>
       obtain⟨rfl,rfl,hC,T8⟩:=H8
       have hv3:=(hv3 x k2 (by simpa using hkb2) rfl).1
       have S8:=zhd (S7.out.step b0 hN T8 K8)
       have hlb:w8.heap.size≤w8.heap.size:=Nat.le_refl _
       have m1:¬w8.heap.size=B:=by omega
       have m2:¬B=w8.heap.size:=by omega
       have m3:¬w8.heap.size+1=B:=by omega
       have m4:¬B=w8.heap.size+1:=by omega
       obtain⟨cs,hR,hcl,hce⟩:=HL8.out.1
       have HR8:=zh3 hR hcl hce
       have HC:=zh2 hC hl
       have e8:cs.length=acc.length:=hcl
       have hbd:=zhd (show(cs.length+1)*56≤140737488355328∧cs.length+1≤maxLen from by unfold maxLen;omega)
       have l8:=S8.out.lt
       have bl8:=S8.out.t.lt
       have hsl:∀g,(Value.slice la acc.length lc).ownBlock=some g→w.heap.size<g∧g≠B:=HX.out.2.2.1
       have HO8:=zhd hsl
       clear hR hcl hce hC hl T8 K8 hsl
       have E8:=zhd e8
       clear e8
       go_wp2_with (at_builtin;go_must (refine wp_appW (α:=VC) elemV rfl (.tmp 77) (.tmp 79) rfl (((HR8.out.1.alloc _).alloc _)) c rfl rfl heap_new2 hbd.out.1 hbd.out.2 ?_);intro a6 q6 w9 hr6 hk6 hf6;have L6:L8 w9 B (.slice la acc.length lc):=(HL8.out.2.keep (S:=fun _=>False) (((Keeps.refl _ _).alloc _).alloc _) (fun f=>f)).keep hk6 (fun e=>(HO8.out _ e).2 rfl);clear d0 d1 d2 d3 df dl;have d3:=L6.c3;have df:=L6.fr;have dl:=L6.lt)
       go_roundg (s.size - k2)
       case measure=>have:=HK.out.2.2;omega
       case rel=>
        have hf':=hf
        refine LRel.app (w7:=w7) b0 hN lB HL7.out.2.lt S8.out szl (fun g e=> ?_) HR8.out.2.1 HR8.out.2.2 HC.out.1 HO8.out hr6 hk6 hf6 L6 hk2 (by omega) HC.out.2 (by omega)
        obtain⟨cs7,h7,_⟩:=HL7.out.1
        exact h7.lt e
      |deep=>
       obtain⟨rfl,T8⟩:=H8
       have S8:=zhd (S7.out.step b0 hN T8 K8)
       clear T8 K8
       have z0:=S8.out.z.c0
       have z1:=S8.out.z.c1
       have z2:=S8.out.z.c2
       have z3:=S8.out.z.c3
       have zf:=S8.out.z.fr
       have HZ:=zhd hl
       have l8:=S8.out.lt
       have bl8:=S8.out.t.lt
       clear hl hv3
       go_wp2_with fail
       have F:=S8.out.fin b0 (.int .i64 3) (.int .i64 0) (.string ⟨#[]⟩) (.slice la acc.length lc)
       rw[←HZ.out]
       exact bodyPost_ret (v:=.tuple #[.agg #[.int .i64 3,.int .i64 0,.string ⟨#[]⟩,.slice la acc.length lc],.bool false]) (by simp only[results,Tryz.results89];go_simp) rfl ⟨⟨3,0,⟨#[]⟩,la,acc.length,lc⟩,k2,hk2,F.2.1.alloc _,rfl,F.1.alloc _⟩
      |bad=>
       obtain⟨rfl,T8⟩:=H8
       have S8:=zhd (S7.out.step b0 hN T8 K8)
       clear T8 K8
       have z0:=S8.out.z.c0
       have z1:=S8.out.z.c1
       have z2:=S8.out.z.c2
       have z3:=S8.out.z.c3
       have zf:=S8.out.z.fr
       have HZ:=zhd hl
       have l8:=S8.out.lt
       have bl8:=S8.out.t.lt
       clear hl hv3
       go_wp2_with fail
       have F:=S8.out.fin b0 (.int .i64 3) (.int .i64 0) (.string ⟨#[]⟩) (.slice la acc.length lc)
       rw[←HZ.out]
       exact bodyPost_ret (v:=.tuple #[.agg #[.int .i64 3,.int .i64 0,.string ⟨#[]⟩,.slice la acc.length lc],.bool false]) (by simp only[results,Tryz.results89];go_simp) rfl ⟨⟨3,0,⟨#[]⟩,la,acc.length,lc⟩,k2,hk2,F.2.1.alloc _,rfl,F.1.alloc _⟩
theorem value_any {N:Nat}:∀(n d:Nat),d+n=8→∀(b:Nat) (s:ByteArray) (k:Nat) (w:World),TX w b s k false→s.size≤4294967280→k≤s.size→Gl Tryz.prog N w→N≤b→
  Calls Tryz.prog 89 #[.pointer (some ⟨b,0,none⟩),.int .i64 d] w (VPost w b s (valR n s.data.toList k))
 |n,d,hd,b,s,k,w,H,hs,ha,G,hN=>by
  have hh:∀(L:Nat→PR),valR n s.data.toList k=headR L s.data.toList k→(eatL s.data.toList k 91=true→Lib.hasPrefix (s.data.toList.drop k) [110,105,108]=false→eatL s.data.toList k 34=false→Calls Tryz.prog 89 #[.pointer (some ⟨b,0,none⟩),.int .i64 d] w (VPost w b s (L (k+1))))→
    Calls Tryz.prog 89 #[.pointer (some ⟨b,0,none⟩),.int .i64 d] w (VPost w b s (valR n s.data.toList k)):=by
   intro L e hL
   rw[e,headR]
   cases hp:Lib.hasPrefix (s.data.toList.drop k) [110,105,108]with
   |true=>exact head_nil b s k d w H hs ha G hN hp
   |false=>
    cases h1:eatL s.data.toList k 34 with
    |true=>exact head_quote b s k d w H hs ha G hN hp h1 _ rfl
    |false=>
     cases h2:eatL s.data.toList k 91 with
     |true=>exact hL h2 hp h1
     |false=>exact head_num b s k d w H hs ha G hN hp h1 h2 _ rfl
  match n,hd,hh with
  |0,hd,hh=>
   refine hh _ rfl (fun h2 hp h1=> ?_)
   obtain rfl:d=8:=by omega
   exact head_deep b s k w H hs ha G hN hp h1 h2
  |n+1,hd,hh=>
   refine hh _ rfl (fun h2 hp h1=> ?_)
   refine head_list n b s k d w H hs ha G hN (by omega) (fun k' W T hk GW=> ?_) hp h1 h2 _ rfl
   exact value_any n (d+1) (by omega) b s k' W T hs hk GW hN
end Go.Proofs.YtakljipkaoahnaaGreatDoor
