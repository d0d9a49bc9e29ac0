/- Parts of the proof: what the functions and the plain laws give that later parts lean on. Conditions: none beyond those that each theorem names. -/
import Derived.Test.YtakljipkaoahnaaGreatDoorB10
set_option maxRecDepth 100000
set_option maxHeartbeats 8000000
namespace Go.Proofs.YtakljipkaoahnaaGreatDoor
open Go.RowKit Go.Own Go.Own.MapTy Go.Va Go.Sort
open Go.Own.Cells (sz enc)
theorem setCell_self {w:World}{b o:Nat}{u:Value}(h:w.cell? ⟨b,o,none⟩=some u):w.setCell ⟨b,o,none⟩ u=w:=by
 simp only[World.setCell]
 congr 1
 refine Array.ext_getElem? fun i=> ?_
 simp only[Array.getElem?_modify]
 by_cases e:b=i
 ·subst e
  rw[if_pos rfl]
  unfold World.cell? at h
  cases hb:w.heap[b]? with
  |none=>rfl
  |some ob=>
   rw[hb]at h
   cases ob with
   |cells cs t fr=>
    simp at h
    simp
    refine Array.ext_getElem? fun j=> ?_
    rw[Array.getElem?_setIfInBounds]
    split
    ·rename_i e2
     subst e2
     split
     ·exact h.symm
     ·rename_i h3;rw[Array.getElem?_eq_none (by omega)]
    ·rfl
   |_=>simp at h
 ·rw[if_neg e]
theorem RowAt.again {α:Type}[Cells α]{w:World}{e:TypeId}{xs:List α}{g off n cap:Nat}{i:Nat}{x y:α}(h:RowAt w e (.slice (some ⟨g,off,none⟩) n cap) (xs.set i x))(hi:i<xs.length){j:Nat}{u:Value}(hj:j<sz α)(hy:enc y=(enc x).set j u):
 RowAt (w.setCell ⟨g,off+i*sz α+j,none⟩ u) e (.slice (some ⟨g,off,none⟩) n cap) (xs.set i y):=by
 have:=RowAt.setOne h (i:=i) (x:=x) (y:=y) (by rw[List.getElem?_set_self hi]) hj hy
 rw[List.set_set,←Nat.add_assoc]at this
 exact this
theorem thing_over {w:World}{e:TypeId}{xs:List TC}{g off n cap:Nat}{i:Nat}{x:TC}(h:RowAt w e (.slice (some ⟨g,off,none⟩) n cap) xs)(hx:xs[i]? =some x)(how:Int)(c:VC):
 RowAt ((((((w.setCell ⟨g,off+i*7+1,none⟩ (.bool true)).setCell ⟨g,off+i*7+6,none⟩ (.int .i64 how)).setCell ⟨g,off+i*7+2,none⟩ (.int .i64 c.kind)).setCell ⟨g,off+i*7+3,none⟩ (.int .i64 c.n)).setCell ⟨g,off+i*7+4,none⟩ (.string c.s)).setCell ⟨g,off+i*7+5,none⟩ (.slice c.la c.ln c.lc)) e (.slice (some ⟨g,off,none⟩) n cap) (xs.set i ⟨x.id,true,c,how⟩):=by
 have hi:=(zge hx).1
 have h0:xs.set i x=xs:=by
  have:=(zge hx).2
  rw[←this,List.set_getElem_self]
 rw[←h0]at h
 have h1:=RowAt.again h hi (j:=1) (u:=.bool true) (y:=⟨x.id,true,x.v,x.how⟩) (by decide) rfl
 have h2:=RowAt.again h1 hi (j:=6) (u:=.int .i64 how) (y:=⟨x.id,true,x.v,how⟩) (by decide) rfl
 have h3:=RowAt.again h2 hi (j:=2) (u:=.int .i64 c.kind) (y:=⟨x.id,true,⟨c.kind,x.v.n,x.v.s,x.v.la,x.v.ln,x.v.lc⟩,how⟩) (by decide) rfl
 have h4:=RowAt.again h3 hi (j:=3) (u:=.int .i64 c.n) (y:=⟨x.id,true,⟨c.kind,c.n,x.v.s,x.v.la,x.v.ln,x.v.lc⟩,how⟩) (by decide) rfl
 have h5:=RowAt.again h4 hi (j:=4) (u:=.string c.s) (y:=⟨x.id,true,⟨c.kind,c.n,c.s,x.v.la,x.v.ln,x.v.lc⟩,how⟩) (by decide) rfl
 exact RowAt.again h5 hi (j:=5) (u:=.slice c.la c.ln c.lc) (y:=⟨x.id,true,c,how⟩) (by decide) rfl
theorem six_keep (w':World)(g o1 o2 o3 o4 o5 o6:Nat)(v1 v2 v3 v4 v5 v6:Value):
 Keeps (fun j=>j=g) w' ((((((w'.setCell ⟨g,o1,none⟩ v1).setCell ⟨g,o2,none⟩ v2).setCell ⟨g,o3,none⟩ v3).setCell ⟨g,o4,none⟩ v4).setCell ⟨g,o5,none⟩ v5).setCell ⟨g,o6,none⟩ v6):=by
 have k0:Keeps (fun j=>j=g) w' w':=Keeps.refl _ _
 have k1:=Keeps.setCell (p:=⟨g,o1,none⟩) k0 (.inl rfl) v1
 have k2:=Keeps.setCell (p:=⟨g,o2,none⟩) k1 (.inl rfl) v2
 have k3:=Keeps.setCell (p:=⟨g,o3,none⟩) k2 (.inl rfl) v3
 have k4:=Keeps.setCell (p:=⟨g,o4,none⟩) k3 (.inl rfl) v4
 have k5:=Keeps.setCell (p:=⟨g,o5,none⟩) k4 (.inl rfl) v5
 exact Keeps.setCell (p:=⟨g,o6,none⟩) k5 (.inl rfl) v6
theorem endT_none {id how:Int}{v:Val}:∀{l:List Th},findT id l=none→endT id how v l=l
 |[],_=>rfl
 |x::r,h=>by
  rw[findT]at h
  split at h
  ·cases h
  ·rename_i hne
   rw[endT,if_neg hne]
   cases hf:findT id r with
   |none=>rw[endT_none hf]
   |some j=>rw[hf]at h;cases h
theorem endT_at {id how:Int}{v:Val}:∀{l:List Th} {i:Nat} {x:Th},findT id l=some i→l[i]? =some x→endT id how v l=bif x.over then l else l.set i ⟨x.id,true,cloneV v,how⟩
 |[],i,x,h,_=>by cases h
 |y::r,i,x,h,hx=>by
  rw[findT]at h
  split at h
  ·rename_i he
   cases h
   simp at hx
   subst hx
   rw[endT,if_pos he]
   rfl
  ·rename_i hne
   rw[endT,if_neg hne]
   cases hf:findT id r with
   |none=>rw[hf]at h;cases h
   |some j=>
    rw[hf]at h
    cases h
    rw[endT_at hf (by simpa using hx)]
    cases x.over<;>rfl
def LtRel (W:World)(nm:ByteArray)(l:List Lt)(gk:Nat)(v12:Value)(wr:World):Prop:=
 ∃i:Nat,v12= .int .i64 i∧i≤l.length∧gk=l.length - i∧findLt nm l=(findLt nm (l.drop i)).map (· +i)∧Below W.heap.size W wr
theorem letter_any
 {Z:Nat→Prop}(b:Nat)(v:MV)(p:Img)(s:MS)(W:World)(M:MX TT Z W b v p s)
 (nm:ByteArray)(r:Int)(hr:ltI nm s.letters=r):
 Calls Tryz.prog 139 #[.pointer (some ⟨b,0,none⟩),.string nm] W (fun e w'=>e= .returned (.int .i64 r)∧Below W.heap.size W w'):=by
 obtain⟨ss,ic,ps,inp,ts,as_,ls,ms⟩:=v
 obtain⟨a,cap,rfl⟩:∃a cap,ls= .slice a s.letters.length cap:=M.lts.slice
 have hb:=zlt M.h
 have c1:W.cell? ⟨b,16,none⟩=some (.slice a s.letters.length cap):=M.cell (k:=16) rfl
 have hlm:s.letters.length≤maxLen:=by
  obtain⟨cs,h1,h2⟩:=M.lts.cells
  rw[←h2.1];exact h1.length_le
 have HR:=zh2 M.lts hr
 clear M hr
 go_enter Tryz.func139,Tryz.ntmps139
 go_wp2_with fail
 go_loopg [12] (s.letters.length) (fun gk v12 wr=>LtRel W nm s.letters gk v12 wr)
 case atStart=>exact⟨0,rfl,Nat.zero_le _,rfl,map_zero,Below.refl _ _⟩
 case round=>
  obtain⟨i,rfl,hi,hgk,hf,hB⟩:=hrel
  by_cases hin:i<s.letters.length
  ·obtain⟨x,hx⟩:=elem_at hin
   obtain⟨g,off,⟨cn,⟨ck,cnn,cs,la,ln,lc⟩⟩,rfl,hg,hc,_,hcs⟩:=(HR.out.1.below hB).at_ hx
   have m0:=hcs 0 _ rfl
   have m1:=hcs 1 _ rfl
   have m2:=hcs 2 _ rfl
   have m3:=hcs 3 _ rfl
   have m4:=hcs 4 _ rfl
   have hci:cn=x.name:=hc.name
   rw[hci]at m0
   simp only[sz,Nat.add_zero]at m0 m1 m2 m3 m4
   have hin':(i:Int)<s.letters.length:=by omega
   have HM:=zhd (show s.letters.length - (i+1)<gk from by omega)
   have HW:=zhd (show wrap64 ((i:Int)+1)=(i:Int)+1 from by unfold maxLen at hlm;unfold wrap64;omega)
   have hi1:i+1≤s.letters.length:=by omega
   have HB:=zhd hB
   by_cases he:x.name=nm
   ·have heb:(x.name.toList==nm.toList)=true:=by rw[he];simp
    have hr:=HR.out.2
    unfold ltI at hr
    rw[findLt_here hx he hf]at hr
    have hr:(i:Int)=r:=hr
    subst hr
    clear hf hcs hc hci hgk he hB
    go_wp2_with fail
    go_ret
    exact⟨rfl,HB.out.alloc HB.out.size _⟩
   ·have heb:(x.name.toList==nm.toList)=false:=by
     rw[beq_eq_false_iff_ne,ByteArray.toList_eq,ByteArray.toList_eq]
     exact fun e=>he (ByteArray.ext (Array.toList_inj.1 e))
    have HF:=zhd (findLt_skip hx he hf)
    clear hf hcs hc hci hgk he hB
    go_wp2_with fail
    go_roundg (s.letters.length - (i+1))
    case measure=>exact HM.out
    case rel=>exact⟨i+1,by rw[HW.out];simp,hi1,rfl,HF.out,HB.out.alloc HB.out.size _⟩
  ·have hin':¬(i:Int)<s.letters.length:=by omega
   have hr:=HR.out.2
   unfold ltI at hr
   rw[hf,List.drop_eq_nil_of_le (by omega)]at hr
   have hr:(-1:Int)=r:=hr
   subst hr
   clear hf hgk
   go_wp2_with fail
   go_ret
   exact⟨rfl,hB⟩
theorem mx_lateB {T:MT}{Z S:Nat→Prop}{W W':World}{b N:Nat}{v:MV}{p:Img}{s:MS}(M:MX T (fun j=>Z j∧j<N) W b v p s)(hS:∀j,S j→N≤j)(hO:∀j,S j→¬MO v b j)(K:Keeps S W W'):MX T Z W' b v p s:=
 (M.far K hO (fun j h e=>by have:=hS j h;have:=e.2;omega)).monoZ (fun _ h _=>h.1)
theorem four_keep (w':World)(b o1 o2 o3 o4:Nat)(v1 v2 v3 v4:Value):Keeps (fun j=>j=b) w' ((((w'.setCell ⟨b,o1,none⟩ v1).setCell ⟨b,o2,none⟩ v2).setCell ⟨b,o3,none⟩ v3).setCell ⟨b,o4,none⟩ v4):=by
 have k0:Keeps (fun j=>j=b) w' w':=Keeps.refl _ _
 have k1:=Keeps.setCell (p:=⟨b,o1,none⟩) k0 (.inl rfl) v1
 have k2:=Keeps.setCell (p:=⟨b,o2,none⟩) k1 (.inl rfl) v2
 have k3:=Keeps.setCell (p:=⟨b,o3,none⟩) k2 (.inl rfl) v3
 exact Keeps.setCell (p:=⟨b,o4,none⟩) k3 (.inl rfl) v4
theorem open_any
 {Z:Nat→Prop}(b:Nat)(v:MV)(p:Img)(s:MS)(W:World)(M:MX TT Z W b v p s)
 (i:Nat)(l:Lt)(hi:s.letters[i]? =some l)(hl:s.letters.length≤4294967296)(hZ:∀j,W.heap.size≤j→Z j):
 Calls Tryz.prog 140 #[.pointer (some ⟨b,0,none⟩),.int .i64 i] W (MPV Z W b v p (s.letV i) (s.openL i)):=by
 obtain⟨ss,ic,ps,inp,ts,as_,ls,ms⟩:=v
 obtain⟨a,cap,rfl⟩:∃a cap,ls= .slice a s.letters.length cap:=M.lts.slice
 obtain⟨ks,hR,hP⟩:=M.lts.cells
 obtain⟨⟨cn,⟨ck,cnn,cs,la,ln,lc⟩⟩,hc,hC⟩:=hP.get hi
 obtain⟨g,off,rfl,hg⟩:=hR.addr hc
 have b0:=zlt M.h
 have cc:=fun(j:Nat) (hj:j<5)=>hR.cell hc (j:=j) hj
 have m1:W.cell? ⟨g,off+i*5+1,none⟩=some (.int .i64 ck):=by rw[Nat.add_assoc];exact cc 1 (by decide)
 have m2:W.cell? ⟨g,off+i*5+2,none⟩=some (.int .i64 cnn):=by rw[Nat.add_assoc];exact cc 2 (by decide)
 have m3:W.cell? ⟨g,off+i*5+3,none⟩=some (.string cs):=by rw[Nat.add_assoc];exact cc 3 (by decide)
 have m4:W.cell? ⟨g,off+i*5+4,none⟩=some (.slice la ln lc):=by rw[Nat.add_assoc];exact cc 4 (by decide)
 have hil:i<s.letters.length:=(zge hi).1
 have hkl:ks.length=s.letters.length:=hP.1
 have hw1:IntKind.i64.wrap ((i:Int)+1)=(i:Int)+1:=IntWalk.i64_in _ (by omega)
 have hw2:wrap64 ((i:Int)+1)=(i:Int)+1:=by unfold wrap64;omega
 have hix:(i:Int)<s.letters.length:=by omega
 obtain⟨sl1,r1⟩:=cut_to elemL hR (k:=i) (by omega)
 obtain⟨ad2,sl2,r2⟩:=cut_from elemL hR (k:=i+1) (by omega)
 rw[show((i+1:Nat):Int)=(i:Int)+1 from by omega]at sl2
 have c1:W.cell? ⟨b,16,none⟩=some (.slice (some ⟨g,off,none⟩) s.letters.length cap):=M.cell (k:=16) rfl
 have f0:∀o,W.frozen? ⟨b,o,none⟩=false:=fun o=>M.frozen o
 obtain⟨wr,hwr⟩:∃wr,wr=(W.alloc (.cells #[.int .i64 0,.int .i64 0,.string ⟨#[]⟩,.slice none 0 0] 39)).alloc (.cells #[.int .i64 ck,.int .i64 cnn,.string cs,.slice la ln lc] 39):=⟨_,rfl⟩
 have hv:s.letV i=l.v:=by unfold MS.letV;rw[hi];rfl
 have HX:=zh8 M hR hP hC.v hZ r1 r2 (zai hv hkl)
 clear M hR hP hC hZ r1 r2 cc hc hi hv hkl
 go_enter Tryz.func140,Tryz.ntmps140
 go_wp2_with fail
 rw[←hwr]
 have B0:Below W.heap.size W wr:=by rw[hwr];exact((Below.refl W.heap.size W).alloc (Nat.le_refl _) _).alloc (by simp) _
 have hb0:wr.heap[W.heap.size]? =some (.cells #[.int .i64 0,.int .i64 0,.string ⟨#[]⟩,.slice none 0 0] 39 (0,0)):=by rw[hwr];exact heap_lt2
 have hb1:wr.heap[W.heap.size+1]? =some (.cells #[.int .i64 ck,.int .i64 cnn,.string cs,.slice la ln lc] 39 (0,0)):=by rw[hwr];exact heap_new2
 have HB:=zh4 B0 hb0 hb1 (B0.block b b0)
 have l1:W.heap.size<wr.heap.size:=zlt hb0
 have l2:W.heap.size+1<wr.heap.size:=zlt hb1
 have b1:b<wr.heap.size:=by omega
 have d1:wr.cell? ⟨b,16,none⟩=some (.slice (some ⟨g,off,none⟩) s.letters.length cap):=(B0.cell (p:=⟨b,16,none⟩) b0).trans c1
 have df:∀o,wr.frozen? ⟨b,o,none⟩=false:=fun o=>(B0.frozen (p:=⟨b,o,none⟩) b0).trans (f0 o)
 have HL:=zhd (show(([]:List LC).length+(ks.take i).length)*72≤140737488355328∧([]:List LC).length+(ks.take i).length≤maxLen∧([]:List LC).length+(ks.take i).length=i∧((ks.take i).length+(ks.drop (i+1)).length)*72≤140737488355328∧(ks.take i).length+(ks.drop (i+1)).length≤maxLen∧(ks.take i).length+(ks.drop (i+1)).length=s.letters.length - 1 from by have:=HX.out.2.2.2.2.2.2.2.2;unfold maxLen;simp;omega)
 clear hwr c1 f0 B0 hb0 hb1 m1 m2 m3 m4
 go_region_law (first
  |(refine step_apps (α:=LC) (o:=⟨some 22,_,_,_,_,_⟩) elemL (by rfl) (.tmp 15) (.tmp 21) (by rfl) (by rfl) (by rfl) (RowAt.none_ (heap_alloc_new _ _)) (((HX.out.2.2.2.2.2.1.below HB.out.1).drew).alloc _) HL.out.1 HL.out.2.1 i HL.out.2.2.1 ?_;intro a5 q5 w5 hr5 hk5 hf5;rw[List.nil_append]at hr5;have P5:=app_fresh (((Keeps.refl (fun _=>False) wr).drew).alloc _) hk5 (own_lit (Nat.le_refl _)) hf5;have hbb:=P5.1.block b b1 (fun f=>f);have e1:w5.cell? ⟨b,16,none⟩=some (.slice (some ⟨g,off,none⟩) s.letters.length cap):=(World.cell?_of_block (w:=wr) hbb).trans d1;have H5:=zh2 hr5 P5;have ef:∀o,w5.frozen? ⟨b,o,none⟩=false:=(fun o=>(World.frozen?_of_block (w:=wr) hbb).trans (df o));have eb:b<w5.heap.size:=Nat.lt_of_lt_of_le b1 P5.1.size;clear hr5 hk5 hf5 P5 hbb)
  |(refine step_apps (α:=LC) (o:=⟨some 30,_,_,_,_,_⟩) elemL (by rfl) (.tmp 22) (.tmp 29) (by rfl) (by rfl) (by rfl) H5.out.1 ((HX.out.2.2.2.2.2.2.1.below HB.out.1).keep H5.out.2.1 (fun _ _ f=>f)) HL.out.2.2.2.1 HL.out.2.2.2.2.1 (s.letters.length - 1) HL.out.2.2.2.2.2 ?_;intro a6 q6 w6 hr6 hk6 hf6;have P6:=app_fresh H5.out.2.1 hk6 H5.out.2.2 hf6;have hbb:=P6.1.block b b1 (fun f=>f);have g1:w6.cell? ⟨b,16,none⟩=some (.slice (some ⟨g,off,none⟩) s.letters.length cap):=(World.cell?_of_block (w:=wr) hbb).trans d1;have H6:=zh2 hr6 P6;have gf:∀o,w6.frozen? ⟨b,o,none⟩=false:=(fun o=>(World.frozen?_of_block (w:=wr) hbb).trans (df o));have gb:b<w6.heap.size:=Nat.lt_of_lt_of_le b1 P6.1.size;clear hr6 hk6 hf6 P6 hbb))
 all_goals
  obtain⟨wz,hwz⟩:∃wz,wz=w6.setCell ⟨b,16,none⟩ (.slice a6 (s.letters.length - 1) q6):=⟨_,rfl⟩
  have S:=HX.out.1.cut.putLts (v1:=.slice a6 (s.letters.length - 1) q6) (s.openL i) H6.out.1 ((HX.out.2.2.1.erase i).mono (fun g h l=>⟨h.1,h.2,l⟩)) (((zkb (S:=fun _=>False) HB.out.1).trans H6.out.2.1 (fun _ _ f=>f)).mono (fun _ _ f=>f.elim)) (fun g hg=>.inr (Nat.le_trans HB.out.1.size (H6.out.2.2 g hg))) rfl
  have hz0:wz.heap[W.heap.size]? =some (.cells #[.int .i64 0,.int .i64 0,.string ⟨#[]⟩,.slice none 0 0] 39 (0,0)):=by
   rw[hwz,Below.heap_setCell _ _ _ _ (fun e=>by have e:W.heap.size=b:=e;omega)]
   exact(H6.out.2.1.block _ l1 (fun f=>f)).trans HB.out.2.1
  have hz1:wz.heap[W.heap.size+1]? =some (.cells #[.int .i64 ck,.int .i64 cnn,.string cs,.slice la ln lc] 39 (0,0)):=by
   rw[hwz,Below.heap_setCell _ _ _ _ (fun e=>by have e:W.heap.size+1=b:=e;omega)]
   exact(H6.out.2.1.block _ l2 (fun f=>f)).trans HB.out.2.2.1
  rw[←hwz]at S⊢
  have HS:=zh2 S (fun g (hg:(Value.slice a6 (s.letters.length - 1) q6).ownBlock=some g)=>H6.out.2.2 g hg)
  have q0:=zca hz0 0 rfl
  have q1:=zca hz0 1 rfl
  have q2:=zca hz0 2 rfl
  have q3:=zca hz0 3 rfl
  have r0:=zca hz1 0 rfl
  have r1:=zca hz1 1 rfl
  have r2:=zca hz1 2 rfl
  have r3:=zca hz1 3 rfl
  have qf:∀o,wz.frozen? ⟨W.heap.size,o,none⟩=false:=fun o=>zfr hz0 o
  have z1:=zlt hz0
  have z2:=zlt hz1
  clear S hwz hz0 hz1 e1 ef eb g1 gf gb d1 df
  go_wp2_with fail
  exact bodyPost_ret (v:=.agg #[.int .i64 ck,.int .i64 cnn,.string cs,.slice la ln lc]) (by simp only[results,Tryz.results140];go_simp) rfl ⟨_,⟨ck,cnn,cs,la,ln,lc⟩,rfl,zhd (by
   have K4:=four_keep wz W.heap.size 0 1 2 3 (.int .i64 ck) (.int .i64 cnn) (.string cs) (.slice la ln lc)
   have KM:=HS.out.1.2.late (K4.mono (fun j _ e=>Nat.le_of_eq e.symm))
   have MM:=mx_lateB HS.out.1.1 (S:=fun j=>j=W.heap.size) (fun j e=>Nat.le_of_eq e.symm) (fun j e h=>by
    rcases MO.turned (v:=⟨ss,ic,ps,inp,ts,as_,.slice (some ⟨g,off,none⟩) s.letters.length cap,ms⟩) (i0:=5) (fun i hi=>by
     match i with
     |0=>rfl
     |1=>rfl
     |2=>rfl
     |3=>rfl
     |4=>rfl
     |5=>exact absurd rfl hi
     |6=>rfl
     |_+7=>rfl) h with h|h
    ·have:=HX.out.1.lt h;have e:j=W.heap.size:=e;omega
    ·have:=HS.out.2 j h;have e:j=W.heap.size:=e;omega) K4
   rw[HX.out.2.2.2.2.2.2.2.1]
   exact⟨MM,KM,CF.step KM HX.out.2.2.2.1⟩)⟩
theorem seven_keep (w':World)(b o1 o2 o3 o4 o5 o6 o7:Nat)(v1 v2 v3 v4 v5 v6 v7:Value):Keeps (fun j=>j=b) w' (((((((w'.setCell ⟨b,o1,none⟩ v1).setCell ⟨b,o2,none⟩ v2).setCell ⟨b,o3,none⟩ v3).setCell ⟨b,o4,none⟩ v4).setCell ⟨b,o5,none⟩ v5).setCell ⟨b,o6,none⟩ v6).setCell ⟨b,o7,none⟩ v7):=Keeps.setCell (p:=⟨b,o7,none⟩) (six_keep w' b o1 o2 o3 o4 o5 o6 v1 v2 v3 v4 v5 v6) (.inl rfl) v7
theorem TF.step {Z:Nat→Prop}{W w':World}{b:Nat}{v v':MV}{c:TC}{x:Th}(K:MK b v W v' w')(h:TF (MZ Z v b) W c x):TF (MZ Z v' b) w' c x:=⟨h.id,h.over,CF.step K h.v,h.how⟩
def MPT (Z:Nat→Prop)(W:World)(b:Nat)(v:MV)(p:Img)(x:Th)(s':MS)(e:Ending)(w':World):Prop:=∃(v':MV) (c:TC),e= .returned (.agg #[.int .i64 c.id,.bool c.over,.int .i64 c.v.kind,.int .i64 c.v.n,.string c.v.s,.slice c.v.la c.v.ln c.v.lc,.int .i64 c.how])∧Hid (MX TT Z w' b v' p s'∧MK b v W v' w'∧TF (MZ Z v' b) w' c x)
theorem takeTms_any
 {Z:Nat→Prop}(b:Nat)(v:MV)(p:Img)(s:MS)(W:World)(M:MX TT Z W b v p s)
 (i:Nat)(l:Th)(hi:s.timers.list[i]? =some l)(hl:s.timers.list.length≤4294967296)(s':MS)(hs':s'={s with timers:=⟨s.timers.list.eraseIdx i,s.timers.next⟩})(hZ:∀j,W.heap.size≤j→Z j):
 Calls Tryz.prog 164 #[.pointer (some ⟨b,12,none⟩),.int .i64 i] W (MPT Z W b v p l s'):=by
 obtain⟨ss,ic,ps,inp,ts,as_,ls,ms⟩:=v
 obtain⟨a,cap,rfl⟩:∃a cap,ts= .slice a s.timers.list.length cap:=M.tms.slice
 obtain⟨ks,hR,hP⟩:=M.tms.cells
 obtain⟨⟨tid,tov,⟨ck,cnn,cs,la,ln,lc⟩,thow⟩,hc,hC⟩:=hP.get hi
 obtain⟨g,off,rfl,hg⟩:=hR.addr hc
 have b0:=zlt M.h
 have cc:=fun(j:Nat) (hj:j<7)=>hR.cell hc (j:=j) hj
 have m0:W.cell? ⟨g,off+i*7,none⟩=some (.int .i64 tid):=cc 0 (by decide)
 have m1:W.cell? ⟨g,off+i*7+1,none⟩=some (.bool tov):=by rw[Nat.add_assoc];exact cc 1 (by decide)
 have m2:W.cell? ⟨g,off+i*7+2,none⟩=some (.int .i64 ck):=by rw[Nat.add_assoc];exact cc 2 (by decide)
 have m3:W.cell? ⟨g,off+i*7+3,none⟩=some (.int .i64 cnn):=by rw[Nat.add_assoc];exact cc 3 (by decide)
 have m4:W.cell? ⟨g,off+i*7+4,none⟩=some (.string cs):=by rw[Nat.add_assoc];exact cc 4 (by decide)
 have m5:W.cell? ⟨g,off+i*7+5,none⟩=some (.slice la ln lc):=by rw[Nat.add_assoc];exact cc 5 (by decide)
 have m6:W.cell? ⟨g,off+i*7+6,none⟩=some (.int .i64 thow):=by rw[Nat.add_assoc];exact cc 6 (by decide)
 have hil:i<s.timers.list.length:=(zge hi).1
 have hkl:ks.length=s.timers.list.length:=hP.1
 have hw1:IntKind.i64.wrap ((i:Int)+1)=(i:Int)+1:=IntWalk.i64_in _ (by omega)
 have hw2:wrap64 ((i:Int)+1)=(i:Int)+1:=by unfold wrap64;omega
 have hix:(i:Int)<s.timers.list.length:=by omega
 obtain⟨sl1,r1⟩:=cut_to elemT hR (k:=i) (by omega)
 obtain⟨ad2,sl2,r2⟩:=cut_from elemT hR (k:=i+1) (by omega)
 rw[show((i+1:Nat):Int)=(i:Int)+1 from by omega]at sl2
 have c1:W.cell? ⟨b,12,none⟩=some (.slice (some ⟨g,off,none⟩) s.timers.list.length cap):=M.cell (k:=12) rfl
 have f0:∀o,W.frozen? ⟨b,o,none⟩=false:=fun o=>M.frozen o
 obtain⟨wr,hwr⟩:∃wr,wr=(W.alloc (.cells #[.int .i64 0,.bool false,.int .i64 0,.int .i64 0,.string ⟨#[]⟩,.slice none 0 0,.int .i64 0] 180)).alloc (.cells #[.int .i64 tid,.bool tov,.int .i64 ck,.int .i64 cnn,.string cs,.slice la ln lc,.int .i64 thow] 180):=⟨_,rfl⟩
 have hv:=hs'
 have HX:=zh8 M hR hP hC hZ r1 r2 (zai hv hkl)
 clear hs' M hR hP hC hZ r1 r2 cc hc hi hv hkl
 go_enter Tryz.func164,Tryz.ntmps164
 go_wp2_with fail
 rw[←hwr]
 have B0:Below W.heap.size W wr:=by rw[hwr];exact((Below.refl W.heap.size W).alloc (Nat.le_refl _) _).alloc (by simp) _
 have hb0:wr.heap[W.heap.size]? =some (.cells #[.int .i64 0,.bool false,.int .i64 0,.int .i64 0,.string ⟨#[]⟩,.slice none 0 0,.int .i64 0] 180 (0,0)):=by rw[hwr];exact heap_lt2
 have hb1:wr.heap[W.heap.size+1]? =some (.cells #[.int .i64 tid,.bool tov,.int .i64 ck,.int .i64 cnn,.string cs,.slice la ln lc,.int .i64 thow] 180 (0,0)):=by rw[hwr];exact heap_new2
 have HB:=zh4 B0 hb0 hb1 (B0.block b b0)
 have l1:W.heap.size<wr.heap.size:=zlt hb0
 have l2:W.heap.size+1<wr.heap.size:=zlt hb1
 have b1:b<wr.heap.size:=by omega
 have d1:wr.cell? ⟨b,12,none⟩=some (.slice (some ⟨g,off,none⟩) s.timers.list.length cap):=(B0.cell (p:=⟨b,12,none⟩) b0).trans c1
 have df:∀o,wr.frozen? ⟨b,o,none⟩=false:=fun o=>(B0.frozen (p:=⟨b,o,none⟩) b0).trans (f0 o)
 have HL:=zhd (show(([]:List TC).length+(ks.take i).length)*80≤140737488355328∧([]:List TC).length+(ks.take i).length≤maxLen∧([]:List TC).length+(ks.take i).length=i∧((ks.take i).length+(ks.drop (i+1)).length)*80≤140737488355328∧(ks.take i).length+(ks.drop (i+1)).length≤maxLen∧(ks.take i).length+(ks.drop (i+1)).length=s.timers.list.length - 1 from by have:=HX.out.2.2.2.2.2.2.2.2;unfold maxLen;simp;omega)
 clear hwr c1 f0 B0 hb0 hb1 m0 m1 m2 m3 m4 m5 m6
 go_region_law (first
  |(refine step_apps (α:=TC) (o:=⟨some 21,_,_,_,_,_⟩) elemT (by rfl) (.tmp 14) (.tmp 20) (by rfl) (by rfl) (by rfl) (RowAt.none_ (heap_alloc_new _ _)) (((HX.out.2.2.2.2.2.1.below HB.out.1).drew).alloc _) HL.out.1 HL.out.2.1 i HL.out.2.2.1 ?_;intro a5 q5 w5 hr5 hk5 hf5;rw[List.nil_append]at hr5;have P5:=app_fresh (((Keeps.refl (fun _=>False) wr).drew).alloc _) hk5 (own_lit (Nat.le_refl _)) hf5;have hbb:=P5.1.block b b1 (fun f=>f);have e1:w5.cell? ⟨b,12,none⟩=some (.slice (some ⟨g,off,none⟩) s.timers.list.length cap):=(World.cell?_of_block (w:=wr) hbb).trans d1;have H5:=zh2 hr5 P5;have ef:∀o,w5.frozen? ⟨b,o,none⟩=false:=(fun o=>(World.frozen?_of_block (w:=wr) hbb).trans (df o));have eb:b<w5.heap.size:=Nat.lt_of_lt_of_le b1 P5.1.size;clear hr5 hk5 hf5 P5 hbb)
  |(refine step_apps (α:=TC) (o:=⟨some 29,_,_,_,_,_⟩) elemT (by rfl) (.tmp 21) (.tmp 28) (by rfl) (by rfl) (by rfl) H5.out.1 ((HX.out.2.2.2.2.2.2.1.below HB.out.1).keep H5.out.2.1 (fun _ _ f=>f)) HL.out.2.2.2.1 HL.out.2.2.2.2.1 (s.timers.list.length - 1) HL.out.2.2.2.2.2 ?_;intro a6 q6 w6 hr6 hk6 hf6;have P6:=app_fresh H5.out.2.1 hk6 H5.out.2.2 hf6;have hbb:=P6.1.block b b1 (fun f=>f);have g1:w6.cell? ⟨b,12,none⟩=some (.slice (some ⟨g,off,none⟩) s.timers.list.length cap):=(World.cell?_of_block (w:=wr) hbb).trans d1;have H6:=zh2 hr6 P6;have gf:∀o,w6.frozen? ⟨b,o,none⟩=false:=(fun o=>(World.frozen?_of_block (w:=wr) hbb).trans (df o));have gb:b<w6.heap.size:=Nat.lt_of_lt_of_le b1 P6.1.size;clear hr6 hk6 hf6 P6 hbb))
 all_goals
  obtain⟨wz,hwz⟩:∃wz,wz=w6.setCell ⟨b,12,none⟩ (.slice a6 (s.timers.list.length - 1) q6):=⟨_,rfl⟩
  have S:=HX.out.1.cut.putTms (v1:=.slice a6 (s.timers.list.length - 1) q6) s' H6.out.1 ((HX.out.2.2.1.erase i).mono (fun g h l=>⟨h.1,h.2,l⟩)) (((zkb (S:=fun _=>False) HB.out.1).trans H6.out.2.1 (fun _ _ f=>f)).mono (fun _ _ f=>f.elim)) (fun g hg=>.inr (Nat.le_trans HB.out.1.size (H6.out.2.2 g hg))) HX.out.2.2.2.2.2.2.2.1
  have hz0:wz.heap[W.heap.size]? =some (.cells #[.int .i64 0,.bool false,.int .i64 0,.int .i64 0,.string ⟨#[]⟩,.slice none 0 0,.int .i64 0] 180 (0,0)):=by
   rw[hwz,Below.heap_setCell _ _ _ _ (fun e=>by have e:W.heap.size=b:=e;omega)]
   exact(H6.out.2.1.block _ l1 (fun f=>f)).trans HB.out.2.1
  have hz1:wz.heap[W.heap.size+1]? =some (.cells #[.int .i64 tid,.bool tov,.int .i64 ck,.int .i64 cnn,.string cs,.slice la ln lc,.int .i64 thow] 180 (0,0)):=by
   rw[hwz,Below.heap_setCell _ _ _ _ (fun e=>by have e:W.heap.size+1=b:=e;omega)]
   exact(H6.out.2.1.block _ l2 (fun f=>f)).trans HB.out.2.2.1
  rw[←hwz]at S⊢
  have HS:=zh2 S (fun g (hg:(Value.slice a6 (s.timers.list.length - 1) q6).ownBlock=some g)=>H6.out.2.2 g hg)
  have q0:=zca hz0 0 rfl
  have q1:=zca hz0 1 rfl
  have q2:=zca hz0 2 rfl
  have q3:=zca hz0 3 rfl
  have q4:=zca hz0 4 rfl
  have q5:=zca hz0 5 rfl
  have q6:=zca hz0 6 rfl
  have r0:=zca hz1 0 rfl
  have r1:=zca hz1 1 rfl
  have r2:=zca hz1 2 rfl
  have r3:=zca hz1 3 rfl
  have r4:=zca hz1 4 rfl
  have r5:=zca hz1 5 rfl
  have r6:=zca hz1 6 rfl
  have qf:∀o,wz.frozen? ⟨W.heap.size,o,none⟩=false:=fun o=>zfr hz0 o
  have z1:=zlt hz0
  have z2:=zlt hz1
  clear S hwz hz0 hz1 e1 ef eb g1 gf gb d1 df
  go_wp2_with fail
  exact bodyPost_ret (v:=.agg #[.int .i64 tid,.bool tov,.int .i64 ck,.int .i64 cnn,.string cs,.slice la ln lc,.int .i64 thow]) (by simp only[results,Tryz.results164];go_simp) rfl ⟨_,⟨tid,tov,⟨ck,cnn,cs,la,ln,lc⟩,thow⟩,rfl,zhd (by
   have K4:=seven_keep wz W.heap.size 0 1 2 3 4 5 6 (.int .i64 tid) (.bool tov) (.int .i64 ck) (.int .i64 cnn) (.string cs) (.slice la ln lc) (.int .i64 thow)
   have KM:=HS.out.1.2.late (K4.mono (fun j _ e=>Nat.le_of_eq e.symm))
   have MM:=mx_lateB HS.out.1.1 (S:=fun j=>j=W.heap.size) (fun j e=>Nat.le_of_eq e.symm) (fun j e h=>by
    rcases MO.turned (v:=⟨ss,ic,ps,inp,.slice (some ⟨g,off,none⟩) s.timers.list.length cap,as_,ls,ms⟩) (i0:=3) (fun i hi=>by
     match i with
     |0=>rfl
     |1=>rfl
     |2=>rfl
     |3=>first|rfl|exact absurd rfl hi
     |4=>first|rfl|exact absurd rfl hi
     |5=>rfl
     |6=>rfl
     |_+7=>rfl) h with h|h
    ·have:=HX.out.1.lt h;have e:j=W.heap.size:=e;omega
    ·have:=HS.out.2 j h;have e:j=W.heap.size:=e;omega) K4
   exact⟨MM,KM,TF.step KM HX.out.2.2.2.1⟩)⟩
theorem takeAcs_any
 {Z:Nat→Prop}(b:Nat)(v:MV)(p:Img)(s:MS)(W:World)(M:MX TT Z W b v p s)
 (i:Nat)(l:Th)(hi:s.acts.list[i]? =some l)(hl:s.acts.list.length≤4294967296)(s':MS)(hs':s'={s with acts:=⟨s.acts.list.eraseIdx i,s.acts.next⟩})(hZ:∀j,W.heap.size≤j→Z j):
 Calls Tryz.prog 164 #[.pointer (some ⟨b,14,none⟩),.int .i64 i] W (MPT Z W b v p l s'):=by
 obtain⟨ss,ic,ps,inp,ts,as_,ls,ms⟩:=v
 obtain⟨a,cap,rfl⟩:∃a cap,as_= .slice a s.acts.list.length cap:=M.acs.slice
 obtain⟨ks,hR,hP⟩:=M.acs.cells
 obtain⟨⟨tid,tov,⟨ck,cnn,cs,la,ln,lc⟩,thow⟩,hc,hC⟩:=hP.get hi
 obtain⟨g,off,rfl,hg⟩:=hR.addr hc
 have b0:=zlt M.h
 have cc:=fun(j:Nat) (hj:j<7)=>hR.cell hc (j:=j) hj
 have m0:W.cell? ⟨g,off+i*7,none⟩=some (.int .i64 tid):=cc 0 (by decide)
 have m1:W.cell? ⟨g,off+i*7+1,none⟩=some (.bool tov):=by rw[Nat.add_assoc];exact cc 1 (by decide)
 have m2:W.cell? ⟨g,off+i*7+2,none⟩=some (.int .i64 ck):=by rw[Nat.add_assoc];exact cc 2 (by decide)
 have m3:W.cell? ⟨g,off+i*7+3,none⟩=some (.int .i64 cnn):=by rw[Nat.add_assoc];exact cc 3 (by decide)
 have m4:W.cell? ⟨g,off+i*7+4,none⟩=some (.string cs):=by rw[Nat.add_assoc];exact cc 4 (by decide)
 have m5:W.cell? ⟨g,off+i*7+5,none⟩=some (.slice la ln lc):=by rw[Nat.add_assoc];exact cc 5 (by decide)
 have m6:W.cell? ⟨g,off+i*7+6,none⟩=some (.int .i64 thow):=by rw[Nat.add_assoc];exact cc 6 (by decide)
 have hil:i<s.acts.list.length:=(zge hi).1
 have hkl:ks.length=s.acts.list.length:=hP.1
 have hw1:IntKind.i64.wrap ((i:Int)+1)=(i:Int)+1:=IntWalk.i64_in _ (by omega)
 have hw2:wrap64 ((i:Int)+1)=(i:Int)+1:=by unfold wrap64;omega
 have hix:(i:Int)<s.acts.list.length:=by omega
 obtain⟨sl1,r1⟩:=cut_to elemT hR (k:=i) (by omega)
 obtain⟨ad2,sl2,r2⟩:=cut_from elemT hR (k:=i+1) (by omega)
 rw[show((i+1:Nat):Int)=(i:Int)+1 from by omega]at sl2
 have c1:W.cell? ⟨b,14,none⟩=some (.slice (some ⟨g,off,none⟩) s.acts.list.length cap):=M.cell (k:=14) rfl
 have f0:∀o,W.frozen? ⟨b,o,none⟩=false:=fun o=>M.frozen o
 obtain⟨wr,hwr⟩:∃wr,wr=(W.alloc (.cells #[.int .i64 0,.bool false,.int .i64 0,.int .i64 0,.string ⟨#[]⟩,.slice none 0 0,.int .i64 0] 180)).alloc (.cells #[.int .i64 tid,.bool tov,.int .i64 ck,.int .i64 cnn,.string cs,.slice la ln lc,.int .i64 thow] 180):=⟨_,rfl⟩
 have hv:=hs'
 have HX:=zh8 M hR hP hC hZ r1 r2 (zai hv hkl)
 clear hs' M hR hP hC hZ r1 r2 cc hc hi hv hkl
 go_enter Tryz.func164,Tryz.ntmps164
 go_wp2_with fail
 rw[←hwr]
 have B0:Below W.heap.size W wr:=by rw[hwr];exact((Below.refl W.heap.size W).alloc (Nat.le_refl _) _).alloc (by simp) _
 have hb0:wr.heap[W.heap.size]? =some (.cells #[.int .i64 0,.bool false,.int .i64 0,.int .i64 0,.string ⟨#[]⟩,.slice none 0 0,.int .i64 0] 180 (0,0)):=by rw[hwr];exact heap_lt2
 have hb1:wr.heap[W.heap.size+1]? =some (.cells #[.int .i64 tid,.bool tov,.int .i64 ck,.int .i64 cnn,.string cs,.slice la ln lc,.int .i64 thow] 180 (0,0)):=by rw[hwr];exact heap_new2
 have HB:=zh4 B0 hb0 hb1 (B0.block b b0)
 have l1:W.heap.size<wr.heap.size:=zlt hb0
 have l2:W.heap.size+1<wr.heap.size:=zlt hb1
 have b1:b<wr.heap.size:=by omega
 have d1:wr.cell? ⟨b,14,none⟩=some (.slice (some ⟨g,off,none⟩) s.acts.list.length cap):=(B0.cell (p:=⟨b,14,none⟩) b0).trans c1
 have df:∀o,wr.frozen? ⟨b,o,none⟩=false:=fun o=>(B0.frozen (p:=⟨b,o,none⟩) b0).trans (f0 o)
 have HL:=zhd (show(([]:List TC).length+(ks.take i).length)*80≤140737488355328∧([]:List TC).length+(ks.take i).length≤maxLen∧([]:List TC).length+(ks.take i).length=i∧((ks.take i).length+(ks.drop (i+1)).length)*80≤140737488355328∧(ks.take i).length+(ks.drop (i+1)).length≤maxLen∧(ks.take i).length+(ks.drop (i+1)).length=s.acts.list.length - 1 from by have:=HX.out.2.2.2.2.2.2.2.2;unfold maxLen;simp;omega)
 clear hwr c1 f0 B0 hb0 hb1 m0 m1 m2 m3 m4 m5 m6
 go_region_law (first
  |(refine step_apps (α:=TC) (o:=⟨some 21,_,_,_,_,_⟩) elemT (by rfl) (.tmp 14) (.tmp 20) (by rfl) (by rfl) (by rfl) (RowAt.none_ (heap_alloc_new _ _)) (((HX.out.2.2.2.2.2.1.below HB.out.1).drew).alloc _) HL.out.1 HL.out.2.1 i HL.out.2.2.1 ?_;intro a5 q5 w5 hr5 hk5 hf5;rw[List.nil_append]at hr5;have P5:=app_fresh (((Keeps.refl (fun _=>False) wr).drew).alloc _) hk5 (own_lit (Nat.le_refl _)) hf5;have hbb:=P5.1.block b b1 (fun f=>f);have e1:w5.cell? ⟨b,14,none⟩=some (.slice (some ⟨g,off,none⟩) s.acts.list.length cap):=(World.cell?_of_block (w:=wr) hbb).trans d1;have H5:=zh2 hr5 P5;have ef:∀o,w5.frozen? ⟨b,o,none⟩=false:=(fun o=>(World.frozen?_of_block (w:=wr) hbb).trans (df o));have eb:b<w5.heap.size:=Nat.lt_of_lt_of_le b1 P5.1.size;clear hr5 hk5 hf5 P5 hbb)
  |(refine step_apps (α:=TC) (o:=⟨some 29,_,_,_,_,_⟩) elemT (by rfl) (.tmp 21) (.tmp 28) (by rfl) (by rfl) (by rfl) H5.out.1 ((HX.out.2.2.2.2.2.2.1.below HB.out.1).keep H5.out.2.1 (fun _ _ f=>f)) HL.out.2.2.2.1 HL.out.2.2.2.2.1 (s.acts.list.length - 1) HL.out.2.2.2.2.2 ?_;intro a6 q6 w6 hr6 hk6 hf6;have P6:=app_fresh H5.out.2.1 hk6 H5.out.2.2 hf6;have hbb:=P6.1.block b b1 (fun f=>f);have g1:w6.cell? ⟨b,14,none⟩=some (.slice (some ⟨g,off,none⟩) s.acts.list.length cap):=(World.cell?_of_block (w:=wr) hbb).trans d1;have H6:=zh2 hr6 P6;have gf:∀o,w6.frozen? ⟨b,o,none⟩=false:=(fun o=>(World.frozen?_of_block (w:=wr) hbb).trans (df o));have gb:b<w6.heap.size:=Nat.lt_of_lt_of_le b1 P6.1.size;clear hr6 hk6 hf6 P6 hbb))
 all_goals
  obtain⟨wz,hwz⟩:∃wz,wz=w6.setCell ⟨b,14,none⟩ (.slice a6 (s.acts.list.length - 1) q6):=⟨_,rfl⟩
  have S:=HX.out.1.cut.putAcs (v1:=.slice a6 (s.acts.list.length - 1) q6) s' H6.out.1 ((HX.out.2.2.1.erase i).mono (fun g h l=>⟨h.1,h.2,l⟩)) (((zkb (S:=fun _=>False) HB.out.1).trans H6.out.2.1 (fun _ _ f=>f)).mono (fun _ _ f=>f.elim)) (fun g hg=>.inr (Nat.le_trans HB.out.1.size (H6.out.2.2 g hg))) HX.out.2.2.2.2.2.2.2.1
  have hz0:wz.heap[W.heap.size]? =some (.cells #[.int .i64 0,.bool false,.int .i64 0,.int .i64 0,.string ⟨#[]⟩,.slice none 0 0,.int .i64 0] 180 (0,0)):=by
   rw[hwz,Below.heap_setCell _ _ _ _ (fun e=>by have e:W.heap.size=b:=e;omega)]
   exact(H6.out.2.1.block _ l1 (fun f=>f)).trans HB.out.2.1
  have hz1:wz.heap[W.heap.size+1]? =some (.cells #[.int .i64 tid,.bool tov,.int .i64 ck,.int .i64 cnn,.string cs,.slice la ln lc,.int .i64 thow] 180 (0,0)):=by
   rw[hwz,Below.heap_setCell _ _ _ _ (fun e=>by have e:W.heap.size+1=b:=e;omega)]
   exact(H6.out.2.1.block _ l2 (fun f=>f)).trans HB.out.2.2.1
  rw[←hwz]at S⊢
  have HS:=zh2 S (fun g (hg:(Value.slice a6 (s.acts.list.length - 1) q6).ownBlock=some g)=>H6.out.2.2 g hg)
  have q0:=zca hz0 0 rfl
  have q1:=zca hz0 1 rfl
  have q2:=zca hz0 2 rfl
  have q3:=zca hz0 3 rfl
  have q4:=zca hz0 4 rfl
  have q5:=zca hz0 5 rfl
  have q6:=zca hz0 6 rfl
  have r0:=zca hz1 0 rfl
  have r1:=zca hz1 1 rfl
  have r2:=zca hz1 2 rfl
  have r3:=zca hz1 3 rfl
  have r4:=zca hz1 4 rfl
  have r5:=zca hz1 5 rfl
  have r6:=zca hz1 6 rfl
  have qf:∀o,wz.frozen? ⟨W.heap.size,o,none⟩=false:=fun o=>zfr hz0 o
  have z1:=zlt hz0
  have z2:=zlt hz1
  clear S hwz hz0 hz1 e1 ef eb g1 gf gb d1 df
  go_wp2_with fail
  exact bodyPost_ret (v:=.agg #[.int .i64 tid,.bool tov,.int .i64 ck,.int .i64 cnn,.string cs,.slice la ln lc,.int .i64 thow]) (by simp only[results,Tryz.results164];go_simp) rfl ⟨_,⟨tid,tov,⟨ck,cnn,cs,la,ln,lc⟩,thow⟩,rfl,zhd (by
   have K4:=seven_keep wz W.heap.size 0 1 2 3 4 5 6 (.int .i64 tid) (.bool tov) (.int .i64 ck) (.int .i64 cnn) (.string cs) (.slice la ln lc) (.int .i64 thow)
   have KM:=HS.out.1.2.late (K4.mono (fun j _ e=>Nat.le_of_eq e.symm))
   have MM:=mx_lateB HS.out.1.1 (S:=fun j=>j=W.heap.size) (fun j e=>Nat.le_of_eq e.symm) (fun j e h=>by
    rcases MO.turned (v:=⟨ss,ic,ps,inp,ts,.slice (some ⟨g,off,none⟩) s.acts.list.length cap,ls,ms⟩) (i0:=4) (fun i hi=>by
     match i with
     |0=>rfl
     |1=>rfl
     |2=>rfl
     |3=>first|rfl|exact absurd rfl hi
     |4=>first|rfl|exact absurd rfl hi
     |5=>rfl
     |6=>rfl
     |_+7=>rfl) h with h|h
    ·have:=HX.out.1.lt h;have e:j=W.heap.size:=e;omega
    ·have:=HS.out.2 j h;have e:j=W.heap.size:=e;omega) K4
   exact⟨MM,KM,TF.step KM HX.out.2.2.2.1⟩)⟩
end Go.Proofs.YtakljipkaoahnaaGreatDoor
namespace Go.Va
open Go.Own Go.RowKit
open Go.Own.Cells (sz enc)
theorem wp_appsR {α:Type}[Cells α]{P:Program}{t e:TypeId}{bytes:Nat}(E:ElemOf α P t e bytes){F:Nat→Prop}{W:World}{ops:Array Oper}{rest:List Oper}{o:Oper}{a:Act}{Q:Exit→Act→World→Prop}
 (hg:o.guard=none)(s x:Operand)(hop:o.op=Op.call {callee:=Callee.builtin Builtin.append,args:=#[s,x],argTypes:=#[t,t]})
 {v u:Value}(hs:a.eval s=v)(hx:a.eval x=u){xs ys:List α}(h:RowAt W e v xs)(hu:RdF F W u ys)
 (hl:(xs.length+ys.length)*bytes≤140737488355328)(h63:xs.length+ys.length≤maxLen)
 (hK:∀a1 q1 w1,RowAt w1 e (.slice a1 (xs.length+ys.length) q1) (xs++ys)→Keeps (fun j=>v.ownBlock=some j) W w1→(∀g,(Value.slice a1 (xs.length+ys.length) q1).ownBlock=some g→v.ownBlock=some g∨W.heap.size≤g)→wpList P ops Q rest (a.put o.dst (.slice a1 (xs.length+ys.length) q1)) w1):
 wpList P ops Q (o::rest) a W:=
 wpList_plain hg fun _ hk=>by
  obtain⟨a1,q1,w1,hr,hr1,hk1,hf1⟩:=run_appsR E h hu hl h63 o.type
  unfold Oper.wp execOp
  simp only[hop,resolve,invoke,builtin,Sem.run_bind,Sem.run_pure,Result.andThen_ok,List.map_toArray,List.map_cons,List.map_nil,hs,hx,hr]
  exact hk _ _ (hK a1 q1 w1 hr1 hk1 hf1)
def cloneI (p:Img):Img:={p with consts:=p.consts.map cloneV}
end Go.Va
namespace Go.Proofs.YtakljipkaoahnaaGreatDoor
open Go.RowKit Go.Own Go.Own.MapTy Go.Va Go.Sort
open Go.Own.Cells (sz enc)
theorem set_sz (w:World)(p:Addr)(v:Value):(w.setCell p v).heap.size=w.heap.size:=by simp[World.setCell]
def ClIPost (W:World)(p:Img)(e:Ending)(w':World):Prop:=∃i:IC,e= .returned (.agg #[.slice i.ca i.cn i.cc,.slice i.ka i.kn i.kc,.slice i.na i.nn i.nc,.int .i64 i.pl])∧Hid (IAt (fun g=>W.heap.size≤g) w' i (cloneI p)∧Below W.heap.size W w')
structure IcL (w wr:World)(N:Nat)(i:IC)(cv v:Value)(code:List In)(l:List Val):Prop where
 b3:wr.heap[w.heap.size+2]? =some (.cells #[cv,v,.slice none 0 0,.int .i64 i.pl] 27 (0,0))
 b2:wr.heap[w.heap.size+1]? =some (.cells #[.slice none 0 0,.slice none 0 0,.slice none 0 0,.int .i64 0] 27 (0,0))
 b1:wr.heap[w.heap.size]? =some (.cells #[.slice i.ca i.cn i.cc,.slice i.ka i.kn i.kc,.slice i.na i.nn i.nc,.int .i64 i.pl] 27 (0,0))
 code:RowAt wr 43 cv code
 cown:∀g,cv.ownBlock=some g→w.heap.size+2<g∧g<N
 row:XRow (fun g=>N≤g∧¬v.ownBlock=some g) wr 39 v (l.map cloneV)
 own:∀g,v.ownBlock=some g→N≤g
 low:w.heap.size+3≤N∧N≤wr.heap.size
 below:Below w.heap.size w wr
theorem IcL.next {w wr W w8 w9:World}{N:Nat}{i:IC}{cv v v1:Value}{code:List In}{l:List Val}{ks:List VC}{c8:VC}{y:Val}{o:Obj}(h:IcL w wr N i cv v code l)(hP:Ptw (fun g=>N≤g∧¬v.ownBlock=some g) wr ks (l.map cloneV))
 (K0:Below wr.heap.size wr W)(hc:CF (fun g=>W.heap.size≤g) w8 c8 (cloneV y))(K8:Below W.heap.size W w8)
 (hr1:RowAt w9 39 v1 (ks++[c8]))(hk1:Keeps (fun j=>v.ownBlock=some j) (w8.alloc o) w9)(hf1:∀g,v1.ownBlock=some g→v.ownBlock=some g∨(w8.alloc o).heap.size≤g):IcL w (w9.setCell ⟨w.heap.size+2,1,none⟩ v1) N i cv v1 code (l++[y]):=by
 have s0:=K0.size
 have s8:=K8.size
 have hN:=h.low
 have hA:(w8.alloc o).heap.size=w8.heap.size+1:=by simp
 have own:∀g,v1.ownBlock=some g→N≤g:=fun g hg=>by
  rcases hf1 g hg with e|e
  ·exact h.own g e
  ·omega
 have KA:Keeps (fun _=>False) wr (w8.alloc o):=(zkb ((K0.trans (K8.mono s0)))).alloc _
 have K9:Keeps (fun j=>v.ownBlock=some j) wr w9:=(KA.mono (fun _ _ f=>f.elim)).trans hk1 (fun j _ e=>e)
 have KS:Keeps (fun j=>j=w.heap.size+2) w9 (w9.setCell ⟨w.heap.size+2,1,none⟩ v1):=Keeps.setCell (S:=fun j=>j=w.heap.size+2) (p:=⟨w.heap.size+2,1,none⟩) (Keeps.refl _ _) (.inl rfl) _
 have nb:∀k,k<N→¬v.ownBlock=some k:=fun k hk e=>by have:=h.own k e;omega
 have b3:=(K9.block _ (zlt h.b3) (nb _ (by omega))).trans h.b3
 have b2:=(K9.block _ (zlt h.b2) (nb _ (by omega))).trans h.b2
 have b1:=(K9.block _ (zlt h.b1) (nb _ (by omega))).trans h.b1
 have hsz:=K9.size
 refine⟨by simp[World.setCell,Array.getElem?_modify,b3],(Below.heap_setCell _ _ _ _ (by simp)).trans b2,(Below.heap_setCell _ _ _ _ (by simp)).trans b1,(h.code.keep K9 (fun g hg=>nb g (h.cown g hg).2)).keep KS (fun g hg e=>by have:=(h.cown g hg).1;have e:g=w.heap.size+2:=e;omega),h.cown,?_,own,⟨hN.1,by rw[set_sz];omega⟩,?_⟩
 ·have P1:Ptw (fun g=>(N≤g∧¬v.ownBlock=some g)∧g<w8.heap.size) (w8.alloc o) ks (l.map cloneV):=(hP.mono (G:=fun g=>(N≤g∧¬v.ownBlock=some g)∧g<w8.heap.size) (fun g hg hl=>⟨hg,by omega⟩)).keep KA (fun _ _ f=>f)
  have C1:CF (fun g=>(N≤g∧¬v.ownBlock=some g)∧g<w8.heap.size) (w8.alloc o) c8 (cloneV y):=(hc.mono (G:=fun g=>(N≤g∧¬v.ownBlock=some g)∧g<w8.heap.size) (fun g hg hl=>⟨⟨by have hg:W.heap.size≤g:=hg;omega,fun e=>by have hg:W.heap.size≤g:=hg;have:=h.row.lt e;omega⟩,hl⟩)).keep (S:=fun _=>False) ((Keeps.refl _ _).alloc _) (fun _ _ f=>f)
  have P2:=((P1.app (Ptw.one C1)).keep hk1 (fun g hg e=>hg.1.2 e)).mono (G:=fun g=>N≤g∧¬v1.ownBlock=some g) (fun g hg _=>⟨hg.1.1,fun e=>(hf1 g e).elim hg.1.2 (fun q=>by have:=hg.2;omega)⟩)
  rw[List.map_append]
  exact(XRow.of hr1 P2).keep KS (fun g hg e=>by have e:g=w.heap.size+2:=e;have:=hg.1;omega) (fun g hg e=>by have e:g=w.heap.size+2:=e;have:=own g hg;omega)
 ·exact(h.below.trans (K9.below h.below.size (fun j hj e=>by have:=h.own j e;omega))).setCell (p:=⟨w.heap.size+2,1,none⟩) (by show w.heap.size≤w.heap.size+2;omega) _
theorem imgclone_any (F:Nat→Prop)(W:World)(i:IC)(p:Img)(H:IAt F W i p)(hz:∀x∈p.consts,szV x≤1073741824)(hlen:p.code.length≤4096∧p.consts.length≤4096∧p.names.length≤4096):
 Calls Tryz.prog 54 #[.agg #[.slice i.ca i.cn i.cc,.slice i.ka i.kn i.kc,.slice i.na i.nn i.nc,.int .i64 i.pl]] W (ClIPost W p):=by
 obtain⟨h1,h2,h3⟩:=H.lens
 obtain⟨ca,cn,cc,ka,kn,kc,na,nn,nc,pl⟩:=i
 dsimp only at h1 h2 h3⊢
 have HX:=zh6 H hz hlen h1 h2 h3
 have HE:=zhd H.consts.elems.2.2
 have hkl:kn≤4096:=by omega
 clear H hz hlen h1 h2 h3
 go_enter Tryz.func54,Tryz.ntmps54
 go_upto_region 2 with(fail)
 refine wp_named ?_
 intro w1 hw1
 have B1:Below W.heap.size W w1:=by rw[hw1];exact((zal).alloc (by simp) _).alloc (by simp;omega) _
 have x3:w1.heap[W.heap.size+2]? =some (.cells #[.slice none 0 0,.slice none 0 0,.slice none 0 0,.int .i64 pl] 27 (0,0)):=by rw[hw1];exact at_new (by simp)
 have x2:w1.heap[W.heap.size+1]? =some (.cells #[.slice none 0 0,.slice none 0 0,.slice none 0 0,.int .i64 0] 27 (0,0)):=by rw[hw1];exact(Below.heap_alloc _ _ _ (by simp)).trans (at_new (by simp))
 have x1:w1.heap[W.heap.size]? =some (.cells #[.slice ca cn cc,.slice ka kn kc,.slice na nn nc,.int .i64 pl] 27 (0,0)):=by rw[hw1];exact(Below.heap_alloc _ _ _ (by simp;omega)).trans ((Below.heap_alloc _ _ _ (by simp)).trans (at_new rfl))
 have hs1:w1.heap.size=W.heap.size+3:=by rw[hw1];simp
 have c30:=zca x3 0 rfl
 have f3:∀o,w1.frozen? ⟨W.heap.size+2,o,none⟩=false:=fun o=>zfr x3 o
 have c10:=zca x1 0 rfl
 have l3:W.heap.size+2<w1.heap.size:=zlt x3
 have l1:W.heap.size<w1.heap.size:=zlt x1
 have HC:=zhd (HX.out.1.code.keep (S:=fun _=>False) (zkb B1) (fun _ _ f=>f))
 have H1:=zh5 B1 x1 x2 x3 hs1
 have HBD:=zhd (show(([]:List In).length+p.code.length)*16≤140737488355328∧([]:List In).length+p.code.length≤maxLen from by have:=HX.out.2.2.1.1;unfold maxLen;simp;omega)
 clear hw1 B1 x1 x2 x3 hs1
 go_upto_region 2 with(fail)
 go_wp2_with (at_builtin;refine wp_appsR (α:=In) elemI rfl (.tmp 10) (.tmp 12) rfl rfl rfl (RowAt.nil _ _) HC.out HBD.out.1 HBD.out.2 ?_;intro a2 q2 w2 hr2 hk2 hf2;simp only[List.length_nil,Nat.zero_add,List.nil_append]at hr2 hf2⊢;have hb3:=(hk2.block (W.heap.size+2) l3 (fun e=>by cases e)).trans H1.out.2.2.2.1;have hb1:=(hk2.block W.heap.size l1 (fun e=>by cases e)).trans H1.out.2.1;have d30:w2.cell? ⟨W.heap.size+2,0,none⟩=some (.slice none 0 0):=(by rw[zch hb3];rfl);have d3:∀o,w2.frozen? ⟨W.heap.size+2,o,none⟩=false:=(fun o=>zfr hb3 o);have m3:=zlt hb3;have e11:w2.cell? ⟨W.heap.size,1,none⟩=some (.slice ka kn kc):=(by rw[zch hb1];rfl);have m1:=zlt hb1;have H2:=zh5 hr2 hk2 hf2 hb3 hb1;clear hr2 hk2 hf2 hb3 hb1)
 go_upto_region 3 with(fail)
 refine wp_named ?_
 intro w3 hw3
 have KS:Keeps (fun j=>j=W.heap.size+2) w2 w3:=by rw[hw3];exact Keeps.setCell (S:=fun j=>j=W.heap.size+2) (p:=⟨W.heap.size+2,0,none⟩) (Keeps.refl _ _) (.inl rfl) _
 have hs2:w1.heap.size≤w2.heap.size:=H2.out.2.1.size
 have hs3:w3.heap.size=w2.heap.size:=by rw[hw3,set_sz]
 have hw1:=H1.out.2.2.2.2
 have hcw:∀g,(Value.slice a2 p.code.length q2).ownBlock=some g→w1.heap.size≤g:=fun g hg=>(H2.out.2.2.1 g hg).resolve_left (fun e=>by cases e)
 have hR2:RowAt w2 43 (.slice a2 p.code.length q2) p.code:=H2.out.1
 have IC0:IcL W w3 w2.heap.size ⟨ca,cn,cc,ka,kn,kc,na,nn,nc,pl⟩ (.slice a2 p.code.length q2) (.slice none 0 0) p.code []:=by
  refine⟨by rw[hw3];have:=H2.out.2.2.2.1;simp[World.setCell,Array.getElem?_modify,this],?_,?_,hR2.keep KS (fun g hg e=>by have:=hcw g hg;have e:g=W.heap.size+2:=e;omega),fun g hg=>⟨by have:=hcw g hg;omega,hR2.lt hg⟩,XRow.nil _ _ _,(fun g h=>by cases h),⟨by omega,by omega⟩,?_⟩
  ·rw[hw3,Below.heap_setCell _ _ _ _ (by simp),H2.out.2.1.block (W.heap.size+1) (by omega) (fun e=>by cases e)]
   exact H1.out.2.2.1
  ·rw[hw3,Below.heap_setCell _ _ _ _ (fun e=>by have e:W.heap.size=W.heap.size+2:=e;omega)]
   exact H2.out.2.2.2.2
  ·exact(H1.out.1.trans ((H2.out.2.1.below (Nat.le_refl _) (fun j hj e=>by cases e)).mono H1.out.1.size)).trans (KS.below (by have:=H1.out.1.size;omega) (fun j hj e=>by have e:j=W.heap.size+2:=e;omega))
 have e11:=zca IC0.b1 1 rfl
 have m1:=zlt IC0.b1
 have HIC:=zhd IC0
 obtain⟨cn2,hcn2⟩:∃n,p.code.length=n:=⟨_,rfl⟩
 have HCN:=zhd hcn2
 rw[hcn2]at HIC⊢
 clear hcn2
 clear hw3 KS hs2 hs3 hw1 hcw hR2 IC0 H2 d30 d3 m3 c30 f3 c10 l3 l1 HC
 go_wp2_with fail
 go_loopg [18] kn (fun gk v18 wr=>∃j:Nat,v18= .int .i64 j∧j≤kn∧gk=kn - j∧Hid (∃v,IcL W wr w2.heap.size ⟨ca,cn,cc,ka,kn,kc,na,nn,nc,pl⟩ (.slice a2 cn2 q2) v p.code (p.consts.take j)))
 case atStart=>exact⟨0,rfl,Nat.zero_le _,rfl,zhd ⟨_,HIC.out⟩⟩
 case round=>
  obtain⟨j,rfl,hj,hgk,HR⟩:=hrel
  obtain⟨v,HR⟩:=HR.out
  obtain⟨ks,hKR,hKP⟩:=HR.row.cells
  obtain⟨a3,c3,rfl⟩:=hKR.slice
  have hkl:ks.length=j:=by
   rw[hKP.1,List.length_map,List.length_take]
   have:=HX.out.2.2.2.2.1
   omega
  rw[hkl]at hKR HR hKP
  have z0:=zca HR.b3 0 rfl
  have z1:=zca HR.b3 1 rfl
  have z2:=zca HR.b3 2 rfl
  have z3:=zca HR.b3 3 rfl
  have zf:∀o,wr.frozen? ⟨W.heap.size+2,o,none⟩=false:=fun o=>zfr HR.b3 o
  have zl:W.heap.size+2<wr.heap.size:=zlt HR.b3
  have y0:=zca HR.b1 2 rfl
  have yl:W.heap.size<wr.heap.size:=zlt HR.b1
  have x0:=zca HR.b2 0 rfl
  have x1:=zca HR.b2 1 rfl
  have x2:=zca HR.b2 2 rfl
  have x3:=zca HR.b2 3 rfl
  have xf:∀o,wr.frozen? ⟨W.heap.size+1,o,none⟩=false:=fun o=>zfr HR.b2 o
  have xl:W.heap.size+1<wr.heap.size:=zlt HR.b2
  by_cases hjn:j<kn
  ·obtain⟨y,hy⟩:=elem_at (l:=p.consts) (k:=j) (by have:=HX.out.2.2.2.2.1;omega)
   obtain⟨g,off,ha,hFg,hg,hel⟩:=HE.out.resolve_left (fun e=>by rw[e]at hy;simp at hy)
   obtain⟨c',hC,q0,q1,q2',q3⟩:=hel j y hy
   rw[←HR.below.cell (p:=⟨g,_,none⟩) hg]at q0 q1 q2' q3
   have hgl:g<wr.heap.size:=Nat.lt_of_lt_of_le hg HR.below.size
   have HBK:=zhd (show(ks.length+[(⟨0,0,⟨#[]⟩,none,0,0⟩:VC)].length)*56≤140737488355328∧ks.length+[(⟨0,0,⟨#[]⟩,none,0,0⟩:VC)].length≤maxLen∧ks.length+[(⟨0,0,⟨#[]⟩,none,0,0⟩:VC)].length=j+1 from by
    have e:ks.length+[(⟨0,0,⟨#[]⟩,none,0,0⟩:VC)].length=j+1:=by rw[hkl];rfl
    rw[e]
    exact⟨by omega,by unfold maxLen;omega,rfl⟩)
   have hjn':(j:Int)<kn:=by omega
   have hwj:wrap64 ((j:Int)+1)=(j:Int)+1:=by unfold wrap64;omega
   have CLW:=zhd (fun W' (B:Below wr.heap.size wr W')=>clone_any y c'.kind c'.n c'.s c'.la c'.ln c'.lc F W' ((hC.keep (S:=fun _=>False) (zkb HR.below) (fun _ _ f=>f)).keep (S:=fun _=>False) (zkb B) (fun _ _ f=>f)) (HX.out.2.1 y (zmg hy)))
   have hta:p.consts.take (j+1)=p.consts.take j++[y]:=by rw[List.take_add_one,hy];rfl
   have NB:=zhd (show∀g,(Value.slice a3 j c3).ownBlock=some g→g≠W.heap.size+2 from fun g hg e=>by have:=HR.own g hg;have:=HR.low;omega)
   have HY:=zh6 HR hKR hKP hta hgk hkl
   subst ha
   clear hel hC hy hta HR hKR hKP hgk hkl hj
   go_upto_region 6 with(fail)
   refine wp_named ?_
   intro w5 hw5
   have B5:=zba hw5
   have hb5:=zha hw5
   have r0:=zca hb5 0 rfl
   have r1:=zca hb5 1 rfl
   have r2:=zca hb5 2 rfl
   have r3:=zca hb5 3 rfl
   have rl:=zlt hb5
   have hz5:=(B5.block _ zl).trans HY.out.1.b3
   have s1:=zca hz5 1 rfl
   have sl:=zlt hz5
   have CL:=zhd (CLW.out w5.drew B5.drew)
   have H5:=zh3 B5 hz5 (HY.out.2.1.below B5)
   clear hw5 B5 hb5 hz5 q0 q1 q2' q3 z0 z1 z2 z3 zf zl y0 yl x0 x1 x2 x3 xf xl
   go_region_law (first
    |(go_simp;go_at_call 57;refine CL.out.mono ?_;rintro e w8 ⟨⟨k8,n8,s8,la8,ln8,lc8⟩,rfl,H8⟩;have hb8:=(H8.out.2.block (W.heap.size+2) sl).trans H5.out.2.1;have y3:w8.cell? ⟨W.heap.size+2,1,none⟩=some (.slice a3 j c3):=(by rw[zch hb8];rfl);have fy:∀o,w8.frozen? ⟨W.heap.size+2,o,none⟩=false:=(fun o=>zfr hb8 o);have ly:W.heap.size+2<w8.heap.size:=(zlt hb8);have HG:=zh2 hb8 (H5.out.2.2.drew.below H8.out.2);clear hb8)
    |(refine step_apps (α:=VC) (o:=⟨some 27,_,_,_,_,_⟩) elemV (by rfl) (.tmp 23) (.tmp 26) (by rfl) (v:=.slice a3 j c3) (u:=.slice (some ⟨w8.heap.size,0,none⟩) 1 1) (by rfl) (by rfl) (xs:=ks) (ys:=[⟨k8,n8,s8,la8,ln8,lc8⟩]) (HG.out.2.alloc _) (RowAt.lit (α:=VC) (y:=⟨k8,n8,s8,la8,ln8,lc8⟩) (heap_alloc_new _ _)) HBK.out.1 HBK.out.2.1 (j+1) HBK.out.2.2 ?_;intro a1 cp w9 hr1 hk1 hf1;have hb9:=(hk1.block (W.heap.size+2) (by simp;omega) (fun e=>NB.out _ e rfl)).trans ((Below.heap_alloc _ _ _ ly).trans HG.out.1);have t3:w9.cell? ⟨W.heap.size+2,1,none⟩=some (.slice a3 j c3):=(by rw[zch hb9];rfl);have fz:∀o,w9.frozen? ⟨W.heap.size+2,o,none⟩=false:=(fun o=>zfr hb9 o);have lz:W.heap.size+2<w9.heap.size:=zlt hb9;have FF:=zh3 hr1 hk1 hf1;clear hr1 hk1 hf1 hb9))
   all_goals
    go_wp2_with fail
    go_roundg (kn - (j+1))
    case measure=>have:=HY.out.2.2.2.2.1;omega
    case rel=>exact⟨j+1,by simp,hjn,rfl,zhd ⟨_,by rw[HY.out.2.2.2.1];exact HY.out.1.next HY.out.2.2.1 H5.out.1.drew H8.out.1 H8.out.2 FF.out.1 FF.out.2.1 FF.out.2.2⟩⟩
  ·obtain rfl:j=kn:=by omega
   have hjj:¬(j:Int)<j:=by omega
   have hT:p.consts.take j=p.consts:=List.take_of_length_le (by have:=HX.out.2.2.2.2.1;omega)
   rw[hT]at HR hKP
   have HNR:=zhd (HX.out.1.names.keep (S:=fun _=>False) (zkb HR.below) (fun _ _ f=>f))
   have HBN:=zhd (show(([]:List ByteArray).length+p.names.length)*16≤140737488355328∧([]:List ByteArray).length+p.names.length≤maxLen from by have:=HX.out.2.2.1.2.2;unfold maxLen;simp;omega)
   have HY:=zhd HR
   clear hT HR hKR hKP hgk hj
   go_wp2_with (at_builtin;go_must (refine wp_appsR (α:=ByteArray) elemS rfl (.tmp 31) (.tmp 33) rfl rfl rfl (RowAt.nil _ _) HNR.out HBN.out.1 HBN.out.2 ?_);intro a5 q5 w5 hr5 hk5 hf5;simp only[List.length_nil,Nat.zero_add,List.nil_append]at hr5 hf5⊢;have hb3:=(hk5.block (W.heap.size+2) zl (fun e=>by cases e)).trans HY.out.b3;have hb2:=(hk5.block (W.heap.size+1) xl (fun e=>by cases e)).trans HY.out.b2;have t0:w5.cell? ⟨W.heap.size+2,0,none⟩=some (.slice a2 cn2 q2):=(by rw[zch hb3];rfl);have t1:w5.cell? ⟨W.heap.size+2,1,none⟩=some (.slice a3 j c3):=(by rw[zch hb3];rfl);have t2:w5.cell? ⟨W.heap.size+2,2,none⟩=some (.slice none 0 0):=(by rw[zch hb3];rfl);have t3:w5.cell? ⟨W.heap.size+2,3,none⟩=some (.int .i64 pl):=(by rw[zch hb3];rfl);have tf:∀o,w5.frozen? ⟨W.heap.size+2,o,none⟩=false:=(fun o=>zfr hb3 o);have tl:=zlt hb3;have u0:w5.cell? ⟨W.heap.size+1,0,none⟩=some (.slice none 0 0):=(by rw[zch hb2];rfl);have u1:w5.cell? ⟨W.heap.size+1,1,none⟩=some (.slice none 0 0):=(by rw[zch hb2];rfl);have u2:w5.cell? ⟨W.heap.size+1,2,none⟩=some (.slice none 0 0):=(by rw[zch hb2];rfl);have u3:w5.cell? ⟨W.heap.size+1,3,none⟩=some (.int .i64 0):=(by rw[zch hb2];rfl);have uf:∀o,w5.frozen? ⟨W.heap.size+1,o,none⟩=false:=(fun o=>zfr hb2 o);have ul:=zlt hb2;have H5:=zh3 hr5 hk5 hf5;clear hr5 hk5 hf5 hb3 hb2)
   refine bodyPost_ret (v:=.agg #[.slice a2 cn2 q2,.slice a3 j c3,.slice a5 p.names.length q5,.int .i64 pl]) (by simp only[results,Tryz.results54];go_simp) rfl ⟨⟨a2,cn2,q2,a3,j,c3,a5,p.names.length,q5,pl⟩,rfl,zhd ⟨?_,?_⟩⟩
   ·have K5:Keeps (fun _=>False) wr w5:=H5.out.2.1.mono (fun _ _ e=>by cases e)
    have KZ:=(((((Keeps.refl (fun j=>j=W.heap.size+2∨j=W.heap.size+1) w5).setCell (p:=⟨W.heap.size+1+1,2,none⟩) (.inl (.inl rfl)) (.slice a5 p.names.length q5)).setCell (p:=⟨W.heap.size+1,0,none⟩) (.inl (.inr rfl)) (.slice a2 cn2 q2)).setCell (p:=⟨W.heap.size+1,1,none⟩) (.inl (.inr rfl)) (.slice a3 j c3)).setCell (p:=⟨W.heap.size+1,2,none⟩) (.inl (.inr rfl)) (.slice a5 p.names.length q5)).setCell (p:=⟨W.heap.size+1,3,none⟩) (.inl (.inr rfl)) (.int .i64 pl)
    obtain⟨ks,hR,hP⟩:=HY.out.row.cells
    have hlow:=HY.out.low
    refine⟨RdF.of_row ((HY.out.code.keep K5 (fun _ _ f=>f)).keep KZ (fun g hg e=> ?_)) (fun g hg=> ?_),VF.of (RdF.of_row ((hR.keep K5 (fun _ _ f=>f)).keep KZ (fun g hg e=> ?_)) (fun g hg=> ?_)) (((hP.keep K5 (fun _ _ f=>f)).keep KZ (fun g hg e=> ?_)).mono (fun g hg _=> ?_)),RdF.of_row (H5.out.1.keep KZ (fun g hg e=> ?_)) (fun g hg=> ?_),HX.out.1.pl⟩
    ·have:=(HY.out.cown g hg).1;omega
    ·show W.heap.size≤g;have:=(HY.out.cown g hg).1;omega
    ·have:=HY.out.own g hg;omega
    ·show W.heap.size≤g;have:=HY.out.own g hg;omega
    ·have:=hg.1;omega
    ·have:=hg.1;omega
    ·rcases H5.out.2.2 g hg with h|h
     ·cases h
     ·omega
    ·rcases H5.out.2.2 g hg with h|h
     ·cases h
     ·show W.heap.size≤g;omega
   ·have KZ:=(((((Keeps.refl (fun j=>j=W.heap.size+2∨j=W.heap.size+1) w5).setCell (p:=⟨W.heap.size+1+1,2,none⟩) (.inl (.inl rfl)) (.slice a5 p.names.length q5)).setCell (p:=⟨W.heap.size+1,0,none⟩) (.inl (.inr rfl)) (.slice a2 cn2 q2)).setCell (p:=⟨W.heap.size+1,1,none⟩) (.inl (.inr rfl)) (.slice a3 j c3)).setCell (p:=⟨W.heap.size+1,2,none⟩) (.inl (.inr rfl)) (.slice a5 p.names.length q5)).setCell (p:=⟨W.heap.size+1,3,none⟩) (.inl (.inr rfl)) (.int .i64 pl)
    have hlow:=HY.out.low
    have hb:=HY.out.below.size
    have K5:Keeps (fun _=>False) wr w5:=H5.out.2.1.mono (fun _ _ e=>by cases e)
    exact(HY.out.below.trans ((K5.below (Nat.le_refl _) (fun _ _ f=>f)).mono hb)).trans (KZ.below (by have:=K5.size;omega) (fun jz hj e=>by omega))
end Go.Proofs.YtakljipkaoahnaaGreatDoor
