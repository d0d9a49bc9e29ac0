/- Parts of the proof: what the functions and the plain laws give that later parts lean on. Conditions: none beyond those that each theorem names. -/
import Derived.Test.YtakljipkaoahnaaGreatDoorB24
set_option maxRecDepth 100000
set_option maxHeartbeats 8000000
namespace Go.Va
open Go.Own Go.RowKit
theorem pathF_bd (code:List In):∀(f k:Nat),1≤pathF code f k∧pathF code f k≤f+1
 |0,_=>⟨Nat.le_refl _,Nat.le_refl _⟩
 |f+1,k=>by
  rw[pathF]
  cases restsAt code k with
  |true=>exact⟨Nat.le_refl _,by simp only[cond_true];omega⟩
  |false=>
   simp only[cond_false]
   have key:∀(l:List Nat) (a:Nat),1≤a→a≤f+2→1≤l.foldl (fun n x=>if x<code.length∧n<pathF code f x+1 then pathF code f x+1 else n) a∧l.foldl (fun n x=>if x<code.length∧n<pathF code f x+1 then pathF code f x+1 else n) a≤f+2:=by
    intro l
    induction l with
    |nil=>exact fun a h1 h2=>⟨h1,h2⟩
    |cons x r ih=>
     intro a h1 h2
     rw[List.foldl_cons]
     have:=(pathF_bd code f x).2
     split
     ·exact ih _ (by omega) (by omega)
     ·exact ih _ h1 h2
   exact key _ 1 (Nat.le_refl _) (by omega)
theorem path_sp {code:List In}{Rc:Nat→Prop}(hcl:∀k,Rc k→k<code.length∧∀x∈followAt code k,Rc x):∀(f k:Nat),Rc k→pathF code f k=spF code (f+1) k
 |0,k,h=>by
  rw[pathF,spF]
  cases restsAt code k with
  |true=>rfl
  |false=>
   simp only[cond_false]
   have:∀l:List Nat,l.foldl (fun n x=>max n (spF code 0 x)) 0=0:=fun l=>by
    induction l with
    |nil=>rfl
    |cons x r ih=>rw[List.foldl_cons];exact ih
   rw[this]
 |f+1,k,h=>by
  rw[pathF,spF]
  cases restsAt code k with
  |true=>rfl
  |false=>
   simp only[cond_false]
   have key:∀(l:List Nat) (a b:Nat),(∀x∈l,Rc x)→a=b+1→l.foldl (fun n x=>if x<code.length∧n<pathF code f x+1 then pathF code f x+1 else n) a=l.foldl (fun n x=>max n (spF code (f+1) x)) b+1:=by
    intro l
    induction l with
    |nil=>exact fun a b _ h=>h
    |cons x r ih=>
     intro a b hx hab
     have hr:=hx x List.mem_cons_self
     rw[List.foldl_cons,List.foldl_cons,path_sp hcl f x hr]
     refine ih _ _ (fun y hy=>hx y (List.mem_cons_of_mem _ hy)) ?_
     have:=(hcl x hr).1
     split<;>omega
   exact key _ 1 0 (fun x hx=>(hcl k h).2 x hx) rfl
theorem inf_signs (op:Int)(h:(ofL op).2=true):0≤op∧op<33∧(ofL op).1.ends=(op==25||op==26||op==27)∧(ofL op).1.blocks=(op==18||op==21||op==22||op==28)∧(ofL op).1.flow=(op==11||op==12):=by
 have hop:0≤op∧op≤32:=by
  by_cases h0:0≤op∧op≤32
  ·exact h0
  ·exfalso
   have e:∀j:Int,0≤j→j≤32→(op==j)=false:=fun j h1 h2=>by rw[beq_eq_false_iff_ne];omega
   revert h
   simp only[ofL,waitsL,e 0 (by decide) (by decide),e 1 (by decide) (by decide),e 2 (by decide) (by decide),e 3 (by decide) (by decide),e 4 (by decide) (by decide),e 5 (by decide) (by decide),e 6 (by decide) (by decide),e 7 (by decide) (by decide),e 8 (by decide) (by decide),e 9 (by decide) (by decide),e 10 (by decide) (by decide),e 11 (by decide) (by decide),e 12 (by decide) (by decide),e 13 (by decide) (by decide),e 14 (by decide) (by decide),e 15 (by decide) (by decide),e 16 (by decide) (by decide),e 17 (by decide) (by decide),e 18 (by decide) (by decide),e 19 (by decide) (by decide),e 20 (by decide) (by decide),e 21 (by decide) (by decide),e 22 (by decide) (by decide),e 23 (by decide) (by decide),e 24 (by decide) (by decide),e 25 (by decide) (by decide),e 26 (by decide) (by decide),e 27 (by decide) (by decide),e 28 (by decide) (by decide),e 29 (by decide) (by decide),e 30 (by decide) (by decide),e 31 (by decide) (by decide),e 32 (by decide) (by decide),cond_false]
   decide
 refine⟨hop.1,by omega,?_⟩
 obtain⟨k,rfl⟩:∃k:Nat,op=k:=⟨op.toNat,by omega⟩
 have H:∀k:Fin 33,(ofL (k.1:Int)).1.ends=((k.1:Int)==25||(k.1:Int)==26||(k.1:Int)==27)∧(ofL (k.1:Int)).1.blocks=((k.1:Int)==18||(k.1:Int)==21||(k.1:Int)==22||(k.1:Int)==28)∧(ofL (k.1:Int)).1.flow=((k.1:Int)==11||(k.1:Int)==12):=by decide+kernel
 exact H ⟨k,by omega⟩
end Go.Va
namespace Go.Va
open Go.Own Go.RowKit
open Go.Proofs.YtakljipkaoahnaaGreatDoor
theorem check_span {p:Img}{fa:Fa}{a:Int}(h:checkG p=(fa,a,0)):fa.span=((spanM p.code 0 fa.heights 0:Nat):Int):=by
 unfold checkG at h
 cases h1:(imgL p !=0)with
 |true=>
  rw[h1]at h
  simp only[cond_true,Prod.mk.injEq]at h
  rw[←h.1];rfl
 |false=>
  rw[h1]at h
  simp only[cond_false]at h
  cases h2:((walkL p.code).1.2 !=0)with
  |true=>
   rw[h2]at h
   simp only[cond_true,Prod.mk.injEq]at h
   rw[←h.1];rfl
  |false=>
   rw[h2]at h
   simp only[cond_false]at h
   cases h3:firstR p.code 0 (walkL p.code).2.heights with
   |some k=>
    rw[h3]at h
    simp only[Prod.mk.injEq]at h
    rw[←h.1];rfl
   |none=>
    rw[h3]at h
    simp only[Prod.mk.injEq]at h
    rw[←h.1]
theorem path_span {p:Img}{fa:Fa}(K:Known p fa){j:Nat}{h:Int}(hj:fa.heights[j]? =some h)(h0:0≤h):pathF p.code p.code.length j=spF p.code (p.code.length+1) j:=
 path_sp (Rc:=fun k=>∃h,fa.heights[k]? =some h∧0≤h) (fun k ⟨h,hk,h0⟩=>by
  obtain⟨c,hc,_,_,_,_,_,_,_,_,_,hx⟩:=K.step hk h0 (run:=fa.span - (spF p.code (p.code.length+1) k:Nat)) (by omega)
  refine⟨(zge hc).1,fun x hx'=> ?_⟩
  have e:followAt p.code k=followN c k:=by unfold followAt;rw[hc]
  rw[e]at hx'
  obtain⟨_,h',_,e2,e3,_⟩:=hx x hx'
  exact⟨h',e2,e3⟩) _ j ⟨h,hj,h0⟩
end Go.Va
namespace Go.Proofs.YtakljipkaoahnaaGreatDoor
open Go.RowKit Go.Own Go.Own.MapTy Go.Va Go.Sort
open Go.Own.Cells (sz enc)
theorem heap_newT {w:World}{X Y Z:Obj}:(((w.alloc X).alloc Y).alloc Z).heap[w.heap.size+1+1]? =some Z:=by
 have:=heap_alloc_new ((w.alloc X).alloc Y) Z
 simpa using this
theorem rends_any (op:Int)(h:(ofL op).2=true)(w:World):Calls Tryz.prog 106 #[.int .i64 op] w fun e w'=>e= .returned (.bool (ofL op).1.ends)∧w'=w:=by
 rw[(inf_signs op h).2.2.1]
 clear h
 cases h1:(op==25)<;>cases h2:(op==26)<;>cases h3:(op==27)<;>
 ·go_enter Tryz.func106,Tryz.ntmps106
  go_wp2_with fail
  go_ret
  exact⟨by first|rfl|simp[h1,h2,h3],rfl⟩
theorem rblocks_any (op:Int)(h:(ofL op).2=true)(w:World):Calls Tryz.prog 105 #[.int .i64 op] w fun e w'=>e= .returned (.bool (ofL op).1.blocks)∧w'=w:=by
 rw[(inf_signs op h).2.2.2.1]
 clear h
 cases h1:(op==18)<;>cases h2:(op==21)<;>cases h3:(op==22)<;>cases h4:(op==28)<;>
 ·go_enter Tryz.func105,Tryz.ntmps105
  go_wp2_with fail
  go_ret
  exact⟨by first|rfl|simp[h1,h2,h3,h4],rfl⟩
theorem rrests_any (op a:Int)(h:(ofL op).2=true)(w:World):Calls Tryz.prog 61 #[.agg #[.int .i64 op,.int .i64 a]] w fun e w'=>e= .returned (.bool (restsL ⟨op,a⟩))∧Below w.heap.size w w':=by
 have EN:=zhd (rends_any op h)
 have BL:=zhd (rblocks_any op h)
 have hr:restsL ⟨op,a⟩=((ofL op).1.blocks||(ofL op).1.ends):=rfl
 rw[hr]
 generalize(ofL op).1.ends=en at*
 generalize(ofL op).1.blocks=bl at*
 clear hr h
 cases bl with
 |true=>
  go_enter Tryz.func61,Tryz.ntmps61
  go_wp2_with fail
  refine(BL.out _).mono ?_
  rintro e w5 ⟨rfl,hw⟩
  rw[hw]
  clear hw w5
  go_wp2_with fail
  go_ret
  exact⟨rfl,zal⟩
 |false=>
  go_enter Tryz.func61,Tryz.ntmps61
  go_wp2_with fail
  refine(BL.out _).mono ?_
  rintro e w5 ⟨rfl,hw⟩
  rw[hw]
  clear hw w5
  go_wp2_with fail
  refine(EN.out _).mono ?_
  rintro e w5 ⟨rfl,hw⟩
  rw[hw]
  clear hw w5
  go_wp2_with fail
  go_ret
  exact⟨rfl,zal⟩
theorem rnext_any {F:Nat→Prop}{w:World}{i:IC}{p:Img}(H:IAt F w i p)(k:Nat)(c:In)(hc:p.code[k]? =some c)(hok:(ofL c.op).2=true)(ha:0≤c.a)(hk:k<65536):
  Calls Tryz.prog 62 #[.agg #[.slice i.ca i.cn i.cc,.slice i.ka i.kn i.kc,.slice i.na i.nn i.nc,.int .i64 i.pl],.int .i64 k] w fun e w'=>∃v,e= .returned v∧RowAt w' 3 v (followN c k)∧(∀g,v.ownBlock=some g→w.heap.size≤g)∧Below w.heap.size w w':=by
 have l1:=H.lens.1
 obtain⟨g,off,had,_,hg,_,m0,m1⟩:=H.code_at (Below.refl _ _) hc
 have hkn:(k:Int)<i.cn:=by have:=(zge hc).1;omega
 obtain⟨ca,cn,cc,ka,kn,kc,na,nn,nc,pl⟩:=i
 dsimp only at had hkn
 subst had
 have hw1:IntKind.i64.wrap ((k:Int)+1)=(k:Int)+1:=IntWalk.i64_in _ (by omega)
 have hw2:wrap64 ((k:Int)+1)=(k:Int)+1:=by unfold wrap64;omega
 obtain⟨op,a⟩:=c
 have EN:=zhd (rends_any op hok)
 have hfl:=(inf_signs op hok).2.2.2.2
 have hr:followN ⟨op,a⟩ k=bif (ofL op).1.ends then[]else bif op==11 then[a.toNat]else bif op==12 then[k+1,a.toNat]else[k+1]:=by
  unfold followN
  rw[hfl]
  cases h1:(op==11)<;>cases h2:(op==12)<;>rfl
 rw[hr]
 dsimp only at ha m0 m1
 obtain⟨an,rfl⟩:∃an:Nat,a=an:=⟨a.toNat,by omega⟩
 rw[Int.toNat_natCast]
 have B6:=zhd (((Below.refl w.heap.size w).alloc (Nat.le_refl _) (.cells #[.slice (some ⟨g,off,none⟩) cn cc,.slice ka kn kc,.slice na nn nc,.int .i64 pl] 27)).alloc (by simp) (.cells #[.int .i64 op,.int .i64 an] 43))
 generalize(ofL op).1.ends=en at*
 clear hr hfl hok hc H l1
 dsimp only
 go_enter Tryz.func62,Tryz.ntmps62
 go_wp2_with fail
 refine(EN.out _).mono ?_
 rintro e w5 ⟨rfl,hw⟩
 rw[hw]
 clear hw w5 EN
 cases en with
 |true=>
  go_wp2_with fail
  go_ret
  exact⟨_,rfl,by simp only[cond_true];exact RowAt.nil _ _,fun g h=>(by cases h),B6.out⟩
 |false=>
  cases h2:(op==11)with
  |true=>
   go_wp2_with fail
   go_ret
   exact⟨_,rfl,by simp only[h2,cond_true,cond_false];exact RowAt.made heap_newT rfl rfl (by decide),own_lit (by omega),B6.out.alloc B6.out.size _⟩
  |false=>
   cases h3:(op==12)with
   |true=>
    go_wp2_with fail
    go_ret
    exact⟨_,rfl,by simp only[h2,h3,cond_true,cond_false];exact RowAt.made heap_newT rfl rfl (by decide),own_lit (by omega),B6.out.alloc B6.out.size _⟩
   |false=>
    go_wp2_with fail
    go_ret
    exact⟨_,rfl,by simp only[h2,h3,cond_false];exact RowAt.made heap_newT rfl rfl (by decide),own_lit (by omega),B6.out.alloc B6.out.size _⟩
theorem code_all {p:Img}(h:imgL p=0):∀c∈p.code,(ofL c.op).2=true:=fun c hc=>((imgL_ok h).2.2.2.2.2.2.2.2 c hc).1
theorem range_succ_map {α:Type}(f:Nat→α)(j:Nat):(List.range j).map f++[f j]=(List.range (j+1)).map f:=by
 rw[List.range_succ,List.map_append]
 rfl
theorem pthR_len (code:List In)(k j:Nat):(pthR code k j).length=j:=by unfold pthR;simp
theorem pthR_succ (code:List In)(k j:Nat):pthR code k j++[pathF code k j]=pthR code k (j+1):=range_succ_map _ _
theorem pthR_zero (code:List In)(j:Nat):pthR code 0 j=List.replicate j 1:=by
 unfold pthR
 apply List.ext_getElem?
 intro x
 rw[List.getElem?_map,List.getElem?_replicate]
 by_cases h:x<j
 ·rw[List.getElem?_range h,if_pos h];rfl
 ·rw[List.getElem?_eq_none (by simp;omega),if_neg h];rfl
theorem pthR_at {code:List In}{k j x:Nat}(h:x<j):(pthR code k j)[x]? =some (pathF code k x):=by
 unfold pthR
 rw[List.getElem?_map,List.getElem?_range h]
 rfl
theorem pathF_succ (code:List In)(f k:Nat):pathF code (f+1) k=bif restsAt code k then 1 else(followAt code k).foldl (pthG code f) 1:=by rw[pathF];rfl
theorem pthG_bd (code:List In)(k n x:Nat)(h:n≤k+2):pthG code k n x≤k+2:=by
 unfold pthG
 split
 ·have:=(pathF_bd code k x).2;omega
 ·exact h
theorem rpaths_any (F:Nat→Prop)(w:World)(i:IC)(p:Img)(H:IAt F w i p)(hi0:imgL p=0)(m:Nat)(hm:m≤600):
  Calls Tryz.prog 23 #[.agg #[.slice i.ca i.cn i.cc,.slice i.ka i.kn i.kc,.slice i.na i.nn i.nc,.int .i64 i.pl],.int .i64 m] w fun e w'=>∃v,e= .returned v∧Hid (RowAt w' 3 v (pthR p.code m p.code.length)∧Below w.heap.size w w'):=by
 have OK:=codeOk_of hi0
 have hop:=code_all hi0
 have h0:=(imgL_ok hi0).1
 have h512:=OK.len
 have l1:=H.lens.1
 have HI:=zh4 H OK hop l1
 obtain⟨ca,cn,cc,ka,kn,kc,na,nn,nc,pl⟩:=i
 dsimp only at l1
 rw[←l1]at h0 h512
 have HL:=zh4 l1 h0 h512 hm
 clear H OK hop hi0 l1 h0 hm
 dsimp only
 go_enter Tryz.func23,Tryz.ntmps23
 go_wp2_with fail
 obtain⟨w0,hw0⟩:∃w0,w0=w.alloc (.cells #[.slice ca cn cc,.slice ka kn kc,.slice na nn nc,.int .i64 pl] 27):=⟨_,rfl⟩
 have B0:=zba hw0
 have X0:BoxI w0 w.heap.size ⟨ca,cn,cc,ka,kn,kc,na,nn,nc,pl⟩:=by rw[hw0];exact heap_alloc_new _ _
 rw[←hw0]
 have H1:=zh2 B0 X0
 have k1:=X0.c0
 have lx:=X0.lt
 dsimp only at k1
 clear hw0 B0 X0
 go_loopg [5,6] cn (fun gk v5 v6 wr=>∃j:Nat,v6= .int .i64 j∧j≤cn∧gk=cn - j∧RowAt wr 3 v5 (List.replicate j (1:Nat))∧(∀g,v5.ownBlock=some g→w0.heap.size≤g)∧Below w0.heap.size w0 wr)
 case atStart=>exact⟨0,rfl,Nat.zero_le _,rfl,RowAt.nil _ _,(fun g h=>by cases h),Below.refl _ _⟩
 case round=>
  obtain⟨j,rfl,hj,hgk,hR,hO,hB⟩:=hrel
  have k2:=(hB.cell (p:=⟨w.heap.size,0,none⟩) lx).trans k1
  have ly:w.heap.size<wr.heap.size:=Nat.lt_of_lt_of_le lx hB.size
  obtain⟨ha,hc,he⟩:=hR.slice
  rw[List.length_replicate]at he
  subst he
  have HX:=zh4 hgk hR hO hB
  clear hgk hR hO hB
  by_cases hjn:j<cn
  ·have hjn':(j:Int)<cn:=by omega
   go_wp2_with (at_builtin;go_must (refine wp_appW (α:=Nat) elemN rfl (.tmp 20) (.tmp 21) rfl (HX.out.2.1.alloc _) 1 rfl rfl (heap_alloc_new _ _) (by simp;omega) (by simp;unfold maxLen;omega) ?_);intro a1 q1 w2 hr1 hk1 hf1;rw[List.length_replicate]at hr1;simp only[List.length_replicate]at hf1;have HF:=zh3 hr1 hk1 hf1;clear hr1 hk1 hf1)
   go_roundg (cn - (j+1))
   case measure=>have:=HX.out.1;omega
   case rel=>
    have hb:=HX.out.2.2.2
    refine⟨j+1,by simp,by omega,rfl,by have:=HF.out.1;rwa[show List.replicate j (1:Nat)++[1]=List.replicate (j+1) 1 from(List.replicate_succ' ..).symm]at this,fun g hg=> ?_,?_⟩
    ·rcases HF.out.2.2 g hg with h|h
     ·exact HX.out.2.2.1 g h
     ·have:=hb.size;simp at h;omega
    ·exact hb.trans (((Below.refl _ _).alloc hb.size _).trans (HF.out.2.1.below (by have:=hb.size;simp;omega) (fun j hj e=>by have:=HX.out.2.2.1 j e;omega)))
  ·obtain rfl:j=cn:=by omega
   have hjj:¬(j:Int)<j:=by omega
   have HT:=zh3 HX.out.2.1 HX.out.2.2.1 HX.out.2.2.2
   clear HX
   go_wp2_with fail
   go_loopg [5,7] m (fun gk v5 v7 wz=>∃k:Nat,v7= .int .i64 k∧k≤m∧gk=m - k∧RowAt wz 3 v5 (pthR p.code k j)∧(∀g,v5.ownBlock=some g→w0.heap.size≤g)∧Below w0.heap.size w0 wz)
   case atStart=>exact⟨0,rfl,Nat.zero_le _,rfl,by rw[pthR_zero];exact HT.out.1,HT.out.2.1,HT.out.2.2⟩
   case round=>
    obtain⟨k,rfl,hkj,hgk,hT,hO,hB⟩:=hrel
    have k3:=(hB.cell (p:=⟨w.heap.size,0,none⟩) lx).trans k1
    have lz:w.heap.size<wr.heap.size:=Nat.lt_of_lt_of_le lx hB.size
    have hm6:=HL.out.2.2.2
    clear hm6
    by_cases hkk:k<m
    ·have hkk':(k:Int)<m:=by omega
     obtain⟨wq,hwq⟩:∃wq,wq=wr:=⟨_,rfl⟩
     rw[←hwq]at hT hB k3 lz⊢
     clear hwq
     have h0j:=HL.out.2.1
     obtain⟨la,lc,hv⟩:=hT.slice
     rw[pthR_len]at hv
     subst hv
     obtain⟨lb,lo,rfl,lbl⟩:=hT.addr (pthR_at (code:=p.code) (k:=k) h0j)
     have HK:=zh5 hgk hT hO hB lbl
     clear hgk hT hO hB h0j lbl
     go_wp2_with fail
     go_loopg [8,9] j (fun gk v8 v9 wy=>∃x:Nat,v9= .int .i64 x∧x≤j∧gk=j - x∧RowAt wy 3 v8 (pthR p.code (k+1) x)∧(∀g,v8.ownBlock=some g→wq.heap.size≤g)∧Below wq.heap.size wq wy)
     case atStart=>exact⟨0,rfl,Nat.zero_le _,rfl,RowAt.nil _ _,(fun g h=>by cases h),Below.refl _ _⟩
     case round=>
      obtain⟨x,rfl,hxj,hgk,hT,hO,hB⟩:=hrel
      have k4:=(hB.cell (p:=⟨w.heap.size,0,none⟩) lz).trans k3
      have lu:w.heap.size<wr.heap.size:=Nat.lt_of_lt_of_le lz hB.size
      obtain⟨na',nc',he⟩:=hT.slice
      rw[pthR_len]at he
      subst he
      by_cases hxx:x<j
      ·have hxx':(x:Int)<j:=by omega
       obtain⟨c,hcx⟩:=elem_at (l:=p.code) (k:=x) (by have:=HL.out.1;omega)
       have BW:=H1.out.1.trans ((HK.out.2.2.2.1.trans (hB.mono HK.out.2.2.2.1.size)).mono H1.out.1.size)
       obtain⟨g',off',e',_,hgw,hgr,m0,m1⟩:=HI.out.1.code_at BW hcx
       dsimp only at e'
       subst e'
       have okc:=HI.out.2.2.1 c (zmg hcx)
       have a0:=HI.out.2.1.a0 c (zmg hcx)
       have NX:=zhd (fun W' (B':Below w.heap.size w W')=>rnext_any (HI.out.1.below B') x c hcx okc a0 (by omega))
       have hpf:=pathF_succ p.code k x
       have hra:restsAt p.code x=restsL c:=by unfold restsAt;rw[hcx]
       have hfa:followAt p.code x=followN c x:=by unfold followAt;rw[hcx]
       rw[hra,hfa]at hpf
       have hfl:=followN_len c x
       obtain⟨op2,a2⟩:=c
       dsimp only at m0 m1
       have RE:=zhd (rrests_any op2 a2 okc)
       generalize restsL ⟨op2,a2⟩=rs at*
       generalize followN ⟨op2,a2⟩ x=fl at*
       have HY:=zh7 hgk hT hO hB hfl BW hpf
       clear hgk hT hO hB hfl BW hpf hcx okc a0 hra hfa
       go_wp2_with fail
       refine(RE.out _).mono ?_
       rintro e w5 ⟨rfl,hB5⟩
       have k5:=(hB5.cell (p:=⟨w.heap.size,0,none⟩) lu).trans k4
       have lv:w.heap.size<w5.heap.size:=Nat.lt_of_lt_of_le lu hB5.size
       have H5:=zh3 hB5 (HY.out.2.1.below hB5) (HY.out.2.2.2.1.trans (hB5.mono HY.out.2.2.2.1.size))
       clear hB5 RE m0 m1 hgr hgw
       cases rs with
       |true=>
        have hpf:=HY.out.2.2.2.2.2.2
        simp only[cond_true]at hpf
        have HP:=zhd hpf
        clear hpf
        go_wp2_with (at_builtin;go_must (refine wp_appW (α:=Nat) elemN rfl (.tmp 79) (.tmp 81) rfl (H5.out.2.1.alloc _) 1 rfl rfl (heap_alloc_new _ _) (by rw[pthR_len];omega) (by rw[pthR_len];unfold maxLen;omega) ?_);intro a1 q1 w2 hr1 hk1 hf1;rw[pthR_len,show pthR p.code (k+1) x++[1]=pthR p.code (k+1) (x+1)from(by rw[←pthR_succ,HP.out])]at hr1;rw[pthR_len]at hf1⊢;have HF:=zh3 hr1 hk1 hf1;clear hr1 hk1 hf1)
        go_roundg (j - (x+1))
        case measure=>have:=HY.out.1;omega
        case rel=>
         have hb:=H5.out.2.2
         refine⟨x+1,by simp,by omega,rfl,HF.out.1,fun g hg=> ?_,?_⟩
         ·rcases HF.out.2.2 g hg with h|h
          ·exact HY.out.2.2.1 g h
          ·have:=hb.size;simp at h;omega
         ·exact hb.trans (((Below.refl _ _).alloc hb.size _).trans (HF.out.2.1.below (by have:=hb.size;simp;omega) (fun j hj e=>by have:=HY.out.2.2.1 j e;omega)))
       |false=>
        have hpf:=HY.out.2.2.2.2.2.2
        simp only[cond_false]at hpf
        have B5:=HK.out.2.2.2.1.trans (H5.out.2.2.mono HK.out.2.2.2.1.size)
        have XB:=H1.out.2.below B5
        have x1:=XB.c1
        have x2:=XB.c2
        have x3:=XB.c3
        dsimp only at x1 x2 x3
        have NN:=zhd (NX.out w5 (H1.out.1.trans (B5.mono H1.out.1.size)))
        have HP:=zh2 hpf B5
        clear hpf B5 XB NX
        go_wp2_with fail
        refine NN.out.mono ?_
        rintro e w6 ⟨fv,rfl,hfr,hff,hB6⟩
        obtain⟨fa,fc,rfl⟩:=hfr.slice
        have HF:=zh4 hfr (H5.out.2.1.below hB6) (H5.out.2.2.trans (hB6.mono H5.out.2.2.size)) (HK.out.2.1.below (H5.out.2.2.trans (hB6.mono H5.out.2.2.size)))
        have k6:=(hB6.cell (p:=⟨w.heap.size,0,none⟩) lv).trans k5
        have ls:w.heap.size<w6.heap.size:=Nat.lt_of_lt_of_le lv hB6.size
        clear hfr hff hB6 NN x1 x2 x3
        go_wp2_with fail
        go_loopg [12,10] (fl.length) (fun gk v12 v10 wx=>∃y a:Nat,v12= .int .i64 y∧v10= .int .i64 a∧y≤fl.length∧gk=fl.length - y∧a≤k+2∧(fl.drop y).foldl (pthG p.code k) a=pathF p.code (k+1) x∧Below w6.heap.size w6 wx)
        case atStart=>exact⟨0,1,rfl,rfl,Nat.zero_le _,rfl,by omega,by rw[List.drop_zero];exact HP.out.1.symm,Below.refl _ _⟩
        case round=>
         obtain⟨y,a,rfl,rfl,hyl,hgk,ha2,hfo,hB⟩:=hrel
         have hfl2:=HY.out.2.2.2.2.1
         have k7:=(hB.cell (p:=⟨w.heap.size,0,none⟩) ls).trans k6
         have lt7:w.heap.size<wr.heap.size:=Nat.lt_of_lt_of_le ls hB.size
         clear hfl2
         by_cases hyy:y<fl.length
         ·have hyy':(y:Int)<fl.length:=by omega
          obtain⟨z,hz⟩:=elem_at hyy
          have hdr:fl.drop y=z::fl.drop (y+1):=by
           rw[List.drop_eq_getElem_cons (zge hz).1,(zge hz).2]
          rw[hdr,List.foldl_cons]at hfo
          have hfr:=HF.out.1.below hB
          obtain⟨fg,foff,rfl,hfg⟩:=hfr.addr hz
          have z0:=row_nat hfr hz
          have hgb:=pthG_bd p.code k a z ha2
          by_cases hzn:z<j
          ·have hzn':(z:Int)<j:=by omega
           have LR:=HF.out.2.2.2.below hB
           have lr0:=row_nat LR (pthR_at (code:=p.code) (k:=k) hzn)
           have lbw:lb<wr.heap.size:=LR.lt rfl
           have hpb:=(pathF_bd p.code k z).2
           have hm6:=HL.out.2.2.2
           have hge:pthG p.code k a z=if a<pathF p.code k z+1 then pathF p.code k z+1 else a:=by
            unfold pthG
            have:z<p.code.length:=by have:=HL.out.1;omega
            by_cases h:a<pathF p.code k z+1
            ·rw[if_pos ⟨this,h⟩,if_pos h]
            ·rw[if_neg (fun h2=>h h2.2),if_neg h]
           rw[hge]at hfo hgb
           obtain⟨pf,hpfe⟩:∃pf,pathF p.code k z=pf:=⟨_,rfl⟩
           rw[hpfe]at hfo hgb lr0 hpb
           have hy1:y+1≤fl.length:=by omega
           have HYW:=zhd (show wrap64 ((y:Int)+1)=(y:Int)+1 from by have:=HY.out.2.2.2.2.1;unfold wrap64;omega)
           have HMS:=zhd (show fl.length - (y+1)<fl.length - y from by omega)
           have HPW:=zhd (show IntKind.i64.wrap ((pf:Int)+1)=(pf:Int)+1 from IntWalk.i64_in _ (by omega))
           have HPV:=zhd (show wrap64 ((pf:Int)+1)=(pf:Int)+1 from by unfold wrap64;omega)
           have HQ:=zh4 hgk hfo hB hgb
           clear hgk hfo hB hgb hge hpfe hfr LR hdr hz hpb hm6
           by_cases hap:a<pf+1
           ·have hap':(a:Int)<(pf:Int)+1:=by omega
            have hpwk:=HPW.out
            have hpw:=HPV.out
            go_wp2_with fail
            go_region
            go_wp2_with fail
            go_roundg (fl.length - (y+1))
            case measure=>rw[HQ.out.1];exact HMS.out
            case rel=>exact⟨y+1,pf+1,by simp[HYW.out],by simp,hy1,rfl,by have:=HQ.out.2.2.2;rw[if_pos hap]at this;exact this,by have:=HQ.out.2.1;rw[if_pos hap]at this;exact this,HQ.out.2.2.1.drew⟩
           ·have hap':(pf:Int)+1≤(a:Int):=by omega
            have hd1:decide ((a:Int)<(pf:Int)+1)=false:=decide_eq_false (by omega)
            have hd2:decide ((pf:Int)+1≤(a:Int))=true:=decide_eq_true hap'
            have hap2:¬(a:Int)<(pf:Int)+1:=by omega
            have hpwk:=HPW.out
            have hpw:=HPV.out
            go_wp2_with fail
            go_region
            go_wp2_with fail
            go_roundg (fl.length - (y+1))
            case measure=>rw[HQ.out.1];exact HMS.out
            case rel=>exact⟨y+1,a,by simp[HYW.out],by simp,hy1,rfl,ha2,by have:=HQ.out.2.1;rw[if_neg hap]at this;exact this,HQ.out.2.2.1.drew⟩
          ·have hzn':¬(z:Int)<j:=by omega
           have hge:pthG p.code k a z=a:=by
            unfold pthG
            have:¬z<p.code.length:=by have:=HL.out.1;omega
            rw[if_neg (fun h2=>this h2.1)]
           rw[hge]at hfo
           have HQ:=zh3 hgk hfo hB
           clear hgk hfo hB hge hfr hdr hz hgb
           go_wp2_with fail
           go_region
           go_wp2_with fail
           go_roundg (fl.length - (y+1))
           case measure=>have:=HQ.out.1;omega
           case rel=>exact⟨y+1,a,by have:=HY.out.2.2.2.2.1;simp;unfold wrap64;omega,by simp,by omega,rfl,ha2,HQ.out.2.1,HQ.out.2.2.drew⟩
         ·obtain rfl:y=fl.length:=by omega
          have hyy':¬(fl.length:Int)<fl.length:=by omega
          rw[List.drop_eq_nil_of_le (Nat.le_refl _),List.foldl_nil]at hfo
          have HQ:=zh4 hfo hB (HF.out.2.1.below hB) (HF.out.2.2.1.trans (hB.mono HF.out.2.2.1.size))
          clear hfo hB hgk
          go_wp2_with (at_builtin;go_must (refine wp_appW (α:=Nat) elemN rfl (.tmp 79) (.tmp 81) rfl (HQ.out.2.2.1.alloc _) a rfl rfl (heap_alloc_new _ _) (by rw[pthR_len];omega) (by rw[pthR_len];unfold maxLen;omega) ?_);intro a1 q1 w2 hr1 hk1 hf1;rw[pthR_len,show pthR p.code (k+1) x++[a]=pthR p.code (k+1) (x+1)from(by rw[←pthR_succ,HQ.out.1])]at hr1;rw[pthR_len]at hf1⊢;have HG:=zh3 hr1 hk1 hf1;clear hr1 hk1 hf1)
          go_roundg (j - (x+1))
          case measure=>have:=HY.out.1;omega
          case rel=>
           have hb:=HQ.out.2.2.2
           refine⟨x+1,by simp,by omega,rfl,HG.out.1,fun g hg=> ?_,?_⟩
           ·rcases HG.out.2.2 g hg with h|h
            ·exact HY.out.2.2.1 g h
            ·have:=hb.size;simp at h;omega
           ·exact hb.trans (((Below.refl _ _).alloc hb.size _).trans (HG.out.2.1.below (by have:=hb.size;simp;omega) (fun j hj e=>by have:=HY.out.2.2.1 j e;omega)))
      ·obtain rfl:x=j:=by omega
       have hxx':¬(x:Int)<x:=by omega
       have HQ:=zh3 hT hO hB
       clear hT hO hB hgk
       go_wp2_with fail
       go_roundg (m - (k+1))
       case measure=>have:=HK.out.1;omega
       case rel=>exact⟨k+1,by have:=HL.out.2.2.2;simp;unfold wrap64;omega,by omega,rfl,HQ.out.1,fun g hg=>by have:=HQ.out.2.1 g hg;have:=HK.out.2.2.2.1.size;omega,HK.out.2.2.2.1.trans (HQ.out.2.2.mono HK.out.2.2.2.1.size)⟩
    ·obtain rfl:k=m:=by omega
     have hkk':¬(k:Int)<k:=by omega
     have HQ:=zh2 hT hB
     clear hT hB hO hgk
     go_wp2_with fail
     go_ret
     exact⟨_,rfl,zhd ⟨by rw[←HL.out.1];exact HQ.out.1,H1.out.1.trans (HQ.out.2.mono H1.out.1.size)⟩⟩
theorem fuel_walk {N:Nat}(i:IC)(p:Img)(W:World)(G:Gl Tryz.prog N W)(H:IAt (fun j=>j<W.heap.size) W i p)(hb64:Val.all.allL B64 p.consts)(ea:Option Addr)(en ec:Nat)(l:List Ev)(E:XRd (fun j=>j<W.heap.size) W (.slice ea en ec) l)(he:∀e∈l,e.v.all B64):
  Calls Tryz.prog 4 #[.agg #[.slice i.ca i.cn i.cc,.slice i.ka i.kn i.kc,.slice i.na i.nn i.nc,.int .i64 i.pl],.slice ea en ec] W fun en w'=>en= .returned (.bool true)∧Below W.heap.size W w':=by
 have hen:en=l.length:=by obtain⟨a,c,h⟩:=E.slice;cases h;rfl
 have HG:=zhd G
 have RU:=zhd (fun W' (K:Below W.heap.size W W')=>runs_true W' (G.below K))
 have SM:=zhd (fun W' (K:Below W.heap.size W W')=>small14_any _ W' i p (H.below K) _ ea en ec l (E.below K))
 have HH:=zh5 H E hb64 he hen
 have HL:=zhd H.lens.1
 clear G H E hb64 he hen
 obtain⟨w0,hw0⟩:∃w0,w0=W.alloc (.cells #[.slice i.ca i.cn i.cc,.slice i.ka i.kn i.kc,.slice i.na i.nn i.nc,.int .i64 i.pl] 27):=⟨_,rfl⟩
 have B0:=zba hw0
 have X0:BoxI w0 W.heap.size i:=by rw[hw0];exact heap_alloc_new _ _
 have H0:=zh2 B0 X0
 clear B0 X0
 go_enter Tryz.func4,Tryz.ntmps4
 go_wp2_with fail
 rw[←hw0]
 clear hw0
 refine(RU.out w0 H0.out.1).mono ?_
 rintro e w1 ⟨rfl,hB1⟩
 have B1:=H0.out.1.trans (hB1.mono H0.out.1.size)
 have X1:=H0.out.2.below hB1
 obtain⟨q0,q1,q2,q3,ql⟩:=X1.all5
 have H1:=zh2 B1 X1
 clear hB1 B1 X1
 go_wp2_with fail
 refine(SM.out w1 H1.out.1).mono ?_
 rintro e w2 ⟨r,rfl,H2⟩
 have B2:=H1.out.1.trans (H2.out.2.mono H1.out.1.size)
 have X2:=H1.out.2.below H2.out.2
 obtain⟨q0,q1,q2,q3,ql⟩:=X2.all5
 have HB2:=zh2 B2 X2
 clear B2 X2
 cases r with
 |false=>
  go_wp2_with fail
  go_ret
  exact⟨rfl,HB2.out.1⟩
 |true=>
  have SF:=H2.out.1 rfl
  have hwf:∀x∈p.consts,x.wf:=fun x hx=>wf_ev (Val.allL_iff.1 HH.out.2.2.1 x hx) (SF.consts x hx)
  have hewf:∀e∈l,e.v.wf:=fun e h=>wf_ev (HH.out.2.2.2.1 e h) (SF.evs e h)
  obtain⟨fa,at_,er,hck⟩:∃fa a e,checkG p=(fa,a,e):=⟨_,_,_,rfl⟩
  have HI2:=HH.out.1.below HB2.out.1
  have CK:=zhd (vcheck_any _ i p w2 HI2 hwf _ hck)
  have HF:=zh4 SF hwf hewf hck
  clear SF hwf hewf hck HI2
  go_wp2_with fail
  refine CK.out.mono ?_
  rintro e w3 ⟨hv,rfl,H3⟩
  dsimp only at H3⊢
  obtain⟨xa,xc,rfl⟩:=H3.out.1.slice
  go_upto_region 6 with(fail)
  refine wp_named ?_
  intro w4 hw4
  have B34:Below w3.heap.size w3 w4:=by rw[hw4];exact(zal).alloc (by simp) _
  have f4:w4.heap[w3.heap.size]? =some (.cells #[.slice xa fa.heights.length xc,.int .i64 fa.most,.int .i64 fa.span] 51 (0,0)):=by rw[hw4];exact heap_lt2
  have g4:w4.heap[w3.heap.size+1]? =some (.cells #[.int .i64 at_,.int .i64 er] 53 (0,0)):=by rw[hw4];exact heap_new2
  have e1:=zca g4 1 rfl
  have el:=zlt g4
  have B24:=H3.out.2.2.trans (B34.mono H3.out.2.2.size)
  have B4:=HB2.out.1.trans (B24.mono HB2.out.1.size)
  have X4:=HB2.out.2.below B24
  obtain⟨q0,q1,q2,q3,ql⟩:=X4.all5
  have H4:=zh5 B4 X4 f4 (H3.out.1.below B34) B34
  clear hw4 B34 f4 g4 B24 B4 X4 CK H3
  by_cases hez:er=0
  ·subst hez
   have NW:=zhd (new_any _ w4 i p (HH.out.1.below H4.out.1) HF.out.2.1 _ HF.out.2.2.2)
   go_wp2_with fail
   refine NW.out.mono ?_
   rintro e w5 (⟨h,_⟩|⟨_,b,v0,rfl,H5⟩)
   ·exact absurd rfl h
   have K0:=((checkG_law HF.out.2.2.2).2 rfl).2
   have hok:=imgL_ok K0.img
   have hckc:checkG (cloneI p)=(fa,at_,0):=(checkG_clone p).trans HF.out.2.2.2
   have KC:=((checkG_law hckc).2 rfl).2
   have hsp:fa.span≤(cloneI p).code.length+1:=span_le hckc
   have PK:Pk (cloneI p):=⟨fun x hx=>by
     obtain⟨y,hy,rfl⟩:=List.mem_map.1 hx
     exact ok_clone ⟨consts_ok hok.2.2.2.2.2.2.1 y hy,HF.out.2.1 y hy⟩,fun x hx=>names_ok hok.2.2.2.2.2.2.2.1 x hx⟩
   have S0:St (cloneI p) fa (ms0 (cloneI p)):=St.zero KC hok.2.2.2.2.1
   have B5:=H4.out.1.trans (H5.out.2.2.mono H4.out.1.size)
   have X5:=H4.out.2.1.below H5.out.2.2
   have f5:=(H5.out.2.2.block w3.heap.size (zlt H4.out.2.2.1)).trans H4.out.2.2.1
   have R5:=H4.out.2.2.2.1.below H5.out.2.2
   have HK:=zh7 KC PK hsp S0 K0 hok (check_span HF.out.2.2.2)
   have H5B:=zh4 B5 X5 f5 R5
   clear q0 q1 q2 q3 ql e1 el K0 hok hckc KC hsp PK S0 B5 X5 f5 R5 NW
   go_wp2_with fail
   go_loopg [38] en (fun gk v38 wr=>FuRel (cloneI p) fa w4.heap.size b en v0 w5 gk v38 wr)
   case atStart=>exact⟨0,v0,_,rfl,Nat.zero_le _,rfl,⟨H5.out.1,MK.refl _ _ _,HK.out.2.2.2.1,Nat.le_refl _⟩⟩
   case round=>
    obtain⟨j,v,s,rfl,hj,hgk,L⟩:=hrel
    have hmo:∀q,MO v0 b q→w4.heap.size≤q:=H5.out.2.1
    have BW:Below w4.heap.size w5 wr:=L.kp.keeps.below H5.out.2.2.size (fun q hq e=>by have:=hmo q e;omega)
    have BWW:Below W.heap.size W wr:=H5B.out.1.trans (BW.mono H4.out.1.size)
    have hmv:∀q,q<w4.heap.size→¬MO v b q:=fun q hq e=>by
     rcases L.kp.own q e with h|h
     ·have:=hmo q h;omega
     ·have:=H5.out.2.2.size;omega
    have hf:=(BW.block w3.heap.size (zlt H4.out.2.2.1)).trans H5B.out.2.2.1
    have s2:=zca hf 2 rfl
    have s0:=zca hf 0 rfl
    have sl:=zlt hf
    have XR:BoxI wr W.heap.size i:=(BW.block W.heap.size H4.out.2.1.lt).trans H5B.out.2.1
    obtain⟨q0,q1,q2,q3,ql⟩:=XR.all5
    by_cases hjn:j<en
    ·
     obtain⟨ev,hev⟩:=elem_at (l:=l) (k:=j) (by have:=HH.out.2.2.2.2;omega)
     obtain⟨g,off,⟨z0,z1,z2,z3,z4,z5,z6,⟨zk,zn,zs,za,zl,zc⟩⟩,rfl,hFg,hg,hrel,hcs⟩:=HH.out.2.1.at_ hev
     have hrel2:EvF (fun j=>j<W.heap.size) W ⟨z0,z1,z2,z3,z4,z5,z6,⟨zk,zn,zs,za,zl,zc⟩⟩ ev:=hrel
     obtain⟨e0,e1,e2,e3,e4,e5,e6,ex⟩:=ev
     obtain⟨d0,d1,d2,d3,d4,d5,d6,dv⟩:=hrel2
     dsimp only at d0 d1 d2 d3 d4 d5 d6 dv
     subst d0 d1 d2 d3 d4 d5 d6
     have y0:W.cell? ⟨g,off+j*11,none⟩=some (.int .i64 z0):=hcs 0 _ rfl
     have y1:W.cell? ⟨g,off+j*11+1,none⟩=some (.int .i64 z1):=hcs 1 _ rfl
     have y2:W.cell? ⟨g,off+j*11+2,none⟩=some (.int .i64 z2):=hcs 2 _ rfl
     have y3:W.cell? ⟨g,off+j*11+3,none⟩=some (.int .i64 z3):=hcs 3 _ rfl
     have y4:W.cell? ⟨g,off+j*11+4,none⟩=some (.int .i64 z4):=hcs 4 _ rfl
     have y5:W.cell? ⟨g,off+j*11+5,none⟩=some (.string z5):=hcs 5 _ rfl
     have y6:W.cell? ⟨g,off+j*11+6,none⟩=some (.string z6):=hcs 6 _ rfl
     have y7:W.cell? ⟨g,off+j*11+7,none⟩=some (.int .i64 zk):=hcs 7 _ rfl
     have y8:W.cell? ⟨g,off+j*11+8,none⟩=some (.int .i64 zn):=hcs 8 _ rfl
     have y9:W.cell? ⟨g,off+j*11+9,none⟩=some (.string zs):=hcs 9 _ rfl
     have y10:W.cell? ⟨g,off+j*11+10,none⟩=some (.slice za zl zc):=hcs 10 _ rfl
     rw[←BWW.cell (p:=⟨g,_,none⟩) hg]at y0 y1 y2 y3 y4 y5 y6 y7 y8 y9 y10
     have hgl:g<wr.heap.size:=Nat.lt_of_lt_of_le hg BWW.size
     have hjn':(j:Int)<en:=by omega
     have hen:=HF.out.1.len
     have hel:=HH.out.2.2.2.2
     have HWJ:=zhd (show wrap64 ((j:Int)+1)=(j:Int)+1 by unfold wrap64;omega)
     have hexw0:=HF.out.2.2.1 _ (zmg hev)
     have hexw:ex.wf:=hexw0
     clear hexw0
     obtain⟨st2,hst2⟩:∃st2,applyM (cloneI p) s ⟨z0,z1,z2,z3,z4,z5,z6,ex⟩=st2:=⟨_,rfl⟩
     obtain⟨SA,hev2⟩:=L.st.apply HK.out.1 HK.out.2.1 HK.out.2.2.1 ⟨z0,z1,z2,z3,z4,z5,z6,ex⟩ hexw (by have:=L.ev;omega)
     rw[hst2]at SA hev2
     have HA:=zh8 L SA hev2 dv hexw hst2 hmv (zai BWW hgk)
     have hev31:st2.2.events≤31:=by have:=L.ev;omega
     clear hel hen hcs hrel hev L SA hev2 dv hexw hst2 hmv BWW BW hgk XR
     go_upto_region 14 with(fail)
     refine wp_named ?_
     intro w6 hw6
     have B6:=zba hw6
     have hb6:=zha hw6
     have x0:=zca hb6 0 rfl
     have x1:=zca hb6 1 rfl
     have x2:=zca hb6 2 rfl
     have x3:=zca hb6 3 rfl
     have x4:=zca hb6 4 rfl
     have x5:=zca hb6 5 rfl
     have x6:=zca hb6 6 rfl
     have x7:=zca hb6 7 rfl
     have x8:=zca hb6 8 rfl
     have x9:=zca hb6 9 rfl
     have x10:=zca hb6 10 rfl
     have xl:=zlt hb6
     have BW6:=HA.out.2.2.2.2.2.2.2.1.trans (B6.mono HA.out.2.2.2.2.2.2.2.1.size)
     have AP:=zhd (apply_any b v (cloneI p) s w6 (HA.out.1.mx.ext B6) (HG.out.below BW6) fa HK.out.1 HK.out.2.1 HK.out.2.2.1 HA.out.1.st (by have:=HA.out.1.ev;have h1:=HF.out.1.len;have h2:=HH.out.2.2.2.2;omega) (fun q hq=>by have h1:=B6.size;have h2:=HA.out.1.kp.keeps.size;have h3:=H5.out.2.2.size;omega) z0 z1 z2 z3 z4 z5 z6 ex zk zn zs za zl zc (fun j=>j<W.heap.size) (HA.out.2.2.2.1.keep (S:=fun _=>False) (zkb BW6) (fun _ _ f=>f)) HA.out.2.2.2.2.1 (fun q hq=>HA.out.2.2.2.2.2.2.1 q (by have h1:=H4.out.1.size;have hq:q<W.heap.size:=hq;omega)) _ HA.out.2.2.2.2.2.1)
     have H6:=zhd B6
     clear hw6 B6 hb6 y0 y1 y2 y3 y4 y5 y6 y7 y8 y9 y10 hgl BW6 s0 s2 sl q0 q1 q2 q3 ql
     go_wp2_with fail
     refine AP.out.mono ?_
     rintro e w7 ⟨v7,rfl,H7⟩
     have K7:MK b v0 w5 v7 w7:=HA.out.1.kp.trans ((MK.ext H6.out).trans H7.out.2)
     have BW7:Below w4.heap.size w5 w7:=K7.keeps.below H5.out.2.2.size (fun q hq e=>by have:=H5.out.2.1 q e;omega)
     have hf:=(BW7.block w3.heap.size (zlt H4.out.2.2.1)).trans H5B.out.2.2.1
     have s2:=zca hf 2 rfl
     have sl:=zlt hf
     have HK7:=zhd K7
     have ST:=zhd (fun W' (B:Below w7.heap.size w7 W')=>steps_any b v7 _ _ W' (H7.out.1.ext B))
     have EV:=zhd (fun W' (B:Below w7.heap.size w7 W')=>events_any b v7 _ _ W' (H7.out.1.ext B))
     clear K7 BW7 hf x0 x1 x2 x3 x4 x5 x6 x7 x8 x9 x10 xl AP
     have hgood:=HA.out.2.1.good.steps
     have hspl:fa.span≤514:=by have h1:=HK.out.2.2.1;have h2:=HK.out.2.2.2.2.2.1.2.1;have h3:(cloneI p).code.length=p.code.length:=rfl;omega
     have hsp0:0≤fa.span:=by have:=HK.out.2.2.2.2.2.2;omega
     obtain⟨mq,hmq⟩:∃mq:Int,fa.span*((st2.2.events:Int)+1)=mq:=⟨_,rfl⟩
     have hmb:mq≤514*32:=by rw[←hmq];exact Int.le_trans (Int.mul_le_mul_of_nonneg_right hspl (by omega)) (Int.mul_le_mul_of_nonneg_left (by omega) (by decide))
     have hm0:0≤mq:=by rw[←hmq];exact Int.mul_nonneg hsp0 (by omega)
     rw[hmq]at hgood
     have w1x:IntKind.i64.wrap ((st2.2.events:Int)+1)=(st2.2.events:Int)+1:=IntWalk.i64_in _ (by omega)
     have w2x:IntKind.i64.wrap (fa.span*((st2.2.events:Int)+1))=mq:=by rw[hmq];exact IntWalk.i64_in _ (by omega)
     have hno:¬mq<(st2.2.steps:Int):=by omega
     have hnd:decide (mq<(st2.2.steps:Int))=false:=decide_eq_false hno
     have HMS:=zhd (show en - (j+1)<gk from by have:=HA.out.2.2.2.2.2.2.2.2;omega)
     have HEV:=zhd (show st2.2.events≤j+1 from by have h1:=HA.out.2.2.1;have h2:=HA.out.1.ev;omega)
     clear hgood hspl hsp0 hmb hm0 hmq
     go_wp2_with fail
     refine wp_region_ext (by kernel_rfl) (by kernel_rfl) ?_
     repeat(go_big_quiet_step (first|(go_at_call 21;exact ext_call (ST.out _ (ext_below _)))|(go_at_call 22;exact ext_call (EV.out _ (ext_below _)))))
     refine wpQuiet_nil ?_
     intro w8 hB8
     have hwj:=HWJ.out
     go_wp2_with fail
     go_roundg (en - (j+1))
     case measure=>exact HMS.out
     case rel=>exact⟨j+1,v7,st2.2,by first|(simp;done)|(simp;exact HWJ.out),hjn,rfl,⟨H7.out.1.ext hB8,HK7.out.trans (MK.ext hB8),HA.out.2.1,HEV.out⟩⟩
    ·
     obtain rfl:j=en:=by omega
     have hjj:¬(j:Int)<j:=by omega
     have PA:=zhd (rpaths_any _ wr i p (HH.out.1.below BWW) HK.out.2.2.2.2.1.img i.cn (by have h1:=HK.out.2.2.2.2.2.1.2.1;have h2:=HL.out;omega))
     have HR:=zh3 BWW hf ((H5B.out.2.2.2).keep (S:=fun _=>False) (zkb (Below.refl _ _)) (fun _ _ f=>f))
     have RH:RowAt wr 3 (.slice xa fa.heights.length xc) fa.heights:=H5B.out.2.2.2.keep L.kp.keeps (fun g hg e=>by have h1:=hmo g e;have h2:=H4.out.2.2.2.1.lt hg;omega)
     have HRH:=zhd RH
     clear hgk L BW BWW hmv hf XR RH
     go_wp2_with fail
     refine PA.out.mono ?_
     rintro e w9 ⟨lv,rfl,H9⟩
     obtain⟨la,lc,hlv⟩:=H9.out.1.slice
     rw[pthR_len]at hlv
     subst hlv
     have B9:=HR.out.1.trans (H9.out.2.mono HR.out.1.size)
     have f9:=(H9.out.2.block w3.heap.size (zlt HR.out.2.1)).trans HR.out.2.1
     have s2:=zca f9 2 rfl
     have s0:=zca f9 0 rfl
     have sl:=zlt f9
     have HY:=zh3 B9 (HRH.out.below H9.out.2) H9.out.1
     clear PA B9 f9 q0 q1 q2 q3 ql
     go_wp2_with fail
     go_loopg [63,12] (fa.heights.length) (fun gk v63 v12 wr=>MxRel w9 p fa.heights gk v63 v12 wr)
     case atStart=>exact⟨0,0,rfl,rfl,Nat.zero_le _,rfl,Nat.zero_le _,rfl,rfl⟩
     case round=>
      obtain⟨m,mm,rfl,rfl,hm,hgk,hm6,hsp,rfl⟩:=hrel
      by_cases hmn:m<fa.heights.length
      ·obtain⟨x,hx⟩:=elem_at hmn
       have hdr:fa.heights.drop m=x::fa.heights.drop (m+1):=by
        rw[List.drop_eq_getElem_cons (zge hx).1,(zge hx).2]
       obtain⟨hg,ho,rfl,hgl⟩:=HY.out.2.1.addr hx
       have y0:=row_int HY.out.2.1 hx
       have hmn':(m:Int)<fa.heights.length:=by omega
       have hm1:m+1≤fa.heights.length:=by omega
       have HMS:=zhd (show fa.heights.length - (m+1)<gk from by omega)
       have hlen:=HK.out.2.2.2.2.1.len
       have h512:=HK.out.2.2.2.2.2.1.2.1
       have HWM:=zhd (show wrap64 ((m:Int)+1)=(m:Int)+1 by unfold wrap64;omega)
       rw[hdr,spanM]at hsp
       by_cases hx0:0≤x
       ·rw[decide_eq_true hx0]at hsp
        simp only[cond_true]at hsp
        have hpa:=pthR_at (code:=p.code) (k:=i.cn) (j:=p.code.length) (x:=m) (by omega)
        obtain⟨lg,lo,rfl,lgl⟩:=HY.out.2.2.addr hpa
        have y2:=row_nat HY.out.2.2 hpa
        have hmp:(m:Int)<p.code.length:=by omega
        have hpe:pathF p.code i.cn m=spF p.code (p.code.length+1) m:=by rw[HL.out];exact path_span HK.out.2.2.2.2.1 hx hx0
        have hsb:=spF_le p.code (p.code.length+1) m
        rw[hpe]at y2
        generalize spF p.code (p.code.length+1) m=sp at*
        have hmx:((max mm sp:Nat):Int)=max (mm:Int) sp:=by omega
        have HMX:=zhd hmx
        have HX2:=zh2 hsp (show max mm sp≤600 from by omega)
        clear hsp hgk hdr hx hpa hpe hsb hmx hlen h512
        have hwm:=HWM.out
        go_wp2_with fail
        go_roundg (fa.heights.length - (m+1))
        case measure=>exact HMS.out
        case rel=>exact⟨m+1,max mm sp,by first|(simp;done)|(simp;exact HWM.out),by rw[HMX.out],hm1,rfl,HX2.out.2,HX2.out.1,rfl⟩
       ·rw[decide_eq_false hx0]at hsp
        simp only[cond_false]at hsp
        have hx0':¬0≤x:=hx0
        have hxd:decide (0≤x)=false:=decide_eq_false hx0
        have HX2:=zhd hsp
        clear hsp hgk hdr hx hlen h512
        have hwm:=HWM.out
        go_wp2_with fail
        go_roundg (fa.heights.length - (m+1))
        case measure=>exact HMS.out
        case rel=>exact⟨m+1,mm,by simp,rfl,hm1,rfl,hm6,HX2.out,rfl⟩
      ·obtain rfl:m=fa.heights.length:=by omega
       have hmm:¬(fa.heights.length:Int)<fa.heights.length:=by omega
       rw[List.drop_eq_nil_of_le (Nat.le_refl _),spanM]at hsp
       have hse:fa.span=(mm:Int):=by rw[HK.out.2.2.2.2.2.2,←hsp]
       have hbe:(fa.span==(mm:Int))=true:=by rw[beq_iff_eq];exact hse
       clear hsp hse hgk
       go_wp2_with fail
       go_ret
       exact⟨by first|rfl|rw[hbe]|simp,HY.out.1⟩
  ·have hne:(er !=0)=true:=by simpa using hez
   clear hez
   go_wp2_with fail
   go_ret
   exact⟨rfl,H4.out.1⟩
end Go.Proofs.YtakljipkaoahnaaGreatDoor
