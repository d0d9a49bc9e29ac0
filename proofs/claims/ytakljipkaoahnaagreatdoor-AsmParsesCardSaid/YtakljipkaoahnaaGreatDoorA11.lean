/- Parts of the proof: what the functions and the plain laws give that later parts lean on. Conditions: none beyond those that each theorem names. -/
import Derived.Test.YtakljipkaoahnaaGreatDoorA10
set_option maxRecDepth 100000
set_option maxHeartbeats 8000000
namespace Go.Va
open Go.Own Go.RowKit
section
variable{W W':World} {tr ti tv ts tj:TypeId} {Z:Nat→Prop} {b:Nat} {v:RV} {st:RSt}
theorem RS.setPl (R:RS W tr ti tv ts tj Z b v st)(p:Int):RS (W.setCell ⟨b,3,none⟩ (.int .i64 p)) tr ti tv ts tj Z b {v with pl:=p} {st with places:=p}∧RK b v W {v with pl:=p} (W.setCell ⟨b,3,none⟩ (.int .i64 p)):=by
 have KB:Keeps (fun j=>j=b) W (W.setCell ⟨b,3,none⟩ (.int .i64 p)):=Keeps.setCell (S:=fun j=>j=b) (p:=⟨b,3,none⟩) (Keeps.refl _ _) (.inl rfl) _
 refine⟨⟨by simp[World.setCell,Array.getElem?_modify,R.h],R.code.keep KB (fun g hg=>(R.sep.c g hg).1),R.consts.keep KB (fun g h e=>h.1 (.inl e)) (fun g hg=>(R.sep.k g hg).1),R.names.keep KB (fun g hg=>(R.sep.n g hg).1),R.jumps.keep KB (fun g hg=>(R.sep.j g hg).1),rfl,fun m hm=>(R.labels m hm).keep KB (R.sep.m m hm),⟨R.sep.m,R.sep.c,R.sep.k,R.sep.n,R.sep.j⟩⟩,KB.mono (fun j _ e=>.inl e),fun j hj=>.inl hj,rfl⟩
end
end Go.Va
namespace Go.Proofs.YtakljipkaoahnaaGreatDoor
open Go.RowKit Go.Own Go.Own.MapTy Go.Va Go.Sort
open Go.Own.Cells (sz enc)
def operL (kind line:Int)(s:ByteArray)(st:RSt):Int×Int×RSt:=
 if kind=1 then(if(parseV s.data.toList).2≠0 then(0,(parseV s.data.toList).2,st)else((addV (parseV s.data.toList).1 st.consts).1,0,{st with consts:=(addV (parseV s.data.toList).1 st.consts).2}))else
 if kind=2 then(match quotedL s.data.toList with
  |none=>(0,8,st)
  |some n=>((addN n st.names).1,0,{st with names:=(addN n st.names).2}))else
 if kind=4 then(if labL s.data.toList=true then(0,0,{st with jumps:=st.jumps++[⟨st.code.length,line,s⟩]})else(0,8,st))else
 match numberL s.data.toList with
 |none=>(0,8,st)
 |some n=>(n,0,if kind=3 then{st with places:=max st.places (n+1)}else st)
def OPost (Z:Nat→Prop)(W:World)(b:Nat)(v:RV)(r:Int×Int×RSt)(e:Ending)(w':World):Prop:=∃v',e= .returned (.tuple #[.int .i64 r.1,.int .i64 r.2.1])∧Hid (RX Z w' b v' r.2.2∧RK b v W v' w')
theorem oper_const
  {N:Nat}{Z:Nat→Prop}(b:Nat)(v:RV)(st:RSt)(line:Int)(s:ByteArray)(W:World)(R:RX Z W b v st)(G:Gl Tryz.prog N W)(hs:s.size≤65536)
  (hZ:∀j,W.heap.size≤j→Z j)(hl:st.consts.length≤65536)(r:Int×Int×RSt)(hr:(if(parseV s.data.toList).2≠0 then(0,(parseV s.data.toList).2,st)else(((addV (parseV s.data.toList).1 st.consts).1:Int),0,{st with consts:=(addV (parseV s.data.toList).1 st.consts).2}))=r):
  Calls Tryz.prog 87 #[.pointer (some ⟨b,0,none⟩),.int .i64 1,.int .i64 line,.string s] W (OPost Z W b v r):=by
 have PA:=zhd (parse_any s W (by omega) G _ rfl)
 have HR:=zh2 R hr
 clear R hr G
 generalize parseV s.data.toList=p at*
 obtain⟨x,er⟩:=p
 go_enter Tryz.func87,Tryz.ntmps87
 go_wp2_with fail
 refine PA.out.mono ?_
 rintro e w1 ⟨⟨ck,cn,cs,la,ln,lc⟩,rfl,hC,hB⟩
 have HC:=zh2 hC hB
 clear hC hB PA
 cases hz:(er !=0)with
 |true=>
  have hr:r=(0,er,st):=by rw[←HR.out.2,if_pos (by simpa using hz)]
  go_wp2_with fail
  subst hr
  have BE:Below W.heap.size W _:=HC.out.2.alloc HC.out.2.size (.cells #[.int .i64 ck,.int .i64 cn,.string cs,.slice la ln lc] 39)
  exact bodyPost_ret (v:=.tuple #[.int .i64 0,.int .i64 er]) (by simp only[results,Tryz.results87];go_simp) rfl ⟨v,rfl,zhd ⟨HR.out.1.ext BE,RK.ext BE⟩⟩
 |false=>
  obtain⟨i0,l',hq⟩:∃i l,addV x st.consts=(i,l):=⟨_,_,rfl⟩
  have hr:r=((i0:Int),0,{st with consts:=l'}):=by rw[←HR.out.2,if_neg (by simpa using hz),hq]
  subst hr
  have BE:Below W.heap.size W (w1.alloc (.cells #[.int .i64 ck,.int .i64 cn,.string cs,.slice la ln lc] 39)):=HC.out.2.alloc HC.out.2.size _
  have RV:=zhd (rvalue_any b v st x ck cn cs la ln lc _ (HR.out.1.ext BE) ((HC.out.1.mono (G:=fun j=>¬RO v b j∧Z j) (fun j h _=>⟨fun e=>by have:=HR.out.1.lt e;omega,hZ j h⟩)).keep (S:=fun _=>False) ((Keeps.refl _ _).alloc _) (fun _ _ f=>f)) (by omega) _ _ hq)
  have HB:=zhd BE
  clear BE hq
  go_wp2_with fail
  refine RV.out.mono ?_
  rintro e w2 ⟨v',rfl,H2⟩
  go_wp2_with fail
  exact bodyPost_ret (v:=.tuple #[.int .i64 i0,.int .i64 0]) (by simp only[results,Tryz.results87];go_simp) rfl ⟨v',rfl,zhd ⟨H2.out.1,(RK.ext HB.out).trans H2.out.2⟩⟩
theorem oper_name
  {N:Nat}{Z:Nat→Prop}(b:Nat)(v:RV)(st:RSt)(line:Int)(s:ByteArray)(W:World)(R:RX Z W b v st)(G:Gl Tryz.prog N W)(hs:s.size≤65536)
  (hl:st.names.length≤65536)(r:Int×Int×RSt)(hr:(match quotedL s.data.toList with
  |none=>(0,8,st)
  |some n=>(((addN n st.names).1:Int),0,{st with names:=(addN n st.names).2}))=r):
  Calls Tryz.prog 87 #[.pointer (some ⟨b,0,none⟩),.int .i64 2,.int .i64 line,.string s] W (OPost Z W b v r):=by
 have QA:=zhd (quotedA_any s W (by omega) G)
 clear G
 generalize quotedL s.data.toList=p at*
 have HR:=zh2 R hr
 clear R hr
 go_enter Tryz.func87,Tryz.ntmps87
 go_wp2_with fail
 refine QA.out.mono ?_
 rintro e w1 ⟨hB,hq⟩
 have HB:=zhd hB
 clear hB QA
 cases p with
 |none=>
  obtain⟨t,rfl⟩:=hq
  have hr:r=(0,8,st):=HR.out.2.symm
  go_wp2_with fail
  subst hr
  exact bodyPost_ret (v:=.tuple #[.int .i64 0,.int .i64 8]) (by simp only[results,Tryz.results87];go_simp) rfl ⟨v,rfl,zhd ⟨HR.out.1.ext HB.out,RK.ext HB.out⟩⟩
 |some n=>
  obtain rfl:=hq
  obtain⟨i0,l',hq⟩:∃i l,addN n st.names=(i,l):=⟨_,_,rfl⟩
  have hr:r=((i0:Int),0,{st with names:=l'}):=by
   have h:=HR.out.2
   dsimp only at h
   rw[hq]at h
   exact h.symm
  subst hr
  have NA:=zhd (name_any b v st n _ (HR.out.1.ext HB.out) (by omega) _ _ hq)
  clear hq
  go_wp2_with fail
  refine NA.out.mono ?_
  rintro e w2 ⟨v',rfl,H2⟩
  go_wp2_with fail
  exact bodyPost_ret (v:=.tuple #[.int .i64 i0,.int .i64 0]) (by simp only[results,Tryz.results87];go_simp) rfl ⟨v',rfl,zhd ⟨H2.out.1,(RK.ext HB.out).trans H2.out.2⟩⟩
theorem oper_number
  {N:Nat}{Z:Nat→Prop}(b:Nat)(v:RV)(st:RSt)(line:Int)(s:ByteArray)(W:World)(R:RX Z W b v st)(G:Gl Tryz.prog N W)(hs:s.size≤65536)
  (kind:Int)(k1:(kind==1)=false)(k2:(kind==2)=false)(k4:(kind==4)=false)(hp:0≤st.places∧st.places≤100)(r:Int×Int×RSt)(hr:(match numberL s.data.toList with
  |none=>(0,8,st)
  |some n=>((n:Int),0,if kind=3 then{st with places:=max st.places (n+1)}else st))=r):
  Calls Tryz.prog 87 #[.pointer (some ⟨b,0,none⟩),.int .i64 kind,.int .i64 line,.string s] W (OPost Z W b v r):=by
 have NA:=zhd (numberA_any s W (by omega) G)
 clear G
 generalize numberL s.data.toList=p at*
 have HR:=zh2 R hr
 clear R hr
 go_enter Tryz.func87,Tryz.ntmps87
 go_wp2_with fail
 refine NA.out.mono ?_
 rintro e w1 ⟨hB,hq⟩
 have HB:=zhd hB
 clear hB NA
 cases p with
 |none=>
  obtain⟨t,rfl⟩:=hq
  have hr:r=(0,8,st):=HR.out.2.symm
  go_wp2_with fail
  subst hr
  exact bodyPost_ret (v:=.tuple #[.int .i64 0,.int .i64 8]) (by simp only[results,Tryz.results87];go_simp) rfl ⟨v,rfl,zhd ⟨HR.out.1.ext HB.out,RK.ext HB.out⟩⟩
 |some n=>
  obtain⟨hn,rfl⟩:=hq
  cases k3:(kind==3)with
  |false=>
   have hr:r=((n:Int),0,st):=by rw[←HR.out.2];simp only[if_neg (show¬kind=3 from by simpa using k3)]
   subst hr
   go_wp2_with fail
   exact bodyPost_ret (v:=.tuple #[.int .i64 n,.int .i64 0]) (by simp only[results,Tryz.results87];go_simp) rfl ⟨v,rfl,zhd ⟨HR.out.1.ext HB.out,RK.ext HB.out⟩⟩
  |true=>
   have hr:r=((n:Int),0,{st with places:=max st.places (n+1)}):=by rw[←HR.out.2];simp only[if_pos (show kind=3 from by simpa using k3)]
   subst hr
   have R1:=HR.out.1.ext HB.out
   have c3:w1.cell? ⟨b,3,none⟩=some (.int .i64 st.places):=by rw[zch R1.h,←R1.pl];rfl
   have f0:∀o,w1.frozen? ⟨b,o,none⟩=false:=fun o=>zfr R1.h o
   have b1:b<w1.heap.size:=zlt R1.h
   have S:=R1.setPl (max st.places (n+1))
   have HS:=zhd S
   clear S R1
   obtain⟨hp0,hp1⟩:=hp
   go_wp2_with fail
   exact bodyPost_ret (v:=.tuple #[.int .i64 n,.int .i64 0]) (by simp only[results,Tryz.results87];go_simp) rfl ⟨_,rfl,zhd ⟨HS.out.1,(RK.ext HB.out).trans HS.out.2⟩⟩
theorem elemJ:ElemOf Jp Tryz.prog 83 91 32:=elem_mk Tryz.underlying83 (z:=.agg #[.int .i64 0,.int .i64 0,.string .empty]) (n:=3) (by kernel_rfl) rfl rfl
theorem oper_label
  {N:Nat}{Z:Nat→Prop}(b:Nat)(v:RV)(st:RSt)(line:Int)(s:ByteArray)(W:World)(R:RX Z W b v st)(G:Gl Tryz.prog N W)(hs:s.size≤65536)
  (hl:st.jumps.length≤65536)(r:Int×Int×RSt)(hr:(if labL s.data.toList=true then(0,0,{st with jumps:=st.jumps++[⟨st.code.length,line,s⟩]})else(0,8,st))=r):
  Calls Tryz.prog 87 #[.pointer (some ⟨b,0,none⟩),.int .i64 4,.int .i64 line,.string s] W (OPost Z W b v r):=by
 have _h:=G
 have LA:=zhd (label_any s W (by omega))
 generalize labL s.data.toList=lb at*
 obtain⟨vc,vk,vn,vj,pl,mb⟩:=v
 obtain⟨a,cap,rfl⟩:∃a cap,vj= .slice a st.jumps.length cap:=R.jumps.slice
 obtain⟨ca,cc,rfl⟩:∃a cap,vc= .slice a st.code.length cap:=R.code.slice
 have b0:=zlt R.h
 have c5:=zca R.h 5 rfl
 have c0:=zca R.h 0 rfl
 have f0:∀o,W.frozen? ⟨b,o,none⟩=false:=fun o=>zfr R.h o
 have HR:=zh2 R hr
 have NB:=zhd (show∀g,(Value.slice a st.jumps.length cap).ownBlock=some g→g≠b from fun g hg=>(R.sep.j g hg).1)
 have HBD:=zhd (show(st.jumps.length+[(⟨st.code.length,line,s⟩:Jp)].length)*32≤140737488355328∧st.jumps.length+[(⟨st.code.length,line,s⟩:Jp)].length≤maxLen∧st.jumps.length+[(⟨st.code.length,line,s⟩:Jp)].length=st.jumps.length+1 from by unfold maxLen;simp;omega)
 clear R hr
 go_enter Tryz.func87,Tryz.ntmps87
 go_wp2_with fail
 refine LA.out.mono ?_
 rintro e w1 ⟨rfl,hw⟩
 rw[hw]
 clear hw w1
 cases lb with
 |false=>
  have hr:r=(0,8,st):=HR.out.2.symm
  subst hr
  go_wp2_with fail
  exact bodyPost_ret (v:=.tuple #[.int .i64 0,.int .i64 8]) (by simp only[results,Tryz.results87];go_simp) rfl ⟨_,rfl,zhd ⟨HR.out.1,RK.refl _ _ _⟩⟩
 |true=>
  have hr:r=(0,0,{st with jumps:=st.jumps++[⟨st.code.length,line,s⟩]}):=HR.out.2.symm
  subst hr
  go_wp2_with fail
  go_region_law
   ((refine step_apps (α:=Jp) (o:=⟨some 61,_,_,_,_,_⟩) elemJ (by rfl) (.tmp 51) (.tmp 60) (by rfl) (v:=.slice a st.jumps.length cap) (u:=.slice (some ⟨W.heap.size,0,none⟩) 1 1) (by rfl) (by rfl) (xs:=st.jumps) (ys:=[⟨st.code.length,line,s⟩]) ((HR.out.1.jumps.drew).alloc _) (RowAt.lit (α:=Jp) (y:=⟨st.code.length,line,s⟩) (heap_alloc_new _ _)) HBD.out.1 HBD.out.2.1 (st.jumps.length+1) HBD.out.2.2 ?_;intro a1 cp w1 hr1 hk1 hf1;have hb1:=(hk1.block b (by simp;omega) (fun e=>NB.out b e rfl)).trans ((Below.heap_alloc W.drew _ _ b0).trans HR.out.1.h);have y1:w1.cell? ⟨b,5,none⟩=some (.slice a st.jumps.length cap):=by{rw[zch hb1];rfl};have y2:w1.cell? ⟨b,0,none⟩=some (.slice ca st.code.length cc):=by{rw[zch hb1];rfl};have y3:∀o,w1.frozen? ⟨b,o,none⟩=false:=fun o=>zfr hb1 o;have b1:b<w1.heap.size:=zlt hb1;have FF:=zh3 hr1 hk1 hf1;clear hr1 hk1 hf1 hb1))
  all_goals
   have S:=(HR.out.1.ext (((Below.refl _ W).drew).alloc (Nat.le_refl _) (.cells #[.int .i64 st.code.length,.int .i64 line,.string s] 91))).setJumps FF.out.1 FF.out.2.1 FF.out.2.2
   have HS:=zhd S
   clear S
   go_wp2_with fail
   exact bodyPost_ret (v:=.tuple #[.int .i64 0,.int .i64 0]) (by simp only[results,Tryz.results87];go_simp) rfl ⟨_,rfl,zhd ⟨HS.out.1,(RK.ext (((Below.refl _ W).drew).alloc (Nat.le_refl _) _)).trans HS.out.2⟩⟩
theorem oper_any
  {N:Nat}{Z:Nat→Prop}(b:Nat)(v:RV)(st:RSt)(line:Int)(s:ByteArray)(W:World)(R:RX Z W b v st)(G:Gl Tryz.prog N W)(hs:s.size≤65536)
  (hZ:∀j,W.heap.size≤j→Z j)(kind:Int)(h1:st.consts.length≤65536)(h2:st.names.length≤65536)(h3:st.jumps.length≤65536)(hp:0≤st.places∧st.places≤100):
  Calls Tryz.prog 87 #[.pointer (some ⟨b,0,none⟩),.int .i64 kind,.int .i64 line,.string s] W (OPost Z W b v (operL kind line s st)):=by
 unfold operL
 by_cases k1:kind=1
 ·rw[if_pos k1]
  subst k1
  exact oper_const b v st line s W R G hs hZ h1 _ rfl
 ·rw[if_neg k1]
  by_cases k2:kind=2
  ·rw[if_pos k2]
   subst k2
   exact oper_name b v st line s W R G hs h2 _ rfl
  ·rw[if_neg k2]
   by_cases k4:kind=4
   ·rw[if_pos k4]
    subst k4
    exact oper_label b v st line s W R G hs h3 _ rfl
   ·rw[if_neg k4]
    exact oper_number b v st line s W R G hs kind (beq_eq_false_iff_ne.2 k1) (beq_eq_false_iff_ne.2 k2) (beq_eq_false_iff_ne.2 k4) hp _ rfl
end Go.Proofs.YtakljipkaoahnaaGreatDoor
