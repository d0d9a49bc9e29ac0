/- Parts of the proof: what the functions and the plain laws give that later parts lean on. Conditions: none beyond those that each theorem names. -/
import Derived.Test.YtpagmlndgblhhaaGreatDoorA17
set_option maxRecDepth 100000
set_option maxHeartbeats 8000000
namespace Go.Va
open Go.Own Go.RowKit
open Go.Proofs.YtpagmlndgblhhaaGreatDoor
theorem ygz:∀l:List Val,yaN (l.map yab)=yaN l
 |[]=>rfl
 |x::r=>by rw[List.map_cons,yaN,yaN,yaJ,ygz r]
theorem ydb (p:Img):∀l:List In,ybC (yaf p) l=ybC p l
 |[]=>rfl
 |c::r=>by
  have hm:∀k,mostL (yaf p) k=mostL p k:=fun k=>by unfold mostL yaf;rw[zmd]
  rw[ybC,ybC,hm,ydb p r]
theorem yjp (p:Img):imgL (yaf p)=imgL p:=by
 unfold imgL;rw[ydb];unfold yaf;simp only[zmd,ygz]
theorem ygC (p:Img):ya0 (yaf p)=ya0 p:=by
 unfold ya0;rw[yjp];rfl
end Go.Va
namespace Go.Proofs.YtpagmlndgblhhaaGreatDoor
open Go.RowKit Go.Own Go.Own.MapTy Go.Va Go.Sort
open Go.Own.Cells (sz enc)
theorem ykA {n:Nat}(h:n<=16):(madeCells #[.int .i64 0,.int .i64 0,.string .empty,.slice none 0 0] (n*4)).toList=(List.replicate n (⟨0,0,.empty,none,0,0⟩:VC)).flatMap enc:=by
 have e:∀k,(madeCells #[.int .i64 0,.int .i64 0,.string .empty,.slice none 0 0] k).toList=(List.range k).map (fun j=>(#[.int .i64 0,.int .i64 0,.string .empty,.slice none 0 0]:Array Value)[j%4]!):=fun k=>by simp[madeCells]
 rw[e];have A:n=0\/n=1\/n=2\/n=3\/n=4\/n=5\/n=6\/n=7\/n=8\/n=9\/n=10\/n=11\/n=12\/n=13\/n=14\/n=15\/n=16:=by omega
 rcases A with rfl|rfl|rfl|rfl|rfl|rfl|rfl|rfl|rfl|rfl|rfl|rfl|rfl|rfl|rfl|rfl|rfl<;>rfl
theorem ynr:(Tryz.prog.info? 38).map (fun i=>(i.zero,i.size,i.bytes))=some (some (.agg #[.int .i64 0,.int .i64 0,.string .empty,.slice none 0 0]),4,56):=by kernel_rfl
def yoU (W:World)(p:Img)(b:Nat)(v:MV)(w':World):Prop:=MX TT (fun j=>W<=j) w' b v (yaf p) (ms0 (yaf p))/\(∀j,MO v b j->W.heap.size<=j)/\Below W W w'
def ynO (W:World)(p:Img)(er:Int)(e:Ending)(w':World):Prop:=
 (er≠0/\e= .returned (.tuple #[.pointer none,er])/\Hid (Below W W w'))\/(er=0/\∃(b:Nat) (v:MV),e= .returned (.tuple #[.pointer (some ⟨b,0,none⟩),.int .i64 0])/\Hid (yoU W p b v w'))
theorem ynh {W w2 w3 w4:World}{p:Img}{i3:IC}{n:Nat}(hW:W<=w2.heap.size)(B23:Below w2 w2 w3)(BW:Below W W w3)(H3:IAt (fun g=>w2<=g) w3 i3 (yaf p))(B4:Below w3 w3 w4)
  (hm4:w4.heap[w3.heap.size]? =some (.cells (ybT ⟨.slice none 0 0,i3,.slice none 0 0,⟨0,0,⟨#[]⟩,none,0,0⟩,.slice none 0 0,.slice none 0 0,.slice none 0 0,.slice none 0 0⟩ (ms0 (yaf p))).toArray 123 (0,0)))(hs4:w4.heap.size=w3.heap.size+1)(hn:p.places=n)(hn16:n<=16):
  yoU W p w3.heap.size ⟨.slice none 0 0,i3,.slice (some ⟨w4,0,none⟩) n n,⟨0,0,⟨#[]⟩,none,0,0⟩,.slice none 0 0,.slice none 0 0,.slice none 0 0,.slice none 0 0⟩
   ((w4.setCell ⟨w3,5,none⟩ (.slice (some ⟨w4,0,none⟩) n n)).alloc (.cells (madeCells #[.int .i64 0,.int .i64 0,.string .empty,.slice none 0 0] (n*4)) 38)):=by
 obtain⟨w5,C⟩:∃w5,w5=w4.setCell ⟨w3,5,none⟩ (.slice (some ⟨w4,0,none⟩) n n):=⟨_,rfl⟩;have J:w5.heap.size=w4.heap.size:=by rw[C];simp[World.setCell]
 have P:w5.heap[w3.heap.size]? =some (.cells (ybT ⟨.slice none 0 0,i3,.slice (some ⟨w4,0,none⟩) n n,⟨0,0,⟨#[]⟩,none,0,0⟩,.slice none 0 0,.slice none 0 0,.slice none 0 0,.slice none 0 0⟩ (ms0 (yaf p))).toArray 123 (0,0)):=by
  rw[C];simp only[World.setCell,zni,hm4];rfl
 have N:Below w3 w3 w5:=by rw[C];exact B4.trans ⟨rfl,rfl,rfl,by simp[World.setCell],fun k hk=>znn _ _ _ _ (Nat.ne_of_lt hk)⟩
 rw[<-C];obtain⟨w6,D⟩:∃w6,w6=w5.alloc (.cells (madeCells #[.int .i64 0,.int .i64 0,.string .empty,.slice none 0 0] (n*4)) 38):=⟨_,rfl⟩;have O:w6.heap[w4.heap.size]? =some (.cells (madeCells #[.int .i64 0,.int .i64 0,.string .empty,.slice none 0 0] (n*4)) 38 (0,0)):=by rw[D,<-J];exact znb _ _
 have F:=zba D;rw[<-D];have L:=(F.block w3 (by omega)).trans P;have H:Below w3 w3 w6:=N.trans (F.mono (by omega));have E:∀j,MO ⟨.slice none 0 0,i3,.slice (some ⟨w4,0,none⟩) n n,⟨0,0,⟨#[]⟩,none,0,0⟩,.slice none 0 0,.slice none 0 0,.slice none 0 0,.slice none 0 0⟩ w3.heap.size j->j=w3.heap.size\/j=w4:=by
  rintro j ⟨i,A⟩
  match i,A with
  |0,A=>cases A;exact .inl rfl
  |1,A=>cases A
  |2,A=>cases A;exact .inr rfl
  |3,A=>cases A
  |4,A=>cases A
  |5,A=>cases A
  |6,A=>cases A
  |n+7,A=>cases A
 have R:=B23.size;refine⟨⟨L,XRow.nil _ _ _,?_,XRow.nil _ _ _,XRow.nil _ _ _,XRow.nil _ _ _,XRow.nil _ _ _,?_,yaG _ _,?_⟩,fun j B=> ?_,?_⟩
 .refine XRow.of (cs:=List.replicate n (⟨0,0,.empty,none,0,0⟩:VC)) (RowAt.made O (ykA hn16) (by simp) (znf hn16 (by decide))) ⟨by simp[ms0,yaf,hn],fun i c x hc hx=> ?_⟩
  have K:=List.eq_of_mem_replicate (zmg hc);have I:=List.eq_of_mem_replicate (zmg hx);subst K I;exact yaG _ _
 .have M:=H3.mono (G:=fun g=>w2<=g/\g<w3) (fun g h1 h2=>⟨h1,h2⟩)
  have Q:=M.below H;exact Q.mono (fun g hg _=>⟨fun e=>by rcases E g e with rfl|rfl<;>omega,show W<=g by omega⟩)
 .rintro i j g A B
  match i,A with
  |0,A=>
   cases A
   match j,B with
   |0,B=>rfl
   |2,B=>have h:w4.heap.size=w3.heap.size:=Option.some.inj B;omega
   |1,B=>cases B
   |3,B=>cases B
   |4,B=>cases B
   |5,B=>cases B
   |6,B=>cases B
   |n+7,B=>cases B
  |2,A=>
   cases A
   match j,B with
   |0,B=>have h:w3.heap.size=w4.heap.size:=Option.some.inj B;omega
   |2,B=>rfl
   |1,B=>cases B
   |3,B=>cases B
   |4,B=>cases B
   |5,B=>cases B
   |6,B=>cases B
   |n+7,B=>cases B
  |1,A=>cases A
  |3,A=>cases A
  |4,A=>cases A
  |5,A=>cases A
  |6,A=>cases A
  |n+7,A=>cases A
 .rcases E j B with rfl|rfl<;>have:=BW.size<;>omega
 .exact BW.trans (H.mono BW.size)
theorem yhr (F:Nat->Prop)(W:World)(i:IC)(p:Img)(H:IAt F W i p)(hw:∀x∈p.consts,x.wf)(r:Fa×Int×Int)(hr:ya0 p=r):
  Calls Tryz.prog 14 #[.agg #[.slice i.ca i.cn i.cc,.slice i.ka i.kn i.kc,.slice i.na i.nn i.nc,i.pl]] W (ynO W p r.2.2):=by
 obtain⟨U,D⟩:∃U,U=W.alloc (.cells #[.slice i.ca i.cn i.cc,.slice i.ka i.kn i.kc,.slice i.na i.nn i.nc,i.pl] 28):=⟨_,rfl⟩;have y:=zba D;have l:=zha D;have t:=H.keep (S:=fun _=>False) (zkb y) (fun _ _ f=>f);have CK:=zhd (yiR F i p U t hw r hr);obtain⟨c0,c1,c2,c3,l0⟩:=zq4 l;have R:=zh5 y l t hw hr;clear y l t H hw hr;go_in;go_wp2_with fail;rw[<-D];clear D;refine CK.o.mono ?_;rintro e j ⟨hv,rfl,g⟩;obtain⟨fa,at_,b⟩:=r;dsimp only at g|-;obtain⟨xa,xc,rfl⟩:=g.o.1.slice;go_upto_region 2 with(fail);refine yaa ?_;intro w2 L;have B2:Below j j w2:=by rw[L];exact(zal).alloc (by simp) _
 have m:w2.heap[j.heap.size+1]? =some (.cells #[at_,b] 112 (0,0)):=by rw[L];exact yan
 have e1:=zca m 1 rfl;have el:=zlt m;have I:Below U U w2:=g.o.2.2.trans (B2.mono g.o.2.2.size);have G:=(I.block W l0).trans R.o.2.1;have O:=R.o.1.trans (I.mono R.o.1.size);have T:=zh3 I G O;clear L B2 m I c0 c1 c2 c3 l0 CK;cases hez:(b !=0)with
 |true=>
  have a:b≠0:=by simpa using hez
  have HN:=zhd a;clear G O a;go_wp2_with fail;go_region
  all_goals
   go_wp2_with fail;exact zng (v:=.tuple #[.pointer none,b]) (by simp only[results,Tryz.results14];go_simp) rfl (.inl ⟨HN.o,rfl,zhd T.o.2.2.drew⟩)
 |false=>
  obtain rfl:b=0:=by simpa using hez
  clear hez;have K:=(ydt R.o.2.2.2.2).2 rfl;have k:=yb1 K.2.img;have X:∀x∈p.consts,szV x<=1073741824:=fun x hx=>by have:=ymq K.2.img x hx;omega
  have CL:=zhd (ygh F w2 i p (R.o.2.2.1.keep (S:=fun _=>False) (zkb T.o.1) (fun _ _ f=>f)) X ⟨by omega,by omega,by omega⟩);obtain⟨c0,c1,c2,c3,l2⟩:=zq4 G;have Z:i.pl=p.places:=R.o.2.2.1.pl;obtain⟨n,hn⟩:∃n:Nat,p.places=n:=⟨p.places.toNat,by omega⟩;have A:n<=16:=by omega
  have N:=zh4 Z hn A K.2;clear G O k X K Z hn A;go_wp2_with fail;refine CL.o.mono ?_;rintro e Q ⟨i3,rfl,d⟩;have E:=(d.o.2.block W l2).trans T.o.2.1;have d3:Q.cell? ⟨W,3,none⟩=some (.int .i64 (n:Int)):=by rw[zch E,<-N.o.2.1,<-N.o.1];rfl
  have l3:=zlt E;have q:=zhd E;clear E c0 c1 c2 c3 l2;go_upto_region 5 with(fail);refine yaa ?_;intro c C;have B:c.heap[Q.heap.size]? =some (.cells (ybT ⟨.slice none 0 0,i3,.slice none 0 0,⟨0,0,⟨#[]⟩,none,0,0⟩,.slice none 0 0,.slice none 0 0,.slice none 0 0,.slice none 0 0⟩ (ms0 (yaf p))).toArray 123 (0,0)):=by
   rw[C];exact znb _ _
  have u:=zba C;have Y:c.heap.size=Q.heap.size+1:=by rw[C];simp
  have M:=(u.block W l3).trans q.o;have d4:c.cell? ⟨W,3,none⟩=some (.int .i64 (n:Int)):=by rw[zch M,<-N.o.2.1,<-N.o.1];rfl
  have l4:=zlt M;have m5:=zca B 5 rfl;have mf:∀o,c.frozen? ⟨Q,o,none⟩=false:=fun o=>zfr B o;have ml:=zlt B;have s:=zh3 B u Y;clear C B u Y M d3 l3;obtain⟨J,V,z,ts,tb⟩:∃J,Tryz.prog.info? 38=some J/\J.zero=some (.agg #[.int .i64 0,.int .i64 0,.string .empty,.slice none 0 0])/\J.size=4/\J.bytes=56:=by
   have h:=ynr;cases hq:Tryz.prog.info? 38 with
   |none=>rw[hq]at h;cases h
   |some J=>
    rw[hq]at h;simp only[Option.map_some,Option.some.injEq,Prod.mk.injEq]at h;exact⟨J,rfl,h.1,h.2.1,h.2.2⟩
  have A:=N.o.2.2.1;have Aa:∀W:World,(Instr.makeSlice 25 (.int .i64 (n:Int)) (.int .i64 (n:Int))).run Tryz.prog W= .ok (.slice (some ⟨W,0,none⟩) n n) (W.alloc (.cells (madeCells #[.int .i64 0,.int .i64 0,.string .empty,.slice none 0 0] (n*4)) 38)):=fun W=>by
   have:=run_make (P:=Tryz.prog) W 25 38 J (.agg #[.int .i64 0,.int .i64 0,.string .empty,.slice none 0 0]) Tryz.underlying25 V z .i64 .i64 n n (by omega) (by omega) (by rw[tb];omega) (by omega);rw[ts]at this;simpa[Value.cells]using this
  clear V z ts tb A;go_wp2_with fail;exact zng (v:=.tuple #[.pointer (some ⟨Q,0,none⟩),.int .i64 0]) (by simp only[results,Tryz.results14];go_simp) rfl (.inr ⟨rfl,Q.heap.size,_,rfl,zhd (ynh (T.o.2.2.size) d.o.2 (T.o.2.2.trans (d.o.2.mono T.o.2.2.size)) d.o.1 s.o.2.1 s.o.1 s.o.2.2 N.o.2.1 N.o.2.2.1)⟩)
set_option linter.unusedVariables false
theorem ydR {p:Img}{fa:Fa}{at_:Int}(hw:∀x∈p.consts,x.wf)(hck:ya0 p=(fa,at_,0)):Known (yaf p) fa/\Pk (yaf p)/\fa.span<=(yaf p).code.length+1/\St (yaf p) fa (ms0 (yaf p)):=by
 have E:=((ydt hck).2 rfl).2;have B:=yb1 E.img;have A:ya0 (yaf p)=(fa,at_,0):=(ygC p).trans hck;have D:=((ydt A).2 rfl).2;exact⟨D,⟨fun x hx=>by
  obtain⟨y,C,rfl⟩:=List.mem_map.1 hx;exact ybb ⟨yeA B.2.2.2.2.2.2.1 y C,hw y C⟩,fun x hx=>yio B.2.2.2.2.2.2.2.1 x hx⟩,ym0 A,St.zero D B.2.2.2.2.1⟩
theorem RPX.monoZ {tr:TypeId}{Z Z':Nat->Prop}{W:World}{rb b mb:Nat}{v:MV}{p:Img}{r:RP}(R:RPX tr Z W rb b mb v p r)(h:∀j,Z j->j<W.heap.size->Z' j):RPX tr Z' W rb b mb v p r:=⟨R.h,R.mx.monoZ (fun j hj hl=>⟨h j hj.1 hl,hj.2⟩),R.fm,R.ne,R.o1,R.o2⟩
def yp7 (W:World)(p:Img)(r:RP)(rb b mb:Nat)(v:MV)(w':World):Prop:=RPX TR (fun j=>W<=j) w' rb b mb v (yaf p) r/\(∀j,RO rb b mb v j->W.heap.size<=j)/\Below W W w'
def ymS (W:World)(p:Img)(er:Int)(e:Ending)(w':World):Prop:=
 (er≠0/\e= .returned (.tuple #[.pointer none,er])/\Hid (Below W W w'))\/(er=0/\∃(rb b mb:Nat) (v:MV),e= .returned (.tuple #[.pointer (some ⟨rb,0,none⟩),.int .i64 0])/\Hid (yp7 W p (rp0 (yaf p)) rb b mb v w'))
theorem ylO (F:Nat->Prop)(W:World)(i:IC)(p:Img)(H:IAt F W i p)(hw:∀x∈p.consts,x.wf)(r:Fa×Int×Int)(hr:ya0 p=r):
  Calls Tryz.prog 13 #[.agg #[.slice i.ca i.cn i.cc,.slice i.ka i.kn i.kc,.slice i.na i.nn i.nc,i.pl]] W (ymS W p r.2.2):=by
 obtain⟨G,B⟩:∃G,G=W.alloc (.cells #[.slice i.ca i.cn i.cc,.slice i.ka i.kn i.kc,.slice i.na i.nn i.nc,i.pl] 28):=⟨_,rfl⟩;have L:=zba B;have M:=zha B;have R:=zhd (yhr F G i p (H.keep (S:=fun _=>False) (zkb L) (fun _ _ f=>f)) hw r hr);obtain⟨c0,c1,c2,c3,Y⟩:=zq4 M;have I:=zhd L;clear L M H hw hr;go_in;go_wp2_with fail;rw[<-B];clear B;refine R.o.mono ?_;obtain⟨Z,at_,K⟩:=r;dsimp only;rintro e A (⟨D,rfl,C⟩|⟨rfl,b,v,rfl,C⟩)
 .have O:(K==0)=false:=by rw[zna];exact D
  have X:(K !=0)=true:=by unfold bne;rw[O];rfl
  have U:=zhd D;have V:=zhd (I.o.trans (C.o.mono I.o.size));clear D C;go_wp2_with fail;exact zng (v:=.tuple #[.pointer none,K]) (by simp only[results,Tryz.results13];go_simp) rfl (.inl ⟨U.o,rfl,V⟩)
 .have Q:= @run_makeMap Tryz.prog
  go_wp2_with fail;have fin:ymS W p 0 (.returned (.tuple #[.pointer (some ⟨A.heap.size+1,0,none⟩),.int .i64 0])) ((A.alloc (.map #[] 0)).alloc (.cells #[.pointer (some ⟨b,0,none⟩),.int .i64 0,.int .i64 0,.map (some A.heap.size),.bool false,.int .i64 0] 59)):=by
   have N:Below A A ((A.alloc (.map #[] 0)).alloc (.cells #[.pointer (some ⟨b,0,none⟩),.int .i64 0,.int .i64 0,.map (some A.heap.size),.bool false,.int .i64 0] 59)):=(zal).alloc (by simp) _;have T:=(C.o.1.monoZ (Z':=fun q=>G<=q/\q<A) (fun j h1 h2=>⟨h1,h2⟩)).ext N;have P:=I.o.size;have J:=C.o.2.2.size;have E:∀j,MO v b j->j<A.heap.size:=fun j hj=>C.o.1.lt hj;refine .inr ⟨rfl,A.heap.size+1,b,A.heap.size,v,rfl,zhd ⟨⟨yan,T.monoZ (fun j h _=>⟨(show W.heap.size<=j by omega),by omega,by omega⟩),⟨#[],0,yaC,rfl,by simp[rp0,mOf]⟩,by omega,fun e=>by have:=E _ e;omega,fun e=>by have:=E _ e;omega⟩,?_,?_⟩⟩
   .rintro j (rfl|rfl|h)
    .omega
    .omega
    .have:=C.o.2.1 j h;omega
   .exact I.o.trans (((C.o.2.2.trans (N.mono J))).mono P)
  exact zng (v:=.tuple #[.pointer (some ⟨A.heap.size+1,0,none⟩),.int .i64 0]) (by simp only[results,Tryz.results13];go_simp) rfl fin
def yoN (W:World)(p:Img)(er:Int)(l:List Ev)(e:Ending)(w':World):Prop:=
 (er≠0/\e= .returned (.tuple #[.pointer none,er])/\Hid (Below W W w'))\/
 (er=0/\(yar (yaf p) (rp0 (yaf p)) l).err≠0/\e= .returned (.tuple #[.pointer none,.int .i64 (yar (yaf p) (rp0 (yaf p)) l).err])/\Hid (Below W W w'))\/
 (er=0/\(yar (yaf p) (rp0 (yaf p)) l).err=0/\∃(rb b mb:Nat) (v:MV),e= .returned (.tuple #[.pointer (some ⟨rb,0,none⟩),.int .i64 0])/\Hid (yp7 W p (yar (yaf p) (rp0 (yaf p)) l) rb b mb v w'))
theorem ydh {N:Nat}(F:Nat->Prop)(W:World)(G:Gl Tryz.prog N W)(hN:N<=W.heap.size)(i:IC)(p:Img)(H:IAt F W i p)(hw:∀x∈p.consts,x.wf)(r:Fa×Int×Int)(hr:ya0 p=r)
  (ea:Option Addr)(en ec:Nat)(l:List Ev)(E:XRd (fun j=>j<W) W (.slice ea en ec) l)(hew:∀e∈l,e.v.wf)(hlo:(ya1 l).length<=30)(hl:l.length<=3000000):
  Calls Tryz.prog 11 #[.agg #[.slice i.ca i.cn i.cc,.slice i.ka i.kn i.kc,.slice i.na i.nn i.nc,i.pl],.slice ea en ec] W (yoN W p r.2.2 l):=by
 obtain⟨O,B⟩:∃O,O=W.alloc (.cells #[.slice i.ca i.cn i.cc,.slice i.ka i.kn i.kc,.slice i.na i.nn i.nc,i.pl] 28):=⟨_,rfl⟩;have c:=zba B;have k:=zha B;have n:=zhd (ylO F O i p (H.keep (S:=fun _=>False) (zkb c) (fun _ _ f=>f)) hw r hr);obtain⟨c0,c1,c2,c3,z⟩:=zq4 k;have A:=zh8 c E hew hlo hl hw G hN;have HR:=zhd hr;clear c k H hw hr E hew hlo hl G hN;go_in;go_wp2_with fail;rw[<-B];clear B;refine n.o.mono ?_;obtain⟨fa,at_,er⟩:=r;dsimp only;rintro e u (⟨D,rfl,C⟩|⟨rfl,U,b,Y,v,rfl,C⟩)
 .have X:(er==0)=false:=by rw[zna];exact D
  have y:(er !=0)=true:=by unfold bne;rw[X];rfl
  have Z:=zhd D;have HB:=zhd (A.o.1.trans (C.o.mono A.o.1.size));clear D C;go_wp2_with fail;exact zng (v:=.tuple #[.pointer none,er]) (by simp only[results,Tryz.results11];go_simp) rfl (.inl ⟨Z.o,rfl,HB⟩)
 .obtain⟨K,P,Q,S⟩:=ydR A.o.2.2.2.2.2.1 HR.o
  have M:=A.o.1.trans (C.o.2.2.mono A.o.1.size);have R:W<O.heap.size:=z;have s:=zhd (ymk U b Y v (yaf p) (rp0 (yaf p)) u (C.o.1.monoZ (Z':=fun j=>W<=j) (fun j h _=>by have h:O<=j:=h;show W<=j;omega)) (A.o.2.2.2.2.2.2.1.below M) (fun j=>j<W) ea en ec l (A.o.2.1.below M) A.o.2.2.1 fa K P Q S (by show 0+(ya1 l).length<=30;have:=A.o.2.2.2.1;omega) (by show 0+l.length<=4000000;have:=A.o.2.2.2.2.1;omega) (znq _) (fun j hj=>by have:=M.size;show W<=j;omega) (fun g I e=>by have:=C.o.2.1 g e;have I:g<W:=I;omega) (fun g I=>by have:=C.o.2.1 g I;have:=A.o.2.2.2.2.2.2.2;omega) (fun g I=>by have I:g<W:=I;have:=M.size;omega));have L:=zh3 C.o.2.1 M R;clear K P Q S M R n;go_wp2_with fail;refine s.o.mono ?_;rintro e w2 ⟨d,rfl,V⟩;have t:Below W W w2:=L.o.2.1.trans (V.o.2.keeps.below L.o.2.1.size (fun q hq e=>by have:=L.o.1 q e;have:=L.o.2.2;omega));have m:∀j,RO U b Y d j->W.heap.size<=j:=fun j h=>(V.o.2.ro h).elim (fun h=>by have:=L.o.1 j h;have:=L.o.2.2;omega) (fun h=>znf L.o.2.1.size h)
  obtain⟨er,J⟩:∃er,(yar (yaf p) (rp0 (yaf p)) l).err=er:=⟨_,rfl⟩;have T:=zh3 V.o.1 m t;have a:=zhd J;rw[J];clear J t m s V;by_cases he0:er=0
  .subst he0
   go_wp2_with fail;exact zng (v:=.tuple #[.pointer (some ⟨U,0,none⟩),.int .i64 0]) (by simp only[results,Tryz.results11];go_simp) rfl (.inr (.inr ⟨rfl,a.o,U,b,Y,d,rfl,zhd T.o⟩))
  .have X:(er==0)=false:=by rw[zna];exact he0
   have y:(er !=0)=true:=by unfold bne;rw[X];rfl
   have Z:=zhd he0;clear he0;go_wp2_with fail;exact zng (v:=.tuple #[.pointer none,er]) (by simp only[results,Tryz.results11];go_simp) rfl (.inr (.inl ⟨rfl,by rw[a.o];exact Z.o,by rw[a.o],zhd T.o.2.2⟩))
set_option linter.unusedVariables false
theorem yeN (F:List Int)(l:List Cm)(c:Cm):NL F (l++[c])=bif yaU F c then NL F l else NL F l++[c]:=by
 rw[yfm,ydw];cases yaU F c<;>simp[show NL F []=[] from rfl]
theorem yjc {r:RP}(h0:r.err=0)(hc:r.closed=false):(ybM r).map yaE=NL r.fired ((r.m.made.map yaE).drop r.next):=by
 unfold ybM;rw[h0,hc,show(((0:Int)!=0)||false)=false from rfl,znl,<-List.map_drop];unfold NL;rw[List.filter_map];rfl
def ypM (N0:Nat)(w1:World)(n:Nat)(F:List Int)(L:List Cm)(gk:Nat)(v28 v3:Value)(wr:World):Prop:=
 ∃i:Nat,v28= .int .i64 i/\i<=n/\gk=n - i/\XRow (fun g=>N0<=g/\¬v3.ownBlock=some g) wr 52 v3 (NL F (L.take i))/\(∀g,v3.ownBlock=some g->w1.heap.size<=g)/\Below w1 w1 wr
theorem yf5
  {Z:Nat->Prop}(rb b mb:Nat)(v:MV)(p:Img)(r:RP)(W:World)(R:RPX TR Z W rb b mb v p r)
  (h:(r.err !=0||r.closed)=true):
  Calls Tryz.prog 12 #[.pointer (some ⟨rb,0,none⟩)] W (yiI W ((ybM r).map yaE)):=by
 obtain⟨c0,c1,c2,c3,D,G,E,F⟩:=R.q;have B:ybM r=[]:=by unfold ybM;rw[h];rfl
 have C:=zhd B;have H:=zhd R;clear B R;cases he:(r.err !=0)with
 |true=>
  have A:(r.err==0)=false:=by
   unfold bne at he;cases hq:(r.err==0)with
   |false=>rfl
   |true=>rw[hq]at he;cases he
  clear h;go_in;go_wp2;go_ret;exact⟨_,rfl,zhd ⟨by rw[C.o];exact XRow.nil _ _ _,(fun g h=>by cases h),znv _ _⟩⟩
 |false=>
  rw[he,Bool.false_or]at h;have A:(r.err==0)=true:=by
   unfold bne at he;cases hq:(r.err==0)with
   |true=>rfl
   |false=>rw[hq]at he;cases he
  rw[h]at D;clear h;go_in;go_wp2;go_ret;exact⟨_,rfl,zhd ⟨by rw[C.o];exact XRow.nil _ _ _,(fun g h=>by cases h),znv _ _⟩⟩
theorem ydA
  {Z:Nat->Prop}(rb b mb:Nat)(v:MV)(p:Img)(r:RP)(W:World)(R:RPX TR Z W rb b mb v p r)
  (h0:r.err=0)(hc:r.closed=false)(hz:∀c∈r.m.made,szV c.v<=1073741824)(hl:r.m.made.length<=4000000)(hnx:r.next<=r.m.made.length):
  Calls Tryz.prog 12 #[.pointer (some ⟨rb,0,none⟩)] W (yiI W ((ybM r).map yaE)):=by
 obtain⟨c0,c1,c2,c3,c4,c5,cl,cf⟩:=R.q;rw[h0]at c5;rw[hc]at c4;have HP:=zhd (yjc h0 hc);have MA:=zhd (yfC b v p r.m W.drew (R.ext (znv _ _).drew).mx hz (by omega));have HX:=zhd R;have HN:=zh2 hnx hl;clear R h0 hc hz hl hnx;go_in;go_upto_region 4 with(fail);go_region_law ((go_simp;go_at_call 49;refine MA.o.mono ?_;rintro e z ⟨q,rfl,H1⟩;have R1:=HX.o.ext ((znv W.heap.size W).drew.trans H1.o.2.2);obtain⟨d0,d1,d2,d3,d4,d5,dl,df⟩:=R1.q;obtain⟨ra,rc,An⟩:=H1.o.1.slice;subst An;obtain⟨ks,hR,hP⟩:=H1.o.1.cells;obtain⟨ad,E,F,O⟩:=yez ymp hR (k:=r.next) (by rw[hP.1,zmd];exact HN.o.1);have C:=(fun g A=>H1.o.2.1 g (O g A));simp only[zmd]at E F C;have HM:=zh5 R1 F C hP ((znv W.heap.size W).drew.trans H1.o.2.2);clear R1 hR hP F O C))
 all_goals
  have hp:=HM.o.2.2.2.1.drop r.next;have X1:XRow (fun g=>W<=g) z 52 _ ((r.m.made.map yaE).drop r.next):=XRow.of HM.o.2.1 hp;have E1:=X1.rd (G:=fun g=>W<=g/\g<z) (fun g h hl=>⟨h,hl⟩) (fun g A=>⟨HM.o.2.2.1 g A,X1.lt A⟩);obtain⟨L,hL⟩:∃L,L=(r.m.made.map yaE).drop r.next:=⟨_,rfl⟩;rw[<-hL]at E1;obtain⟨n,hn⟩:∃n,r.m.made.length - r.next=n:=⟨_,rfl⟩;have Ag:L.length=n:=by rw[hL,List.length_drop,zmd];exact hn
  rw[hn]at E1 E;have HE:=zh4 E1 Ag hL (show n<=4000000 by have:=HN.o.2;omega);have HW:=zh2 HM.o.2.2.2.2.size dl;have Ar:=zhd hn;clear hp X1 E1 hL Ag hn c0 c1 c2 c3 c4 c5 cl cf d0 d1 d2 d3 d4 d5 dl df MA;go_wp2_with fail;clear E
  try simp only[Act.put,List.setIfInBounds_toArray,List.set_cons_succ,List.set_cons_zero,List.getElem_toArray,List.getElem_cons_succ,List.getElem_cons_zero]
  rw[Ar.o];go_loopg [28,3] n (fun gk v28 v3 wr=>ypM W.heap.size z n r.fired L gk v28 v3 wr)
  case atStart=>exact⟨0,rfl,znq _,rfl,XRow.nil _ _ _,(fun g h=>by cases h),znv _ _⟩
  case round=>
   obtain⟨i,rfl,hi,Ae,hX,hO,y⟩:=hrel;by_cases hin:i<n
   .obtain⟨c,hc⟩:=yac (l:=L) (k:=i) (by rw[HE.o.2.1];exact hin)
    obtain⟨g,At,U,T,Q,Y,V,X,rfl,Aq,A,dv,y0,y1,y2,y3,y4,y5,y6,y7,y8⟩:=yla HE.o.1 hc;rw[<-y.cell (p:=⟨g,_,none⟩) A]at y0 y1 y2 y3 y4 y5 y6 y7 y8;have Ap:g<wr:=znj A y.size;have As:(i:Int)<(n:Int):=by omega
    have Aa:wrap64 ((i:Int)+1)=(i:Int)+1:=by have:=HE.o.2.2.2;unfold wrap64;omega
    have Ab:L.take (i+1)=L.take i++[c]:=by rw[List.take_add_one,hc];rfl
    have Ai:=zhd (show n - (i+1)<gk by omega);have RW:=HM.o.1.ext y;have B:=zh6 hX hO y dv Ab RW;clear hX hO y dv Ab RW hc Aq Ae hi;obtain⟨K,I,N,M,J,cv⟩:=c;dsimp only at y0 y1 y2 y3 y4;go_upto_region 7 with(fail);refine yaa ?_;intro w2 a;have B2:=zba a;have u:=zha a;clear y0 y1 y2 y3 y4 y5 y6 y7 y8 Ap A a;obtain⟨x0,x1,x2,x3,x4,x5,x6,x7,x8,xl,_⟩:=ygD u;obtain⟨lt,s⟩:∃lt,yaU r.fired ⟨K,I,N,M,J,cv⟩=lt:=⟨_,rfl⟩;have LT:=zhd (yir rb b mb v p r w2 (B.o.2.2.2.2.2.ext B2) K I N M J U T Q Y V X cv lt s);have H2:=zh2 B2 u;have Aj:=zhd s;clear B2 u s;go_wp2_with fail;refine LT.o.mono ?_;rintro e w3 ⟨rfl,H⟩;have t:=(H.block wr xl).trans H2.o.2;have D:Below wr wr w3:=H2.o.1.trans (H.mono H2.o.1.size);clear x0 x1 x2 x3 x4 x5 x6 x7 x8 xl LT;cases lt with
    |true=>
     have P:=zhd D;clear t D H;go_wp2_with fail;go_roundg (n - (i+1))
     case measure=>exact Ai.o
     case rel=>exact⟨i+1,by simp[Aa],hin,rfl,by rw[B.o.2.2.2.2.1,yeN,Aj.o];exact B.o.1.below P.o,B.o.2.1,B.o.2.2.1.trans (P.o.mono B.o.2.2.1.size)⟩
    |false=>
     obtain⟨x0,x1,x2,x3,x4,x5,x6,x7,x8,xl,_⟩:=ygD t;obtain⟨va,vl,vc,Am⟩:=yaI B.o.1;subst Am;obtain⟨ks,Ah,x⟩:=(B.o.1.below D).cells;have Ao:ks.length<=i:=by
      rw[x.1];exact znf (List.length_filter_le _ _) (by rw[List.length_take];exact Nat.min_le_left _ _)
     have RA:=zhd (Ah.below ((znv w3.heap.size w3).alloc (znc _) (.cells #[K,I,N,M,J,U,T,Q,.slice Y V X] 52)));have Ak:=zhd (show(ks.length+1)*104<=140737488355328/\ks.length+1<=maxLen from by have:=HE.o.2.2.2;unfold maxLen;omega);have P:=zh3 x D (show CF (fun g=>W<=g/\g<z) w3 ⟨U,T,Q,Y,V,X⟩ cv from B.o.2.2.2.1.keep (S:=fun _=>False) (zkb (B.o.2.2.1.trans (D.mono B.o.2.2.1.size))) (fun _ _ f=>f));clear t D H Ah x Ao;go_wp2_with (at_builtin;refine yca (α:=CC) ymp rfl (.tmp 36) (.tmp 38) rfl RA.o (⟨K,I,N,M,J,⟨U,T,Q,Y,V,X⟩⟩:CC) rfl rfl (znb _ _) Ak.o.1 Ak.o.2 ?_;intro a1 c1 w4 Ac Ad Af;have HF:=zh3 Ac Ad Af;clear Ac Ad Af);go_roundg (n - (i+1))
     case measure=>exact Ai.o
     case rel=>
      have A4:Below w3 w3 (w3.alloc (.cells (enc (⟨K,I,N,M,J,⟨U,T,Q,Y,V,X⟩⟩:CC)).toArray 52)):=zal;have Al:z<=w3.heap.size:=znf B.o.2.2.1.size P.o.2.1.size;have Au:wr<=w3.heap.size:=P.o.2.1.size;have d:∀g,(Value.slice va vl vc).ownBlock=some g->z.heap.size<=g/\g<wr.heap.size:=fun g A=>⟨B.o.2.1 g A,B.o.1.lt A⟩;refine⟨i+1,by simp[Aa],hin,rfl,?_,?_,?_⟩
      .rw[B.o.2.2.2.2.1,yeN,Aj.o]
       have hx:CmF (fun g=>W<=g/\¬(Value.slice va vl vc).ownBlock=some g) w3 (⟨K,I,N,M,J,⟨U,T,Q,Y,V,X⟩⟩:CC) (⟨K,I,N,M,J,cv⟩:Cm):=⟨rfl,rfl,rfl,rfl,rfl,P.o.2.2.mono (fun g A _=>⟨A.1,fun e=>by have:=(d g e).1;omega⟩)⟩;have P1:=P.o.1.app (Ptw.one hx);have P2:Ptw (fun g=>(W<=g/\¬(Value.slice va vl vc).ownBlock=some g)/\g<w3) w3 (ks++[(⟨K,I,N,M,J,⟨U,T,Q,Y,V,X⟩⟩:CC)]) (NL r.fired (L.take i)++[(⟨K,I,N,M,J,cv⟩:Cm)]):=P1.mono (fun g A hl=>⟨A,hl⟩);have P3:=(P2.keep (S:=fun _=>False) (zkb A4) (fun _ _ f=>f)).keep HF.o.2.1 (fun g A e=>A.1.2 e);refine XRow.of HF.o.1 (Ptw.mono P3 ?_);intro g A _;refine⟨A.1.1,fun e=> ?_⟩;rcases HF.o.2.2 g e with h|h
       .exact A.1.2 h
       .have h:w3.heap.size+1<=g:=by simpa using h
        have:=A.2;omega
      .intro g A
       rcases HF.o.2.2 g A with h|h
       .exact(d g h).1
       .have h:w3.heap.size+1<=g:=by simpa using h
        omega
      .have K34:=((zkb (S:=fun _=>False) A4).mono (fun _ _ f=>f.elim)).trans HF.o.2.1 (fun _ _ e=>e)
       exact(B.o.2.2.1.trans (P.o.2.1.mono B.o.2.2.1.size)).trans (K34.below Al (fun j hj e=>by have:=d j e;omega))
   .obtain rfl:i=n:=by omega
    have Av:¬(i:Int)<i:=by omega
    have hT:L.take i=L:=zmj (by rw[HE.o.2.1];exact znc _);rw[hT]at hX;have B:=zh3 (hX.mono (G:=fun g=>W<=g) (fun g h _=>h.1)) hO y;clear hX hO y Ae hT hi;go_wp2;go_ret;exact⟨_,rfl,zhd ⟨by rw[HP.o,<-HE.o.2.2.1];exact B.o.1,fun g A=>znf HW.o.1 (B.o.2.1 g A),HM.o.2.2.2.2.trans (B.o.2.2.mono HW.o.1)⟩⟩
end Go.Proofs.YtpagmlndgblhhaaGreatDoor
namespace Go.Va
open Go.Own Go.RowKit
def ybf (e:Ev):Ev:={e with v:=yab e.v}
end Go.Va
namespace Go.Proofs.YtpagmlndgblhhaaGreatDoor
open Go.RowKit Go.Own Go.Own.MapTy Go.Va Go.Sort
open Go.Own.Cells (sz enc)
set_option linter.unusedVariables false
def ymT (W:World)(l:List Ev)(e:Ending)(w':World):Prop:=∃r:Value,e= .returned r/\Hid (XRow (fun g=>W<=g/\¬r.ownBlock=some g) w' 40 r l/\(∀g,r.ownBlock=some g->W.heap.size<=g)/\Below W W w')
def EsRel (W:World)(n:Nat)(L:Nat->List Ev)(gk:Nat)(v8 v3:Value)(wr:World):Prop:=
 ∃i:Nat,v8= .int .i64 i/\i<=n/\gk=n - i/\XRow (fun g=>W<=g/\¬v3.ownBlock=some g) wr 40 v3 (L i)/\(∀g,v3.ownBlock=some g->W.heap.size<=g)/\Below W W wr
theorem EsRel.app {W wr w3 w4:World}{va:Option Addr}{vl vc:Nat}{v1:Value}{A:List Ev}{ks:List EC}{c:EC}{x:Ev}(hX:XRow (fun g=>W<=g/\¬(Value.slice va vl vc).ownBlock=some g) wr 40 (.slice va vl vc) A)(hO:∀g,(Value.slice va vl vc).ownBlock=some g->W.heap.size<=g)(hB:Below W W wr)(B3:Below wr wr w3)
  (hP:Ptw (fun g=>W.heap.size<=g/\¬(Value.slice va vl vc).ownBlock=some g) w3 ks A)(hx:EvF (fun g=>W<=g/\¬(Value.slice va vl vc).ownBlock=some g) w3 c x)
  (hr:RowAt w4 40 v1 (ks++[c]))(hk:Keeps (fun j=>(Value.slice va vl vc).ownBlock=some j) (w3.alloc (.cells (enc c).toArray 40)) w4)(hf:∀g,v1.ownBlock=some g->(Value.slice va vl vc).ownBlock=some g\/(w3.alloc (.cells (enc c).toArray 40)).heap.size<=g):
  XRow (fun g=>W.heap.size<=g/\¬v1.ownBlock=some g) w4 40 v1 (A++[x])/\(∀g,v1.ownBlock=some g->W.heap.size<=g)/\Below W W w4:=by
 have E:Below w3 w3 (w3.alloc (.cells (enc c).toArray 40)):=zal;have D:W<=w3.heap.size:=znf hB.size B3.size;have C:∀g,(Value.slice va vl vc).ownBlock=some g->W.heap.size<=g/\g<wr.heap.size:=fun g B=>⟨hO g B,hX.lt B⟩;refine⟨?_,?_,?_⟩
 .have H:Ptw (fun g=>W.heap.size<=g/\¬(Value.slice va vl vc).ownBlock=some g) w3 (ks++[c]) (A++[x]):=hP.app (Ptw.one (x:=x) hx)
  have G:Ptw (fun g=>(W<=g/\¬(Value.slice va vl vc).ownBlock=some g)/\g<w3) w3 (ks++[c]) (A++[x]):=H.mono (fun g B hl=>⟨B,hl⟩);have F:=(G.keep (S:=fun _=>False) (zkb E) (fun _ _ f=>f)).keep hk (fun g B e=>B.1.2 e);refine XRow.of hr (Ptw.mono F ?_);intro g B _;refine⟨B.1.1,fun e=> ?_⟩;rcases hf g e with h|h
  .exact B.1.2 h
  .have h:w3.heap.size+1<=g:=by simpa using h
   have:=B.2;omega
 .intro g B
  rcases hf g B with h|h
  .exact(C g h).1
  .have h:w3.heap.size+1<=g:=by simpa using h
   omega
 .have K34:=((zkb (S:=fun _=>False) E).mono (fun _ _ f=>f.elim)).trans hk (fun _ _ e=>e)
  exact(hB.trans (B3.mono hB.size)).trans (K34.below D (fun j hj e=>by have:=C j e;omega))
theorem yfx {F:Nat->Prop}(W:World)(ea:Option Addr)(en ec:Nat)(l:List Ev)(E:XRd F W (.slice ea en ec) l)(hz:∀e∈l,szV e.v<=1073741824)(hl:l.length<=4000000):
  Calls Tryz.prog 27 #[.slice ea en ec] W (ymT W ((ya1 l).map ybf)):=by
 have Ai:l.length=en:=by obtain⟨a,c,h⟩:=E.slice;cases h;rfl
 have U:=zh4 E hz hl Ai;clear E hz hl Ai;go_in;go_wp2_with fail;go_loopg [8,3] en (fun gk v8 v3 wr=>EsRel W en (fun i=>(ya1 (l.take i)).map ybf) gk v8 v3 wr)
 case atStart=>exact⟨0,rfl,znq _,rfl,XRow.nil _ _ _,(fun g h=>by cases h),znv _ _⟩
 case round=>
  obtain⟨i,rfl,hi,Ag,hX,hO,hB⟩:=hrel;by_cases hin:i<en
  .obtain⟨e,he⟩:=yac (l:=l) (k:=i) (by rw[U.o.2.2.2];exact hin)
   obtain⟨g,At,vk,vn,vs,la,ln,lc,rfl,Aq,B,dv,y0,y1,y2,y3,y4,y5,y6,y7,y8,y9,y10⟩:=ycU U.o.1 he;rw[<-hB.cell (p:=⟨g,_,none⟩) B]at y0 y1 y2 y3 y4 y5 y6 y7 y8 y9 y10;have Ap:g<wr:=znj B hB.size;have As:(i:Int)<(en:Int):=by omega
   have Ac:wrap64 ((i:Int)+1)=(i:Int)+1:=by have:=U.o.2.2.1;have:=U.o.2.2.2;unfold wrap64;omega
   have Ad:l.take (i+1)=l.take i++[e]:=by rw[List.take_add_one,he];rfl
   have Aa:=U.o.2.1 e (zmg he);have HM:=zhd (show en - (i+1)<gk by omega);have A:=zh6 hX hO hB dv Ad Aa;clear hX hO hB dv Ad Aa he Aq Ag hi;obtain⟨T,R,C,Q,P,O,N,ex⟩:=e;dsimp only at y0 y1 y2 y3 y4 y5 y6;go_upto_region 5 with(fail);refine yaa ?_;intro w2 Y;have B2:=zba Y;have b:=zha Y;clear y0 y1 y2 y3 y4 y5 y6 y7 y8 y9 y10 Ap B Y;obtain⟨x0,x1,x2,x3,z,y,u,t,s,r,x10,M,_⟩:=yay b;obtain⟨q,hq⟩:∃q,yaH C=q:=⟨_,rfl⟩;have OU:=zhd (yam T R C Q P O N vk vn vs la ln lc w2 q hq);have H2:=zh2 B2 b;have HQ:=zhd hq;clear B2 b hq;go_wp2_with fail;refine OU.o.mono ?_;rintro e w3 ⟨rfl,L⟩;have K:=(L.block wr M).trans H2.o.2;have D:Below wr wr w3:=H2.o.1.trans (L.mono H2.o.1.size);clear x0 x1 x2 x3 z y u t s r x10 M OU;cases q with
   |false=>
    have V:=zhd D;clear K D L;go_wp2_with fail;go_roundg (en - (i+1))
    case measure=>exact HM.o
    case rel=>exact⟨i+1,by simp[Ac],hin,rfl,by dsimp only;rw[A.o.2.2.2.2.1,yaZ,show ya1 [(⟨T,R,C,Q,P,O,N,ex⟩:Ev)]=[] by unfold ya1;rw[List.filter_cons,if_neg (by show¬yaH C=true;rw[HQ.o];decide)];rfl,List.append_nil];exact A.o.1.below V.o,A.o.2.1,A.o.2.2.1.trans (V.o.mono A.o.2.2.1.size)⟩
   |true=>
    obtain⟨x0,x1,x2,x3,z,y,u,t,s,r,x10,M,xf⟩:=yay K;have CL:=zhd (yax ex vk vn vs la ln lc _ w3 (A.o.2.2.2.1.keep (S:=fun _=>False) (zkb (A.o.2.2.1.trans (D.mono A.o.2.2.1.size)|>.mono (znc _))) (fun _ _ f=>f)) A.o.2.2.2.2.2);have V:=zh2 D K;clear K D L;go_wp2_with fail;refine CL.o.mono ?_;rintro e w4 ⟨⟨k8,n8,s8,J,H,I⟩,rfl,H4⟩;have Z:=(H4.o.2.block wr M).trans V.o.2;clear x0 x1 x2 x3 z y u t s r x10 M xf CL;obtain⟨x0,x1,x2,x3,z,y,u,t,s,r,x10,M,xf⟩:=yay Z;have Ar:=zhd Z;clear Z;go_upto_region 7 with(fail);refine yaa ?_;intro w5 X;have Aj:w5.heap[wr.heap.size]? =some (.cells #[T,R,C,Q,P,O,N,k8,n8,s8,.slice J H I] 40 (0,0)):=by
     rw[X];have:=Ar.o;simp[World.setCell,zni,this]
    have K5:Keeps (fun j=>j=wr) w4 w5:=by rw[X];exact ycu w4 wr.heap.size 7 8 9 10 _ _ _ _
    clear x0 x1 x2 x3 z y u t s r x10 M xf X;obtain⟨x0,x1,x2,x3,z,y,u,t,s,r,x10,M,_⟩:=yay Aj;have n:Below wr wr w4:=V.o.1.trans (H4.o.2.mono V.o.1.size);have m:Below wr wr w5:=n.trans (K5.below n.size (fun jz hj e=>Nat.ne_of_lt hj e));have Ab:=A.o.2.2.1.size;have An:=V.o.1.size;have C5:CF (fun g=>wr<=g) w5 ⟨k8,n8,s8,J,H,I⟩ (yab ex):=((H4.o.1.mono (G:=fun g=>wr<=g/\g≠wr) (fun g B _=>by have B:w3<=g:=B;have:=zlt V.o.2;omega)).keep K5 (fun g B e=>B.2 e)).mono (fun g B _=>B.1);obtain⟨va,vl,vc,Am⟩:=yaI A.o.1;subst Am;obtain⟨ks,Ak,d⟩:=(A.o.1.below m).cells;have Ao:ks.length<=i:=by
     rw[d.1,zmd];exact znf (List.length_filter_le _ _) (by rw[List.length_take];exact Nat.min_le_left _ _)
    have RA:=zhd (Ak.below ((znv w5.heap.size w5).alloc (znc _) (.cells #[T,R,C,Q,P,O,N,k8,n8,s8,.slice J H I] 40)));have Al:=zhd (show(ks.length+1)*128<=140737488355328/\ks.length+1<=maxLen from by have:=U.o.2.2.1;have:=U.o.2.2.2;unfold maxLen;omega);have H5:=zh3 d m C5;clear Aj K5 n m Ab An C5 Ak d Ao;go_wp2_with (at_builtin;refine yca (α:=EC) yjx rfl (.tmp 18) (.tmp 20) rfl RA.o (⟨T,R,C,Q,P,O,N,⟨k8,n8,s8,J,H,I⟩⟩:EC) rfl rfl (znb _ _) Al.o.1 Al.o.2 ?_;intro a1 c1 w6 Ae Af Ah;have HF:=zh3 Ae Af Ah;clear Ae Af Ah);go_roundg (en - (i+1))
    case measure=>exact HM.o
    case rel=>
     have Ab:=A.o.2.2.1.size;have AP:=EsRel.app (x:=⟨T,R,C,Q,P,O,N,yab ex⟩) A.o.1 A.o.2.1 A.o.2.2.1 H5.o.2.1 H5.o.1 ⟨rfl,rfl,rfl,rfl,rfl,rfl,rfl,H5.o.2.2.mono (fun g B _=>⟨(by have B:wr<=g:=B;show W<=g;omega),fun e=>by have:=A.o.1.lt e;have B:wr<=g:=B;omega⟩)⟩ HF.o.1 HF.o.2.1 HF.o.2.2;exact⟨i+1,by simp[Ac],hin,rfl,by dsimp only;rw[A.o.2.2.2.2.1,yaZ,show ya1 [(⟨T,R,C,Q,P,O,N,ex⟩:Ev)]=[⟨T,R,C,Q,P,O,N,ex⟩] by unfold ya1;rw[List.filter_cons,if_pos (by show yaH C=true;exact HQ.o)];rfl,List.map_append];exact AP.1,AP.2.1,AP.2.2⟩
  .obtain rfl:i=en:=by omega
   have Au:¬(i:Int)<i:=by omega
   have hT:l.take i=l:=zmj (by rw[U.o.2.2.2];exact znc _);dsimp only at hX;rw[hT]at hX;have A:=zh3 hX hO hB;clear hX hO hB Ag hT hi;go_wp2;go_ret;exact⟨_,rfl,zhd A.o⟩
theorem yfB {F:Nat->Prop}(W:World)(ea:Option Addr)(en ec:Nat)(l:List Ev)(E:XRd F W (.slice ea en ec) l)(hz:∀e∈l,szV e.v<=1073741824)(hl:l.length<=4000000):
  Calls Tryz.prog 30 #[.slice ea en ec] W (ymT W ((ycF l).map ybf)):=by
 have Ai:l.length=en:=by obtain⟨a,c,h⟩:=E.slice;cases h;rfl
 have U:=zh4 E hz hl Ai;clear E hz hl Ai;go_in;go_wp2_with fail;go_loopg [8,3] en (fun gk v8 v3 wr=>EsRel W en (fun i=>(ycF (l.take i)).map ybf) gk v8 v3 wr)
 case atStart=>exact⟨0,rfl,znq _,rfl,XRow.nil _ _ _,(fun g h=>by cases h),znv _ _⟩
 case round=>
  obtain⟨i,rfl,hi,Ag,hX,hO,hB⟩:=hrel;by_cases hin:i<en
  .obtain⟨e,he⟩:=yac (l:=l) (k:=i) (by rw[U.o.2.2.2];exact hin)
   obtain⟨g,At,vk,vn,vs,la,ln,lc,rfl,Aq,B,dv,y0,y1,y2,y3,y4,y5,y6,y7,y8,y9,y10⟩:=ycU U.o.1 he;rw[<-hB.cell (p:=⟨g,_,none⟩) B]at y0 y1 y2 y3 y4 y5 y6 y7 y8 y9 y10;have Ap:g<wr:=znj B hB.size;have As:(i:Int)<(en:Int):=by omega
   have Ac:wrap64 ((i:Int)+1)=(i:Int)+1:=by have:=U.o.2.2.1;have:=U.o.2.2.2;unfold wrap64;omega
   have Ad:l.take (i+1)=l.take i++[e]:=by rw[List.take_add_one,he];rfl
   have Aa:=U.o.2.1 e (zmg he);have HM:=zhd (show en - (i+1)<gk by omega);have A:=zh6 hX hO hB dv Ad Aa;clear hX hO hB dv Ad Aa he Aq Ag hi;obtain⟨T,R,C,Q,P,O,N,ex⟩:=e;dsimp only at y0 y1 y2 y3 y4 y5 y6;go_upto_region 5 with(fail);refine yaa ?_;intro w2 Y;have B2:=zba Y;have b:=zha Y;clear y0 y1 y2 y3 y4 y5 y6 y7 y8 y9 y10 Ap B Y;obtain⟨x0,x1,x2,x3,z,y,u,t,s,r,x10,M,_⟩:=yay b;obtain⟨q,hq⟩:∃q,ybR C=q:=⟨_,rfl⟩;have OU:=zhd (yeE T R C Q P O N vk vn vs la ln lc w2 q hq);have H2:=zh2 B2 b;have HQ:=zhd hq;clear B2 b hq;go_wp2_with fail;refine OU.o.mono ?_;rintro e w3 ⟨rfl,L⟩;have K:=(L.block wr M).trans H2.o.2;have D:Below wr wr w3:=H2.o.1.trans (L.mono H2.o.1.size);clear x0 x1 x2 x3 z y u t s r x10 M OU;cases q with
   |false=>
    have V:=zhd D;clear K D L;go_wp2_with fail;go_roundg (en - (i+1))
    case measure=>exact HM.o
    case rel=>exact⟨i+1,by simp[Ac],hin,rfl,by dsimp only;rw[A.o.2.2.2.2.1,ybS,show ycF [(⟨T,R,C,Q,P,O,N,ex⟩:Ev)]=[] by unfold ycF;rw[List.filter_cons,if_neg (by show¬ybR C=true;rw[HQ.o];decide)];rfl,List.append_nil];exact A.o.1.below V.o,A.o.2.1,A.o.2.2.1.trans (V.o.mono A.o.2.2.1.size)⟩
   |true=>
    obtain⟨x0,x1,x2,x3,z,y,u,t,s,r,x10,M,xf⟩:=yay K;have CL:=zhd (yax ex vk vn vs la ln lc _ w3 (A.o.2.2.2.1.keep (S:=fun _=>False) (zkb (A.o.2.2.1.trans (D.mono A.o.2.2.1.size)|>.mono (znc _))) (fun _ _ f=>f)) A.o.2.2.2.2.2);have V:=zh2 D K;clear K D L;go_wp2_with fail;refine CL.o.mono ?_;rintro e w4 ⟨⟨k8,n8,s8,J,H,I⟩,rfl,H4⟩;have Z:=(H4.o.2.block wr M).trans V.o.2;clear x0 x1 x2 x3 z y u t s r x10 M xf CL;obtain⟨x0,x1,x2,x3,z,y,u,t,s,r,x10,M,xf⟩:=yay Z;have Ar:=zhd Z;clear Z;go_upto_region 7 with(fail);refine yaa ?_;intro w5 X;have Aj:w5.heap[wr.heap.size]? =some (.cells #[T,R,C,Q,P,O,N,k8,n8,s8,.slice J H I] 40 (0,0)):=by
     rw[X];have:=Ar.o;simp[World.setCell,zni,this]
    have K5:Keeps (fun j=>j=wr) w4 w5:=by rw[X];exact ycu w4 wr.heap.size 7 8 9 10 _ _ _ _
    clear x0 x1 x2 x3 z y u t s r x10 M xf X;obtain⟨x0,x1,x2,x3,z,y,u,t,s,r,x10,M,_⟩:=yay Aj;have n:Below wr wr w4:=V.o.1.trans (H4.o.2.mono V.o.1.size);have m:Below wr wr w5:=n.trans (K5.below n.size (fun jz hj e=>Nat.ne_of_lt hj e));have Ab:=A.o.2.2.1.size;have An:=V.o.1.size;have C5:CF (fun g=>wr<=g) w5 ⟨k8,n8,s8,J,H,I⟩ (yab ex):=((H4.o.1.mono (G:=fun g=>wr<=g/\g≠wr) (fun g B _=>by have B:w3<=g:=B;have:=zlt V.o.2;omega)).keep K5 (fun g B e=>B.2 e)).mono (fun g B _=>B.1);obtain⟨va,vl,vc,Am⟩:=yaI A.o.1;subst Am;obtain⟨ks,Ak,d⟩:=(A.o.1.below m).cells;have Ao:ks.length<=i:=by
     rw[d.1,zmd];exact znf (List.length_filter_le _ _) (by rw[List.length_take];exact Nat.min_le_left _ _)
    have RA:=zhd (Ak.below ((znv w5.heap.size w5).alloc (znc _) (.cells #[T,R,C,Q,P,O,N,k8,n8,s8,.slice J H I] 40)));have Al:=zhd (show(ks.length+1)*128<=140737488355328/\ks.length+1<=maxLen from by have:=U.o.2.2.1;have:=U.o.2.2.2;unfold maxLen;omega);have H5:=zh3 d m C5;clear Aj K5 n m Ab An C5 Ak d Ao;go_wp2_with (at_builtin;refine yca (α:=EC) yjx rfl (.tmp 18) (.tmp 20) rfl RA.o (⟨T,R,C,Q,P,O,N,⟨k8,n8,s8,J,H,I⟩⟩:EC) rfl rfl (znb _ _) Al.o.1 Al.o.2 ?_;intro a1 c1 w6 Ae Af Ah;have HF:=zh3 Ae Af Ah;clear Ae Af Ah);go_roundg (en - (i+1))
    case measure=>exact HM.o
    case rel=>
     have Ab:=A.o.2.2.1.size;have AP:=EsRel.app (x:=⟨T,R,C,Q,P,O,N,yab ex⟩) A.o.1 A.o.2.1 A.o.2.2.1 H5.o.2.1 H5.o.1 ⟨rfl,rfl,rfl,rfl,rfl,rfl,rfl,H5.o.2.2.mono (fun g B _=>⟨(by have B:wr<=g:=B;show W<=g;omega),fun e=>by have:=A.o.1.lt e;have B:wr<=g:=B;omega⟩)⟩ HF.o.1 HF.o.2.1 HF.o.2.2;exact⟨i+1,by simp[Ac],hin,rfl,by dsimp only;rw[A.o.2.2.2.2.1,ybS,show ycF [(⟨T,R,C,Q,P,O,N,ex⟩:Ev)]=[⟨T,R,C,Q,P,O,N,ex⟩] by unfold ycF;rw[List.filter_cons,if_pos (by show ybR C=true;exact HQ.o)];rfl,List.map_append];exact AP.1,AP.2.1,AP.2.2⟩
  .obtain rfl:i=en:=by omega
   have Au:¬(i:Int)<i:=by omega
   have hT:l.take i=l:=zmj (by rw[U.o.2.2.2];exact znc _);dsimp only at hX;rw[hT]at hX;have A:=zh3 hX hO hB;clear hX hO hB Ag hT hi;go_wp2;go_ret;exact⟨_,rfl,zhd A.o⟩
end Go.Proofs.YtpagmlndgblhhaaGreatDoor
namespace Go.Va
open Go.Own Go.RowKit
open Go.Proofs.YtpagmlndgblhhaaGreatDoor
set_option linter.unusedVariables false
structure Wr (p:Img)(fa:Fa)(b:BK)(n t last:Nat):Prop where
 bk:Bk p fa b n t
 lst:last<=b.list.length
 tail:∀e∈b.list.drop last,yaH e.kind=true
 nil:b.list=[]↔n=0
section
variable{p:Img} {fa:Fa} {b:BK} {n t last:Nat}
theorem ynZ (S:St p fa (ms0 p)):Wr p fa ⟨[],false⟩ 0 0 0:=⟨yoF S,znc _,fun e h=>(by cases h),⟨fun _=>rfl,fun _=>rfl⟩⟩
theorem Wr.out_ (W:Wr p fa b n t last)(K:Known p fa)(P:Pk p)(hsp:fa.span<=p.code.length+1)(ho:b.over=false){e:Ev}(h0:yad e=0)(hw:e.v.wf)(hk:yaH e.kind=true)(hf:e.kind=1↔n=0)(hg:e.kind=12->yfD b.list e.a=false)(hn:n+1<=30)(ht:t<=400000):Wr p fa (ycx b e) (n+1) t last:=by
 refine⟨W.bk.out_ K P hsp ho h0 hw hk (W.nil.trans hf.symm) hg hn ht,?_,?_,?_⟩
 .show last<=(b.list++[_]).length
  rw[znk];have:=W.lst;omega
 .intro x A
  have A:x∈(b.list++[({e with id:=(b.list.length:Int)+1}:Ev)]).drop last:=A;rw[List.drop_append_of_le_length W.lst]at A;rcases List.mem_append.1 A with A|A
  .exact W.tail x A
  .rw[List.mem_singleton.1 A];exact hk
 .show b.list++[_]=[]↔_
  constructor
  .intro h;simp at h
  .intro h;omega
theorem Wr.commit (W:Wr p fa b n t last)(ho:b.over=false)(h1:1<=n)(hn:n<=30)(ht:t+1<=400000){seen:Nat}(hs:last<=seen)(most:Int):
  (yar p (rp0 p) (b.list.take seen)).err=0/\(ya8 p b seen most).1=true/\Wr p fa (ya8 p b seen most).2 n (t+1) (ya8 p b seen most).2.list.length:=by
 have A:b.list≠[]:=fun h=>by have:=W.nil.1 h;omega
 obtain⟨c1,c2,c3,B⟩:=W.bk.commit ho A hn ht (seen:=seen) (fun e he=>W.tail e (by
  rw[show seen=last+(seen - last) by omega,<-List.drop_drop]at he;exact List.mem_of_mem_drop he)) most
 refine⟨c1,c2,c3,znc _,fun e he=>(by rw[List.drop_length]at he;cases he),⟨fun h=>absurd h B,fun h=>by omega⟩⟩
end
def ybU (l:List Ev):List Int:=(l.filter (fun e=>e.kind==12)).map (·.a)
def ybk (p:Img)(l:List Ev):List Ev:=(NL (ybU l) (ycv p (ms0 p) l).made).map evOfC
theorem yfd {l:List Ev}{a:Int}:a∈ybU l↔∃e∈l,e.kind=12/\e.a=a:=by
 unfold ybU;rw[List.mem_map];constructor
 .rintro⟨x,A,h⟩
  obtain⟨C,B⟩:=List.mem_filter.1 A;exact⟨x,C,by simpa using B,h⟩
 .rintro⟨x,A,C,B⟩
  exact⟨x,List.mem_filter.2 ⟨A,by simpa using C⟩,B⟩
theorem HI.agree {p:Img}{l:List Ev}{r:RP}(H:HI p l r):∃k,ybk p (ya1 l)=(ycF l).map yaX++k:=by
 have C:∀a,a∈ybU (ya1 l)↔a∈r.fired:=fun a=>by
  rw[yfd,H.fired];constructor
  .rintro⟨x,A,h⟩;exact⟨x,(List.mem_filter.1 A).1,h⟩
  .rintro⟨x,A,B,D⟩;exact⟨x,List.mem_filter.2 ⟨A,by show yaH x.kind=true;rw[B];decide⟩,B,D⟩
 refine⟨(NL r.fired (r.m.made.drop r.next)).map evOfC,?_⟩;unfold ybk;rw[ylr C,<-H.mach,H.found,<-List.map_append,<-yfm,List.take_append_drop]
theorem yjH {p:Img}{s:MS}{e f:Ev}(he:yad e=0)(hf:yad f=0)(h:yaX e=yaX f):yas p s e=yas p s f:=by
 have hk:e.kind=f.kind:=(congrArg Ev.kind h:(yaX e).kind=(yaX f).kind);have A:e.time=f.time:=(congrArg Ev.time h:(yaX e).time=(yaX f).time);have D:e.a=f.a:=(congrArg Ev.a h:(yaX e).a=(yaX f).a);have B:e.name=f.name:=(congrArg Ev.name h:(yaX e).name=(yaX f).name);have hv:yab e.v=yab f.v:=(congrArg Ev.v h:(yaX e).v=(yaX f).v);have hend:∀(id how:Int) (l:List Th),ycw id how e.v l=ycw id how f.v l:=fun id how l=>by
  induction l with
  |nil=>rfl
  |cons x r ih=>rw[ycw,ycw,ih,hv]
 have C:∀s,hear s e=hear s f:=fun s=>by
  unfold hear;rw[hk,D,B,hv,hend]
 unfold yas;rw[he,hf,hk,A,C]
theorem ygl {p:Img}:∀(l m:List Ev) (s:MS),(∀e∈l,yad e=0)->(∀e∈m,yad e=0)->l.map yaX=m.map yaX->ycv p s l=ycv p s m
 |[],[],_,_,_,_=>rfl
 |[],_::_,_,_,_,h=>by cases h
 |_::_,[],_,_,_,h=>by cases h
 |e::l,f::m,s,h1,h2,h=>by
  rw[List.map_cons,List.map_cons]at h;obtain⟨h3,h4⟩:=List.cons.inj h;show ycv p (yas p s e).2 l=ycv p (yas p s f).2 m;rw[yjH (h1 e zmf) (h2 f zmf) h3];exact ygl l m _ (fun x hx=>h1 x (zme _ hx)) (fun x hx=>h2 x (zme _ hx)) h4
theorem yjs {l m:List Ev}(h:l.map yaX=m.map yaX)(a:Int):a∈ybU l↔a∈ybU m:=by
 have one:∀{l m:List Ev},l.map yaX=m.map yaX->a∈ybU l->a∈ybU m:=fun{l m} h hl=>by
  rw[yfd]at hl|-;obtain⟨e,E,G,F⟩:=hl;have:yaX e∈m.map yaX:=by rw[<-h];exact List.mem_map_of_mem E
  obtain⟨f,D,A⟩:=List.mem_map.1 this;have C:f.kind=e.kind:=(congrArg Ev.kind A:(yaX f).kind=(yaX e).kind);have B:f.a=e.a:=(congrArg Ev.a A:(yaX f).a=(yaX e).a);exact⟨f,D,C.trans G,B.trans F⟩
 exact⟨one h,one h.symm⟩
theorem yg1 {p:Img}{l m:List Ev}(h1:∀e∈l,yad e=0)(h2:∀e∈m,yad e=0)(h:l.map yaX=m.map yaX):ybk p l=ybk p m:=by
 unfold ybk;rw[ygl l m _ h1 h2 h,ylr (yjs h)]
theorem yhC (l:List Ev)(e:Ev):ybU (l++[e])=bif e.kind==12 then ybU l++[e.a]else ybU l:=by
 unfold ybU;rw[List.filter_append,List.filter_cons];cases(e.kind==12)<;>simp
theorem yfe (p:Img)(s:MS)(l:List Ev)(e:Ev):ycv p s (l++[e])=(yas p (ycv p s l) e).2:=by rw[ygm];rfl
end Go.Va
namespace Go.Proofs.YtpagmlndgblhhaaGreatDoor
open Go.RowKit Go.Own Go.Own.MapTy Go.Va Go.Sort
open Go.Own.Cells (sz enc)
set_option linter.unusedVariables false
set_option linter.unusedSimpArgs false
def yoJ (W:World)(p:Img)(er:Int)(l:List Ev)(e:Ending)(w':World):Prop:=
 (er≠0/\e= .returned (.tuple #[.slice none 0 0,er])/\Hid (Below W W w'))\/(er=0/\∃r:Value,e= .returned (.tuple #[r,.int .i64 0])/\Hid (XRow (fun g=>W<=g) w' 40 r (ybk (yaf p) l)/\(∀g,r.ownBlock=some g->W.heap.size<=g)/\Below W W w'))
def yqr (w5:World)(mb n:Nat)(l:List Ev)(gk:Nat)(v27:Value)(wr:World):Prop:=
 ∃(i:Nat) (cs:List Int),v27= .int .i64 i/\i<=n/\gk=n - i/\MapAt NM wr mb (mOf cs)/\(∀a,a∈cs↔a∈ybU (l.take i))/\Keeps (fun j=>j=mb) w5 wr
def yqq (w6:World)(Z:Nat->Prop)(p:Img)(fa:Fa)(b:Nat)(v:MV)(n:Nat)(l:List Ev)(gk:Nat)(v40:Value)(wr:World):Prop:=
 ∃(i:Nat) (v':MV),v40= .int .i64 i/\i<=n/\gk=n - i/\MX TT Z wr b v' p (ycv p (ms0 p) (l.take i))/\MK b v w6 v' wr/\St p fa (ycv p (ms0 p) (l.take i))/\(ycv p (ms0 p) (l.take i)).events<=i
def yqp (w1:World)(n:Nat)(F:List Int)(L:List Cm)(gk:Nat)(v51 v13:Value)(wr:World):Prop:=
 ∃i:Nat,v51= .int .i64 i/\i<=n/\gk=n - i/\XRow (fun g=>w1<=g/\¬v13.ownBlock=some g) wr 40 v13 ((NL F (L.take i)).map evOfC)/\(∀g,v13.ownBlock=some g->w1.heap.size<=g)/\Below w1 w1 wr
theorem ye7 {N:Nat}(F:Nat->Prop)(W:World)(G:Gl Tryz.prog N W)(i:IC)(p:Img)(H:IAt F W i p)(hw:∀x∈p.consts,x.wf)(r:Fa×Int×Int)(hr:ya0 p=r)
  (ea:Option Addr)(en ec:Nat)(l:List Ev)(E:XRd (fun j=>j<W) W (.slice ea en ec) l)(hew:∀e∈l,e.v.wf)(hl:l.length<=30):
  Calls Tryz.prog 29 #[.agg #[.slice i.ca i.cn i.cc,.slice i.ka i.kn i.kc,.slice i.na i.nn i.nc,i.pl],.slice ea en ec] W (yoJ W p r.2.2 l):=by
 have Bb:l.length=en:=by obtain⟨a,c,h⟩:=E.slice;cases h;rfl
 obtain⟨w0,Al⟩:∃w0,w0=W.alloc (.cells #[.slice i.ca i.cn i.cc,.slice i.ka i.kn i.kc,.slice i.na i.nn i.nc,i.pl] 28):=⟨_,rfl⟩;have B0:=zba Al;have hB:=zha Al;have NW:=zhd (yhr F w0 i p (H.keep (S:=fun _=>False) (zkb B0) (fun _ _ f=>f)) hw r hr);obtain⟨c0,c1,c2,c3,l0⟩:=zq4 hB;have O:=zh7 B0 E hew hl hw G Bb;have HR:=zhd hr;clear B0 hB H hw hr E hew hl G Bb;go_in;go_wp2_with fail;rw[<-Al];clear Al;refine NW.o.mono ?_;obtain⟨fa,at_,er⟩:=r;dsimp only;rintro e w1 (⟨Au,rfl,H1⟩|⟨rfl,b,v,rfl,H1⟩)
 .have n1:(er==0)=false:=by rw[zna];exact Au
  have n2:(er !=0)=true:=by unfold bne;rw[n1];rfl
  have HN:=zhd Au;have HB:=zhd (O.o.1.trans (H1.o.mono O.o.1.size));clear Au H1;go_wp2_with fail;exact zng (v:=.tuple #[.slice none 0 0,er]) (by simp only[results,Tryz.results29];go_simp) rfl (.inl ⟨HN.o,rfl,HB⟩)
 .obtain⟨K,P,A7,S⟩:=ydR O.o.2.2.2.2.1 HR.o
  have Bm:= @run_makeMap Tryz.prog;have HK:=zh4 K P A7 S;have Bl:W<w0.heap.size:=l0;obtain⟨mb,Av⟩:∃mb,mb=w1.heap.size:=⟨_,rfl⟩;obtain⟨w5,Ab⟩:∃w5,w5=w1.alloc (.map #[] 0):=⟨_,rfl⟩;have M5:MapAt NM w5 mb (mOf []):=by rw[Av,Ab];exact⟨#[],0,znb _ _,rfl,by simp[mOf]⟩
  have B5:=zba Ab;have Bg:Below W W w5:=O.o.1.trans ((H1.o.2.2.trans (B5.mono H1.o.2.2.size)).mono O.o.1.size);have X5:MX TT (fun q=>W<=q/\¬q=mb) w5 b v (yaf p) (ms0 (yaf p)):=(H1.o.1.monoZ (fun j hj hl=>⟨(show W<=j by have hj:w0<=j:=hj;omega),by omega⟩)).ext B5;have O5:∀j,MO v b j->W.heap.size<=j/\¬j=mb:=fun j hj=>⟨by have:=H1.o.2.1 j hj;omega,by have:=H1.o.1.lt hj;omega⟩;have A9:W<=mb/\mb<w5.heap.size:=⟨by have:=H1.o.2.2.size;omega,by rw[Ab];simp;omega⟩;have HL:=zh5 M5 Bg X5 O5 A9;clear K P A7 S NW M5 B5 Bg X5 O5 A9 H1 Bl c0 c1 c2 c3 l0;go_wp2_with fail;rw[<-Ab,<-Av];clear Ab Bm Av;go_loopg [27] en (fun gk v27 wr=>yqr w5 mb en l gk v27 wr)
  case atStart=>exact⟨0,[],rfl,znq _,rfl,HL.o.1,(fun a=>⟨fun h=>(by cases h),fun h=>(by simp[ybU]at h)⟩),Keeps.refl _ _⟩
  case round=>
   obtain⟨j,cs,rfl,hj,U,hM,d,hK⟩:=hrel;have J:mb<wr.heap.size:=by obtain⟨es,I,z,_⟩:=hM;exact zlt z
   by_cases hjn:j<en
   .obtain⟨e,he⟩:=yac (l:=l) (k:=j) (by rw[O.o.2.2.2.2.2.2];exact hjn)
    obtain⟨g,A3,vk,vn,vs,la,ln,lc,rfl,y,M,dv,y0,y1,y2,y3,y4,y5,y6,y7,y8,y9,y10⟩:=ycU O.o.2.1 he;have Q:Below W W wr:=HL.o.2.1.trans (hK.below HL.o.2.1.size (fun q hq e=>by have:=HL.o.2.2.2.2.1;omega));rw[<-Q.cell (p:=⟨g,_,none⟩) M]at y0 y1 y2 y3 y4 y5 y6 y7 y8 y9 y10;have Ag:g<wr:=znj M Q.size;have Br:(j:Int)<(en:Int):=by omega
    have Be:=zhd (show wrap64 ((j:Int)+1)=(j:Int)+1 by have z:=O.o.2.2.2.1;have h2:=O.o.2.2.2.2.2.2;unfold wrap64;omega);have T:l.take (j+1)=l.take j++[e]:=by rw[List.take_add_one,he];rfl
    have HM:=zhd (show en - (j+1)<gk by omega);obtain⟨e0,e1,e2,e3,e4,e5,e6,ex⟩:=e;dsimp only at y0 y1 y2 y3 y4 y5 y6;have V:=yhC (l.take j) ⟨e0,e1,e2,e3,e4,e5,e6,ex⟩;rw[<-T]at V;dsimp only at V;clear dv he y U Q T;by_cases h12:e2=12
    .subst h12
     rw[show((12:Int)==12)=true from rfl,znm]at V;obtain⟨ob,A6,Aq⟩:=MapAt.store hM yl1 Tryz.underlying57 e3 true;replace A6:∀X:World,ydY wr mb X->(Instr.mapUpdate 57 (.map (some mb)) (.int .i64 e3) (.bool true)).run Tryz.prog X= .ok () (setBlock X mb ob):=A6;have HH:=zh5 Aq d hK V J;clear hM d hK Aq V;have As:=Be.o;go_upto_region 8 with(fail);refine yaa ?_;intro w8 Y;have An:=zha Y;have B8:=zba Y;have Bu:ydY wr mb w8:=by unfold ydY blk;rw[B8.block mb J]
     have Bn:mb<w8.heap.size:=znj J B8.size;have A2:=zhd B8;clear y0 y1 y2 y3 y4 y5 y6 y7 y8 y9 y10 Ag M Y B8 J;obtain⟨x0,x1,x2,x3,x4,x5,x6,x7,x8,x9,x10,xl,_⟩:=yay An;have Bt:setBlock w8 mb ob=setBlock w8 mb ob:=rfl;go_wp2_with fail;go_roundg (en - (j+1))
     case measure=>exact HM.o
     case rel=>exact⟨j+1,e3::cs,by simp[As],hjn,rfl,HH.o.1 _ (yce _ _ _ Bn),(fun a=>by rw[HH.o.2.2.2.1,List.mem_append,List.mem_singleton,List.mem_cons,HH.o.2.1 a,or_comm]),(HH.o.2.2.1.trans ((zkb (S:=fun _=>False) A2.o).mono (fun _ _ f=>f.elim)) (fun _ _ e=>e)).trans ((Keeps.refl (fun j=>j=mb) w8).setBlock (b:=mb) (.inl rfl) ob) (fun _ _ e=>e)⟩
    .have Bh:(e2==12)=false:=by rw[zna];exact h12
     rw[Bh,znl]at V;have HH:=zh5 hM d hK V J;clear hM d hK V h12;have As:=Be.o;go_wp2_with fail;go_roundg (en - (j+1))
     case measure=>exact HM.o
     case rel=>exact⟨j+1,cs,by simp[As],hjn,rfl,ycs HH.o.1 (zal),(fun a=>by rw[HH.o.2.2.2.1];exact HH.o.2.1 a),HH.o.2.2.1.trans ((zkb (S:=fun _=>False) (zal)).mono (fun _ _ f=>f.elim)) (fun _ _ e=>e)⟩
   .obtain rfl:j=en:=by omega
    have Bz:¬(j:Int)<j:=by omega
    have hT:l.take j=l:=zmj (by rw[O.o.2.2.2.2.2.2];exact znc _);rw[hT]at d;have X6:MX TT (fun q=>W<=q/\¬q=mb) wr b v (yaf p) (ms0 (yaf p)):=HL.o.2.2.1.far hK (fun q e h=>(HL.o.2.2.2.1 q h).2 e) (fun q e h=>h.2 e);have B6:Below W W wr:=HL.o.2.1.trans (hK.below HL.o.2.1.size (fun q hq e=>by have:=HL.o.2.2.2.2.1;omega));have H6:=zh5 hM d X6 B6 J;obtain⟨w6,Bk⟩:∃w6,w6=wr:=⟨_,rfl⟩;subst Bk;clear hM d hK U J hj X6 B6 hT;go_wp2_with fail;go_loopg [40] j (fun gk v40 wr=>yqq w6 (fun q=>W<=q/\¬q=mb) (yaf p) fa b v j l gk v40 wr)
    case atStart=>exact⟨0,v,rfl,znq _,rfl,H6.o.2.2.1,MK.refl _ _ _,HK.o.2.2.2,znc _⟩
    case round=>
     obtain⟨k,v1,rfl,hk,U,M1,K1,S1,Am⟩:=hrel;have O1:∀q,MO v1 b q->(W.heap.size<=q/\¬q=mb):=fun q hq=>(K1.own q hq).elim (HL.o.2.2.2.1 q) (fun h=>⟨by have:=H6.o.2.2.2.1.size;omega,by have:=H6.o.2.2.2.2;omega⟩);have Q:Below W W wr:=H6.o.2.2.2.1.trans (K1.keeps.below H6.o.2.2.2.1.size (fun q hq e=>by have:=(HL.o.2.2.2.1 q e).1;omega));have Bd:=zlt M1.h;by_cases hkn:k<j
     .obtain⟨e,he⟩:=yac (l:=l) (k:=k) (by rw[O.o.2.2.2.2.2.2];exact hkn)
      obtain⟨g,A3,vk,vn,vs,la,ln,lc,rfl,y,M,dv,y0,y1,y2,y3,y4,y5,y6,y7,y8,y9,y10⟩:=ycU O.o.2.1 he;rw[<-Q.cell (p:=⟨g,_,none⟩) M]at y0 y1 y2 y3 y4 y5 y6 y7 y8 y9 y10;have Ag:g<wr:=znj M Q.size;have Bq:(k:Int)<(j:Int):=by omega
      have Bp:=zhd (show wrap64 ((k:Int)+1)=(k:Int)+1 by have z:=O.o.2.2.2.1;have h2:=O.o.2.2.2.2.2.2;unfold wrap64;omega);have T:l.take (k+1)=l.take k++[e]:=by rw[List.take_add_one,he];rfl
      have HM:=zhd (show j - (k+1)<gk by omega);have At:=O.o.2.2.1 e (zmg he);have Z:(ycv (yaf p) (ms0 (yaf p)) (l.take k)).events<=30:=by have z:=O.o.2.2.2.1;have h2:=O.o.2.2.2.2.2.2;omega
      obtain⟨S2,Ar⟩:=S1.apply HK.o.1 HK.o.2.1 HK.o.2.2.1 e At Z;rw[<-yfe,<-T]at S2 Ar;have R:=zh8 M1 K1 S1 O1 Q dv At (zai Z (zai S2 (zai (show(ycv (yaf p) (ms0 (yaf p)) (l.take (k+1))).events<=k+1 by omega) (zai y T))));clear M1 K1 S1 Am O1 Q he T At Z S2 Ar dv y U;obtain⟨e0,e1,e2,e3,e4,e5,e6,ex⟩:=e;dsimp only at y0 y1 y2 y3 y4 y5 y6;go_upto_region 14 with(fail);refine yaa ?_;intro w8 Y;have An:=zha Y;have B8:=zba Y;clear y0 y1 y2 y3 y4 y5 y6 y7 y8 y9 y10 Ag Y Bd;obtain⟨x0,x1,x2,x3,x4,x5,x6,x7,x8,x9,x10,xl,_⟩:=yay An;have Ap:=R.o.2.2.2.2.1.trans (B8.mono R.o.2.2.2.2.1.size);have AP:=zhd (ygM b v1 (yaf p) _ w8 (R.o.1.ext B8) (O.o.2.2.2.2.2.1.below Ap) fa HK.o.1 HK.o.2.1 HK.o.2.2.1 R.o.2.2.1 R.o.2.2.2.2.2.2.2.1 (fun q hq=>⟨by have:=Ap.size;omega,by have z:=H6.o.2.2.2.2;have h2:=R.o.2.1.keeps.size;have h3:=B8.size;omega⟩) e0 e1 e2 e3 e4 e5 e6 ex vk vn vs la ln lc (fun q=>q<W) (R.o.2.2.2.2.2.1.keep (S:=fun _=>False) (zkb Ap) (fun _ _ f=>f)) R.o.2.2.2.2.2.2.1 (fun q hq e=>by have:=(R.o.2.2.2.1 q e).1;have hq:q<W:=hq;omega) _ rfl);have A2:=zhd B8;clear B8 An Ap
      go_wp2_with fail;refine AP.o.mono ?_;rintro e w9 ⟨v9,rfl,H9⟩;clear x0 x1 x2 x3 x4 x5 x6 x7 x8 x9 x10 xl AP;have Bj:=Bp.o;go_wp2_with fail;go_roundg (j - (k+1))
      case measure=>exact HM.o
      case rel=>exact⟨k+1,v9,by simp[Bj],hkn,rfl,by rw[R.o.2.2.2.2.2.2.2.2.2.2.2,yfe];exact H9.o.1,(R.o.2.1.trans (MK.ext A2.o)).trans H9.o.2,R.o.2.2.2.2.2.2.2.2.1,R.o.2.2.2.2.2.2.2.2.2.1⟩
     .obtain rfl:k=j:=by omega
      have By:¬(k:Int)<k:=by omega
      have hT:l.take k=l:=zmj (by rw[O.o.2.2.2.2.2.2];exact znc _);rw[hT]at M1 S1 Am;obtain⟨s,hs⟩:∃s,ycv (yaf p) (ms0 (yaf p)) l=s:=⟨_,rfl⟩;rw[hs]at M1 S1 Am;have Ba:k<=30:=by have z:=O.o.2.2.2.1;have h2:=O.o.2.2.2.2.2.2;omega
      have J:s.made.length<=700000:=by have z:=S1.bd;omega
      have MD:=zhd (yfC b v1 _ s wr M1 (yky S1) (by omega));have A5:MapAt NM wr mb (mOf cs):=by
       obtain⟨es,I,z,h2⟩:=H6.o.1;exact⟨es,I,(K1.keeps.block mb H6.o.2.2.2.2 (fun e=>(HL.o.2.2.2.1 mb e).2 rfl)).trans z,h2⟩
      have R:=zh5 Q hs S1 J A5;clear M1 K1 S1 Am O1 Q hT hs J U Ba A5 Bd;go_wp2_with fail;refine MD.o.mono ?_;rintro e w7 ⟨r7,rfl,H8⟩;obtain⟨am,cm,rfl⟩:∃a c,r7= .slice a (s.made.map yaE).length c:=H8.o.1.slice;obtain⟨L,hL⟩:∃L,L=s.made.map yaE:=⟨_,rfl⟩;rw[<-hL];obtain⟨n,hn⟩:∃n,L.length=n:=⟨_,rfl⟩;have E7:XRd (fun g=>g<w7) w7 (.slice am n cm) L:=by rw[<-hn,hL];exact H8.o.1.rd (fun g _ h=>h) (fun g M=>H8.o.1.lt M)
      have Bf:=R.o.1.trans (H8.o.2.2.mono R.o.1.size);have A4:=ycs R.o.2.2.2.2 H8.o.2.2;have u:=zh6 E7 Bf A4 hL hn (show n<=700000 by rw[<-hn,hL,zmd];exact R.o.2.2.2.1);rw[hn];clear E7 Bf A4 MD H8 hn hL;go_wp2_with fail;go_loopg [51,13] n (fun gk v51 v13 wr=>yqp w7 n cs L gk v51 v13 wr)
      case atStart=>exact⟨0,rfl,znq _,rfl,XRow.nil _ _ _,(fun g h=>by cases h),znv _ _⟩
      case round=>
       obtain⟨i,rfl,hi,U,hX,hO,hB⟩:=hrel;by_cases hin:i<n
       .obtain⟨c,hc⟩:=yac (l:=L) (k:=i) (by rw[u.o.2.2.2.2.1];exact hin)
        obtain⟨g,A3,vk,vn,vs,la,ln,lc,rfl,y,M,dv,y0,y1,y2,y3,y4,y5,y6,y7,y8⟩:=yla u.o.1 hc;rw[<-hB.cell (p:=⟨g,_,none⟩) M]at y0 y1 y2 y3 y4 y5 y6 y7 y8;have Ag:g<wr:=znj M hB.size;have Bs:(i:Int)<(n:Int):=by omega
        have A0:=zhd (show wrap64 ((i:Int)+1)=(i:Int)+1 by have:=u.o.2.2.2.2.2;unfold wrap64;omega);have T:L.take (i+1)=L.take i++[c]:=by rw[List.take_add_one,hc];rfl
        have A1:=zhd (show n - (i+1)<gk by omega);have Bc:yaV c=0/\szV c.v<=1073741824:=by
         have hm:=zmg hc;rw[u.o.2.2.2.1]at hm;obtain⟨c0,Bo,rfl⟩:=List.mem_map.1 hm;have A8:=R.o.2.2.1.rk.vs.mds c0 Bo;have Az:=yfM A8.1 A8.2;have:=ycS (x:=(yaE c0).v) ⟨ypb Az.1,Az.2⟩;exact⟨Az.1,by omega⟩
        have D:=zh6 hX hO hB dv T Bc;have J:mb<wr.heap.size:=by
         obtain⟨es,I,z,_⟩:=u.o.2.2.1;exact znj (zlt z) hB.size
        clear hX hO hB dv T Bc hc y U hi;obtain⟨I,B,ca,C,cn,A⟩:=c;dsimp only at y0 y1 y2 y3 y4;go_upto_region 20 with(fail);refine yaa ?_;intro w2 Ac;have B2:=zba Ac;have Ai:=zha Ac;have M2:=ycs u.o.2.2.1 (D.o.2.2.1.trans (B2.mono D.o.2.2.1.size));have H2:=zh2 B2 Ai;clear y0 y1 y2 y3 y4 y5 y6 y7 y8 Ag M Ac B2 J;by_cases hk2:I=2
        .subst hk2
         obtain⟨lt,Ax⟩:∃lt,decide (ca∈cs)=lt:=⟨_,rfl⟩;have Bx:=fun X hX=>yhq M2 ca lt Ax X hX;have Ao:=zhd (show yaU cs (⟨2,B,ca,C,cn,A⟩:Cm)=lt by unfold yaU;rw[<-Ax];rfl);clear Ax M2;cases lt with
         |true=>
          obtain⟨x0,x1,x2,x3,x4,x5,x6,x7,x8,xl,_⟩:=ygD Ai;clear Ai;have Aa:=A0.o;go_wp2_with fail;go_roundg (n - (i+1))
          case measure=>exact A1.o
          case rel=>exact⟨i+1,by simp[Aa],hin,rfl,by rw[D.o.2.2.2.2.1,yeN,Ao.o];exact D.o.1.below H2.o.1,D.o.2.1,D.o.2.2.1.trans (H2.o.1.mono D.o.2.2.1.size)⟩
         |false=>
          clear Ai;obtain⟨x0,x1,x2,x3,x4,x5,x6,x7,x8,xl,_⟩:=ygD H2.o.2;have CE:=zhd (yb8 (⟨2,B,ca,C,cn,A⟩:Cm) D.o.2.2.2.2.2.1 D.o.2.2.2.2.2.2 vk vn vs la ln lc (fun g=>g<w7) w2 (D.o.2.2.2.1.keep (S:=fun _=>False) (zkb (D.o.2.2.1.trans (H2.o.1.mono D.o.2.2.1.size))) (fun _ _ f=>f)));go_wp2_with fail;refine CE.o.mono ?_;rintro e w3 ⟨uk,un,us,ua,ul,uc,rfl,H3⟩;clear x0 x1 x2 x3 x4 x5 x6 x7 x8 xl CE;obtain⟨va,vl,vc,Ad⟩:=yaI D.o.1;subst Ad;have t:=H2.o.1.trans (H3.o.2.mono H2.o.1.size);obtain⟨ks,Aj,m⟩:=(D.o.1.below t).cells;have Ay:ks.length<=i:=by
           rw[m.1,zmd];exact znf (List.length_filter_le _ _) (by rw[List.length_take];exact Nat.min_le_left _ _)
          have RA:=zhd (Aj.below ((znv w3.heap.size w3).alloc (znc _) (.cells #[(evOfC (⟨2,B,ca,C,cn,A⟩:Cm)).id,(evOfC (⟨2,B,ca,C,cn,A⟩:Cm)).time,(evOfC (⟨2,B,ca,C,cn,A⟩:Cm)).kind,(evOfC (⟨2,B,ca,C,cn,A⟩:Cm)).a,(evOfC (⟨2,B,ca,C,cn,A⟩:Cm)).b,(evOfC (⟨2,B,ca,C,cn,A⟩:Cm)).name,(evOfC (⟨2,B,ca,C,cn,A⟩:Cm)).text,uk,un,us,.slice ua ul uc] 40)));have Ak:=zhd (show(ks.length+1)*128<=140737488355328/\ks.length+1<=maxLen from by have:=u.o.2.2.2.2.2;unfold maxLen;omega);have H4:=zh2 m t;clear Aj m Ay t;have Aa:=A0.o;go_wp2_with (at_builtin;refine yca (α:=EC) yjx rfl (.tmp 65) (.tmp 68) rfl RA.o (⟨(evOfC (⟨2,B,ca,C,cn,A⟩:Cm)).id,(evOfC (⟨2,B,ca,C,cn,A⟩:Cm)).time,(evOfC (⟨2,B,ca,C,cn,A⟩:Cm)).kind,(evOfC (⟨2,B,ca,C,cn,A⟩:Cm)).a,(evOfC (⟨2,B,ca,C,cn,A⟩:Cm)).b,(evOfC (⟨2,B,ca,C,cn,A⟩:Cm)).name,(evOfC (⟨2,B,ca,C,cn,A⟩:Cm)).text,⟨uk,un,us,ua,ul,uc⟩⟩:EC) rfl rfl (znb _ _) Ak.o.1 Ak.o.2 ?_;intro a1 c1 w6 Ae Af Ah;have HF:=zh3 Ae Af Ah;clear Ae Af Ah);go_roundg (n - (i+1))
          case measure=>exact A1.o
          case rel=>
           have Bi:=D.o.2.2.1.size;have Ac:=H2.o.1.size;have hx:EvF (fun g=>w7<=g/\¬(Value.slice va vl vc).ownBlock=some g) w3 (⟨(evOfC (⟨2,B,ca,C,cn,A⟩:Cm)).id,(evOfC (⟨2,B,ca,C,cn,A⟩:Cm)).time,(evOfC (⟨2,B,ca,C,cn,A⟩:Cm)).kind,(evOfC (⟨2,B,ca,C,cn,A⟩:Cm)).a,(evOfC (⟨2,B,ca,C,cn,A⟩:Cm)).b,(evOfC (⟨2,B,ca,C,cn,A⟩:Cm)).name,(evOfC (⟨2,B,ca,C,cn,A⟩:Cm)).text,⟨uk,un,us,ua,ul,uc⟩⟩:EC) (evOfC (⟨2,B,ca,C,cn,A⟩:Cm)):=⟨rfl,rfl,rfl,rfl,rfl,rfl,rfl,H3.o.1.mono (fun g M _=>⟨(by have M:w2<=g:=M;show w7<=g;omega),fun e=>by have:=D.o.1.lt e;have M:w2<=g:=M;omega⟩)⟩;have AP:=EsRel.app D.o.1 D.o.2.1 D.o.2.2.1 H4.o.2 H4.o.1 hx HF.o.1 HF.o.2.1 HF.o.2.2;exact⟨i+1,by simp[Aa],hin,rfl,by rw[D.o.2.2.2.2.1,yeN,Ao.o,znl,List.map_append];exact AP.1,AP.2.1,AP.2.2⟩
        .have n2:(I==2)=false:=by rw[zna];exact hk2
         have n3:(I !=2)=true:=by unfold bne;rw[n2];rfl
         have Ao:=zhd (show yaU cs (⟨I,B,ca,C,cn,A⟩:Cm)=false by unfold yaU;rw[n2];rfl);clear Ai M2 hk2;obtain⟨x0,x1,x2,x3,x4,x5,x6,x7,x8,xl,_⟩:=ygD H2.o.2;have CE:=zhd (yb8 (⟨I,B,ca,C,cn,A⟩:Cm) D.o.2.2.2.2.2.1 D.o.2.2.2.2.2.2 vk vn vs la ln lc (fun g=>g<w7) w2 (D.o.2.2.2.1.keep (S:=fun _=>False) (zkb (D.o.2.2.1.trans (H2.o.1.mono D.o.2.2.1.size))) (fun _ _ f=>f)));go_wp2_with fail;refine CE.o.mono ?_;rintro e w3 ⟨uk,un,us,ua,ul,uc,rfl,H3⟩;clear x0 x1 x2 x3 x4 x5 x6 x7 x8 xl CE;obtain⟨va,vl,vc,Ad⟩:=yaI D.o.1;subst Ad;have t:=H2.o.1.trans (H3.o.2.mono H2.o.1.size);obtain⟨ks,Aj,m⟩:=(D.o.1.below t).cells;have Ay:ks.length<=i:=by
          rw[m.1,zmd];exact znf (List.length_filter_le _ _) (by rw[List.length_take];exact Nat.min_le_left _ _)
         have RA:=zhd (Aj.below ((znv w3.heap.size w3).alloc (znc _) (.cells #[(evOfC (⟨I,B,ca,C,cn,A⟩:Cm)).id,(evOfC (⟨I,B,ca,C,cn,A⟩:Cm)).time,(evOfC (⟨I,B,ca,C,cn,A⟩:Cm)).kind,(evOfC (⟨I,B,ca,C,cn,A⟩:Cm)).a,(evOfC (⟨I,B,ca,C,cn,A⟩:Cm)).b,(evOfC (⟨I,B,ca,C,cn,A⟩:Cm)).name,(evOfC (⟨I,B,ca,C,cn,A⟩:Cm)).text,uk,un,us,.slice ua ul uc] 40)));have Ak:=zhd (show(ks.length+1)*128<=140737488355328/\ks.length+1<=maxLen from by have:=u.o.2.2.2.2.2;unfold maxLen;omega);have H4:=zh2 m t;clear Aj m Ay t;have Aa:=A0.o;go_wp2_with (at_builtin;refine yca (α:=EC) yjx rfl (.tmp 65) (.tmp 68) rfl RA.o (⟨(evOfC (⟨I,B,ca,C,cn,A⟩:Cm)).id,(evOfC (⟨I,B,ca,C,cn,A⟩:Cm)).time,(evOfC (⟨I,B,ca,C,cn,A⟩:Cm)).kind,(evOfC (⟨I,B,ca,C,cn,A⟩:Cm)).a,(evOfC (⟨I,B,ca,C,cn,A⟩:Cm)).b,(evOfC (⟨I,B,ca,C,cn,A⟩:Cm)).name,(evOfC (⟨I,B,ca,C,cn,A⟩:Cm)).text,⟨uk,un,us,ua,ul,uc⟩⟩:EC) rfl rfl (znb _ _) Ak.o.1 Ak.o.2 ?_;intro a1 c1 w6 Ae Af Ah;have HF:=zh3 Ae Af Ah;clear Ae Af Ah);go_roundg (n - (i+1))
         case measure=>exact A1.o
         case rel=>
          have Bi:=D.o.2.2.1.size;have Ac:=H2.o.1.size;have hx:EvF (fun g=>w7<=g/\¬(Value.slice va vl vc).ownBlock=some g) w3 (⟨(evOfC (⟨I,B,ca,C,cn,A⟩:Cm)).id,(evOfC (⟨I,B,ca,C,cn,A⟩:Cm)).time,(evOfC (⟨I,B,ca,C,cn,A⟩:Cm)).kind,(evOfC (⟨I,B,ca,C,cn,A⟩:Cm)).a,(evOfC (⟨I,B,ca,C,cn,A⟩:Cm)).b,(evOfC (⟨I,B,ca,C,cn,A⟩:Cm)).name,(evOfC (⟨I,B,ca,C,cn,A⟩:Cm)).text,⟨uk,un,us,ua,ul,uc⟩⟩:EC) (evOfC (⟨I,B,ca,C,cn,A⟩:Cm)):=⟨rfl,rfl,rfl,rfl,rfl,rfl,rfl,H3.o.1.mono (fun g M _=>⟨(by have M:w2<=g:=M;show w7<=g;omega),fun e=>by have:=D.o.1.lt e;have M:w2<=g:=M;omega⟩)⟩;have AP:=EsRel.app D.o.1 D.o.2.1 D.o.2.2.1 H4.o.2 H4.o.1 hx HF.o.1 HF.o.2.1 HF.o.2.2;exact⟨i+1,by simp[Aa],hin,rfl,by rw[D.o.2.2.2.2.1,yeN,Ao.o,znl,List.map_append];exact AP.1,AP.2.1,AP.2.2⟩
       .obtain rfl:i=n:=by omega
        have Bv:¬(i:Int)<i:=by omega
        have hT:L.take i=L:=zmj (by rw[u.o.2.2.2.2.1];exact znc _);rw[hT]at hX;obtain⟨va,vl,vc,Ad⟩:=yaI hX;subst Ad;have D:=zh3 (hX.mono (G:=fun g=>W<=g) (fun g h _=>by have:=u.o.2.1.size;have z:=h.1;omega)) (fun g M=>znf u.o.2.1.size (hO g M)) (u.o.2.1.trans (hB.mono u.o.2.1.size));have hq:(NL cs L).map evOfC=ybk (yaf p) l:=by
         rw[u.o.2.2.2.1];unfold ybk;rw[R.o.2.1,<-ylr H6.o.2.1];unfold NL;rw[List.filter_map,List.map_map]
         congr 1
         funext c
         exact ydn c
        have HQ:=zhd hq;clear hX hO hB U hT hi hq;go_wp2_with fail;exact zng (v:=.tuple #[.slice va vl vc,.int .i64 0]) (by simp only[results,Tryz.results29];go_simp) rfl (.inr ⟨rfl,_,rfl,zhd ⟨by rw[<-HQ.o];exact D.o.1,D.o.2⟩⟩)
end Go.Proofs.YtpagmlndgblhhaaGreatDoor
