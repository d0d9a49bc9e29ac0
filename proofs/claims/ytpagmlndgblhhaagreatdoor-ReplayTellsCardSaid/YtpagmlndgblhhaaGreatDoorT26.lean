/- Parts of the proof: what the functions and the plain laws give that later parts lean on. Conditions: none beyond those that each theorem names. -/
import Derived.Test.YtpagmlndgblhhaaGreatDoorT25
set_option maxRecDepth 100000
set_option maxHeartbeats 8000000
namespace Go.Proofs.YtpagmlndgblhhaaGreatDoor
open Go.RowKit Go.Own Go.Own.MapTy Go.Va Go.Sort
open Go.Own.Cells (sz enc)
set_option linter.unusedVariables false
theorem yeL (F:List Int)(l:List Cm)(c:Cm):NL F (l++[c])=bif yaU F c then NL F l else NL F l++[c]:=by
 rw[ygE,ydr];cases yaU F c<;>simp[yoO]
theorem yi3 {r:RP}(h0:r.err=0)(hc:r.closed=false):(ybJ r).map yaD=NL r.fired ((r.m.made.map yaD).drop r.next):=by
 unfold ybJ;rw[h0,hc,show(((0:Int)!=0)||false)=false from rfl,znl,<-List.map_drop];unfold NL;rw[List.filter_map];rfl
def ypH (N0:Nat)(w1:World)(n:Nat)(F:List Int)(L:List Cm)(gk:Nat)(v28 v3:Value)(wr:World):Prop:=
 ∃i:Nat,v28= .int .i64 i/\i<=n/\gk=n - i/\XRow (fun g=>N0<=g/\¬v3.ownBlock=some g) wr 52 v3 (NL F (L.take i))/\(∀g,v3.ownBlock=some g->w1.heap.size<=g)/\Below w1 w1 wr
theorem yfY
  {Z:Nat->Prop}(rb b mb:Nat)(v:MV)(p:Img)(r:RP)(W:World)(R:RPX TR Z W rb b mb v p r)
  (h:(r.err !=0||r.closed)=true):
  Calls Tryz.prog 12 #[.pointer (some ⟨rb,0,none⟩)] W (yiA W ((ybJ r).map yaD)):=by
 obtain⟨c0,c1,c2,c3,D,G,E,F⟩:=R.q;have B:ybJ r=[]:=by unfold ybJ;rw[h];rfl
 have C:=zhd B;have H:=zhd R;clear B R;cases he:(r.err !=0)with
 |true=>
  have A:(r.err==0)=false:=by
   unfold bne at he;cases hq:(r.err==0)with
   |false=>rfl
   |true=>rw[hq]at he;cases he
  clear h;go_in;go_wp2;go_ret;exact⟨_,rfl,zhd ⟨by rw[C.o];exact XRow.nil _ _ _,(fun g h=>by cases h),znv _ _⟩⟩
 |false=>
  rw[he,Bool.false_or]at h;have A:(r.err==0)=true:=by
   unfold bne at he;cases hq:(r.err==0)with
   |true=>rfl
   |false=>rw[hq]at he;cases he
  rw[h]at D;clear h;go_in;go_wp2;go_ret;exact⟨_,rfl,zhd ⟨by rw[C.o];exact XRow.nil _ _ _,(fun g h=>by cases h),znv _ _⟩⟩
theorem ydu
  {Z:Nat->Prop}(rb b mb:Nat)(v:MV)(p:Img)(r:RP)(W:World)(R:RPX TR Z W rb b mb v p r)
  (h0:r.err=0)(hc:r.closed=false)(hz:∀c∈r.m.made,szV c.v<=1073741824)(hl:r.m.made.length<=4000000)(hnx:r.next<=r.m.made.length):
  Calls Tryz.prog 12 #[.pointer (some ⟨rb,0,none⟩)] W (yiA W ((ybJ r).map yaD)):=by
 obtain⟨c0,c1,c2,c3,c4,c5,cl,cf⟩:=R.q;rw[h0]at c5;rw[hc]at c4;have HP:=zhd (yi3 h0 hc);have MA:=zhd (yfu b v p r.m W.drew (R.ext (znv _ _).drew).mx hz (by omega));have HX:=zhd R;have HN:=zh2 hnx hl;clear R h0 hc hz hl hnx;go_in;go_upto_region 4 with(fail);go_region_law ((go_simp;go_at_call 49;refine MA.o.mono ?_;rintro e z ⟨q,rfl,H1⟩;have R1:=HX.o.ext ((znv W.heap.size W).drew.trans H1.o.2.2);obtain⟨d0,d1,d2,d3,d4,d5,dl,df⟩:=R1.q;obtain⟨ra,rc,An⟩:=H1.o.1.slice;subst An;obtain⟨ks,hR,hP⟩:=H1.o.1.cells;obtain⟨ad,E,F,O⟩:=yez ymc hR (k:=r.next) (by rw[hP.1,zmd];exact HN.o.1);have C:=(fun g A=>H1.o.2.1 g (O g A));simp only[zmd]at E F C;have HM:=zh5 R1 F C hP ((znv W.heap.size W).drew.trans H1.o.2.2);clear R1 hR hP F O C))
 all_goals
  have hp:=HM.o.2.2.2.1.drop r.next;have X1:XRow (fun g=>W<=g) z 52 _ ((r.m.made.map yaD).drop r.next):=XRow.of HM.o.2.1 hp;have E1:=X1.rd (G:=fun g=>W<=g/\g<z) (fun g h hl=>⟨h,hl⟩) (fun g A=>⟨HM.o.2.2.1 g A,X1.lt A⟩);obtain⟨L,hL⟩:∃L,L=(r.m.made.map yaD).drop r.next:=⟨_,rfl⟩;rw[<-hL]at E1;obtain⟨n,hn⟩:∃n,r.m.made.length - r.next=n:=⟨_,rfl⟩;have Ag:L.length=n:=by rw[hL,List.length_drop,zmd];exact hn
  rw[hn]at E1 E;have HE:=zh4 E1 Ag hL (show n<=4000000 by have:=HN.o.2;omega);have HW:=zh2 HM.o.2.2.2.2.size dl;have Ar:=zhd hn;clear hp X1 E1 hL Ag hn c0 c1 c2 c3 c4 c5 cl cf d0 d1 d2 d3 d4 d5 dl df MA;go_wp2_with fail;clear E
  try simp only[Act.put,List.setIfInBounds_toArray,List.set_cons_succ,List.set_cons_zero,List.getElem_toArray,List.getElem_cons_succ,List.getElem_cons_zero]
  rw[Ar.o];go_loopg [28,3] n (fun gk v28 v3 wr=>ypH W.heap.size z n r.fired L gk v28 v3 wr)
  case atStart=>exact⟨0,rfl,znq _,rfl,XRow.nil _ _ _,(fun g h=>by cases h),znv _ _⟩
  case round=>
   obtain⟨i,rfl,hi,Ae,hX,hO,y⟩:=hrel;by_cases hin:i<n
   .obtain⟨c,hc⟩:=yac (l:=L) (k:=i) (by rw[HE.o.2.1];exact hin)
    obtain⟨g,At,U,T,Q,Y,V,X,rfl,Aq,A,dv,y0,y1,y2,y3,y4,y5,y6,y7,y8⟩:=ykY HE.o.1 hc;rw[<-y.cell (p:=⟨g,_,none⟩) A]at y0 y1 y2 y3 y4 y5 y6 y7 y8;have Ap:g<wr:=znj A y.size;have As:(i:Int)<(n:Int):=by omega
    have Aa:wrap64 ((i:Int)+1)=(i:Int)+1:=by have:=HE.o.2.2.2;unfold wrap64;omega
    have Ab:L.take (i+1)=L.take i++[c]:=by rw[List.take_add_one,hc];rfl
    have Ai:=zhd (show n - (i+1)<gk by omega);have RW:=HM.o.1.ext y;have B:=zh6 hX hO y dv Ab RW;clear hX hO y dv Ab RW hc Aq Ae hi;obtain⟨K,I,N,M,J,cv⟩:=c;dsimp only at y0 y1 y2 y3 y4;go_upto_region 7 with(fail);refine yaa ?_;intro w2 a;have B2:=zba a;have u:=zha a;clear y0 y1 y2 y3 y4 y5 y6 y7 y8 Ap A a;obtain⟨x0,x1,x2,x3,x4,x5,x6,x7,x8,xl,_⟩:=ygt u;obtain⟨lt,s⟩:∃lt,yaU r.fired ⟨K,I,N,M,J,cv⟩=lt:=⟨_,rfl⟩;have LT:=zhd (yij rb b mb v p r w2 (B.o.2.2.2.2.2.ext B2) K I N M J U T Q Y V X cv lt s);have H2:=zh2 B2 u;have Aj:=zhd s;clear B2 u s;go_wp2_with fail;refine LT.o.mono ?_;rintro e w3 ⟨rfl,H⟩;have t:=(H.block wr xl).trans H2.o.2;have D:Below wr wr w3:=H2.o.1.trans (H.mono H2.o.1.size);clear x0 x1 x2 x3 x4 x5 x6 x7 x8 xl LT;cases lt with
    |true=>
     have P:=zhd D;clear t D H;go_wp2_with fail;go_roundg (n - (i+1))
     case measure=>exact Ai.o
     case rel=>exact⟨i+1,by simp[Aa],hin,rfl,by rw[B.o.2.2.2.2.1,yeL,Aj.o];exact B.o.1.below P.o,B.o.2.1,B.o.2.2.1.trans (P.o.mono B.o.2.2.1.size)⟩
    |false=>
     obtain⟨x0,x1,x2,x3,x4,x5,x6,x7,x8,xl,_⟩:=ygt t;obtain⟨va,vl,vc,Am⟩:=ya9 B.o.1;subst Am;obtain⟨ks,Ah,x⟩:=(B.o.1.below D).cells;have Ao:ks.length<=i:=by
      rw[x.1];exact znf (List.length_filter_le _ _) (by rw[List.length_take];exact Nat.min_le_left _ _)
     have RA:=zhd (Ah.below ((znv w3.heap.size w3).alloc (znc _) (.cells #[K,I,N,M,J,U,T,Q,.slice Y V X] 52)));have Ak:=zhd (show(ks.length+1)*104<=140737488355328/\ks.length+1<=maxLen from by have:=HE.o.2.2.2;unfold maxLen;omega);have P:=zh3 x D (show CF (fun g=>W<=g/\g<z) w3 ⟨U,T,Q,Y,V,X⟩ cv from B.o.2.2.2.1.keep (S:=fun _=>False) (zkb (B.o.2.2.1.trans (D.mono B.o.2.2.1.size))) (fun _ _ f=>f));clear t D H Ah x Ao;go_wp2_with (at_builtin;refine ybG (α:=CC) ymc rfl (.tmp 36) (.tmp 38) rfl RA.o (⟨K,I,N,M,J,⟨U,T,Q,Y,V,X⟩⟩:CC) rfl rfl (znb _ _) Ak.o.1 Ak.o.2 ?_;intro a1 c1 w4 Ac Ad Af;have HF:=zh3 Ac Ad Af;clear Ac Ad Af);go_roundg (n - (i+1))
     case measure=>exact Ai.o
     case rel=>
      have A4:Below w3 w3 (w3.alloc (.cells (enc (⟨K,I,N,M,J,⟨U,T,Q,Y,V,X⟩⟩:CC)).toArray 52)):=zal;have Al:z<=w3.heap.size:=znf B.o.2.2.1.size P.o.2.1.size;have Au:wr<=w3.heap.size:=P.o.2.1.size;have d:∀g,(Value.slice va vl vc).ownBlock=some g->z.heap.size<=g/\g<wr.heap.size:=fun g A=>⟨B.o.2.1 g A,B.o.1.lt A⟩;refine⟨i+1,by simp[Aa],hin,rfl,?_,?_,?_⟩
      .rw[B.o.2.2.2.2.1,yeL,Aj.o]
       have hx:CmF (fun g=>W<=g/\¬(Value.slice va vl vc).ownBlock=some g) w3 (⟨K,I,N,M,J,⟨U,T,Q,Y,V,X⟩⟩:CC) (⟨K,I,N,M,J,cv⟩:Cm):=⟨rfl,rfl,rfl,rfl,rfl,P.o.2.2.mono (fun g A _=>⟨A.1,fun e=>by have:=(d g e).1;omega⟩)⟩;have P1:=P.o.1.app (Ptw.one hx);have P2:Ptw (fun g=>(W<=g/\¬(Value.slice va vl vc).ownBlock=some g)/\g<w3) w3 (ks++[(⟨K,I,N,M,J,⟨U,T,Q,Y,V,X⟩⟩:CC)]) (NL r.fired (L.take i)++[(⟨K,I,N,M,J,cv⟩:Cm)]):=P1.mono (fun g A hl=>⟨A,hl⟩);have P3:=(P2.keep (S:=fun _=>False) (zkb A4) (fun _ _ f=>f)).keep HF.o.2.1 (fun g A e=>A.1.2 e);refine XRow.of HF.o.1 (Ptw.mono P3 ?_);intro g A _;refine⟨A.1.1,fun e=> ?_⟩;rcases HF.o.2.2 g e with h|h
       .exact A.1.2 h
       .have h:w3.heap.size+1<=g:=by simpa using h
        have:=A.2;omega
      .intro g A
       rcases HF.o.2.2 g A with h|h
       .exact(d g h).1
       .have h:w3.heap.size+1<=g:=by simpa using h
        omega
      .have K34:=((zkb (S:=fun _=>False) A4).mono (fun _ _ f=>f.elim)).trans HF.o.2.1 (fun _ _ e=>e)
       exact(B.o.2.2.1.trans (P.o.2.1.mono B.o.2.2.1.size)).trans (K34.below Al (fun j hj e=>by have:=d j e;omega))
   .obtain rfl:i=n:=by omega
    have Av:¬(i:Int)<i:=by omega
    have hT:L.take i=L:=zmj (by rw[HE.o.2.1];exact znc _);rw[hT]at hX;have B:=zh3 (hX.mono (G:=fun g=>W<=g) (fun g h _=>h.1)) hO y;clear hX hO y Ae hT hi;go_wp2;go_ret;exact⟨_,rfl,zhd ⟨by rw[HP.o,<-HE.o.2.2.1];exact B.o.1,fun g A=>znf HW.o.1 (B.o.2.1 g A),HM.o.2.2.2.2.trans (B.o.2.2.mono HW.o.1)⟩⟩
end Go.Proofs.YtpagmlndgblhhaaGreatDoor
namespace Go.Va
open Go.Own Go.RowKit
def yiw (e:Ev):Ev:={e with v:=yab e.v}
end Go.Va
namespace Go.Proofs.YtpagmlndgblhhaaGreatDoor
open Go.RowKit Go.Own Go.Own.MapTy Go.Va Go.Sort
open Go.Own.Cells (sz enc)
set_option linter.unusedVariables false
def ymJ (W:World)(l:List Ev)(e:Ending)(w':World):Prop:=∃r:Value,e= .returned r/\Hid (XRow (fun g=>W<=g/\¬r.ownBlock=some g) w' 40 r l/\(∀g,r.ownBlock=some g->W.heap.size<=g)/\Below W W w')
def EsRel (W:World)(n:Nat)(L:Nat->List Ev)(gk:Nat)(v8 v3:Value)(wr:World):Prop:=
 ∃i:Nat,v8= .int .i64 i/\i<=n/\gk=n - i/\XRow (fun g=>W<=g/\¬v3.ownBlock=some g) wr 40 v3 (L i)/\(∀g,v3.ownBlock=some g->W.heap.size<=g)/\Below W W wr
theorem EsRel.app {W wr w3 w4:World}{va:Option Addr}{vl vc:Nat}{v1:Value}{A:List Ev}{ks:List EC}{c:EC}{x:Ev}(hX:XRow (fun g=>W<=g/\¬(Value.slice va vl vc).ownBlock=some g) wr 40 (.slice va vl vc) A)(hO:∀g,(Value.slice va vl vc).ownBlock=some g->W.heap.size<=g)(hB:Below W W wr)(B3:Below wr wr w3)
  (hP:Ptw (fun g=>W.heap.size<=g/\¬(Value.slice va vl vc).ownBlock=some g) w3 ks A)(hx:EvF (fun g=>W<=g/\¬(Value.slice va vl vc).ownBlock=some g) w3 c x)
  (hr:RowAt w4 40 v1 (ks++[c]))(hk:Keeps (fun j=>(Value.slice va vl vc).ownBlock=some j) (w3.alloc (.cells (enc c).toArray 40)) w4)(hf:∀g,v1.ownBlock=some g->(Value.slice va vl vc).ownBlock=some g\/(w3.alloc (.cells (enc c).toArray 40)).heap.size<=g):
  XRow (fun g=>W.heap.size<=g/\¬v1.ownBlock=some g) w4 40 v1 (A++[x])/\(∀g,v1.ownBlock=some g->W.heap.size<=g)/\Below W W w4:=by
 have E:Below w3 w3 (w3.alloc (.cells (enc c).toArray 40)):=zal;have D:W<=w3.heap.size:=znf hB.size B3.size;have C:∀g,(Value.slice va vl vc).ownBlock=some g->W.heap.size<=g/\g<wr.heap.size:=fun g B=>⟨hO g B,hX.lt B⟩;refine⟨?_,?_,?_⟩
 .have H:Ptw (fun g=>W.heap.size<=g/\¬(Value.slice va vl vc).ownBlock=some g) w3 (ks++[c]) (A++[x]):=hP.app (Ptw.one (x:=x) hx)
  have G:Ptw (fun g=>(W<=g/\¬(Value.slice va vl vc).ownBlock=some g)/\g<w3) w3 (ks++[c]) (A++[x]):=H.mono (fun g B hl=>⟨B,hl⟩);have F:=(G.keep (S:=fun _=>False) (zkb E) (fun _ _ f=>f)).keep hk (fun g B e=>B.1.2 e);refine XRow.of hr (Ptw.mono F ?_);intro g B _;refine⟨B.1.1,fun e=> ?_⟩;rcases hf g e with h|h
  .exact B.1.2 h
  .have h:w3.heap.size+1<=g:=by simpa using h
   have:=B.2;omega
 .intro g B
  rcases hf g B with h|h
  .exact(C g h).1
  .have h:w3.heap.size+1<=g:=by simpa using h
   omega
 .have K34:=((zkb (S:=fun _=>False) E).mono (fun _ _ f=>f.elim)).trans hk (fun _ _ e=>e)
  exact(hB.trans (B3.mono hB.size)).trans (K34.below D (fun j hj e=>by have:=C j e;omega))
theorem ylH {F:Nat->Prop}(W:World)(ea:Option Addr)(en ec:Nat)(l:List Ev)(E:XRd F W (.slice ea en ec) l)(hz:∀e∈l,szV e.v<=1073741824)(hl:l.length<=4000000):
  Calls Tryz.prog 27 #[.slice ea en ec] W (ymJ W ((ya8 l).map yiw)):=by
 have Ai:l.length=en:=by obtain⟨a,c,h⟩:=E.slice;cases h;rfl
 have U:=zh4 E hz hl Ai;clear E hz hl Ai;go_in;go_wp2_with fail;go_loopg [8,3] en (fun gk v8 v3 wr=>EsRel W en (fun i=>(ya8 (l.take i)).map yiw) gk v8 v3 wr)
 case atStart=>exact⟨0,rfl,znq _,rfl,XRow.nil _ _ _,(fun g h=>by cases h),znv _ _⟩
 case round=>
  obtain⟨i,rfl,hi,Ag,hX,hO,hB⟩:=hrel;by_cases hin:i<en
  .obtain⟨e,he⟩:=yac (l:=l) (k:=i) (by rw[U.o.2.2.2];exact hin)
   obtain⟨g,At,vk,vn,vs,la,ln,lc,rfl,Aq,B,dv,y0,y1,y2,y3,y4,y5,y6,y7,y8,y9,y10⟩:=yc5 U.o.1 he;rw[<-hB.cell (p:=⟨g,_,none⟩) B]at y0 y1 y2 y3 y4 y5 y6 y7 y8 y9 y10;have Ap:g<wr:=znj B hB.size;have As:(i:Int)<(en:Int):=by omega
   have Ac:wrap64 ((i:Int)+1)=(i:Int)+1:=by have:=U.o.2.2.1;have:=U.o.2.2.2;unfold wrap64;omega
   have Ad:l.take (i+1)=l.take i++[e]:=by rw[List.take_add_one,he];rfl
   have Aa:=U.o.2.1 e (zmg he);have HM:=zhd (show en - (i+1)<gk by omega);have A:=zh6 hX hO hB dv Ad Aa;clear hX hO hB dv Ad Aa he Aq Ag hi;obtain⟨T,R,C,Q,P,O,N,ex⟩:=e;dsimp only at y0 y1 y2 y3 y4 y5 y6;go_upto_region 5 with(fail);refine yaa ?_;intro w2 Y;have B2:=zba Y;have b:=zha Y;clear y0 y1 y2 y3 y4 y5 y6 y7 y8 y9 y10 Ap B Y;obtain⟨x0,x1,x2,x3,z,y,u,t,s,r,x10,M,_⟩:=yaB b;obtain⟨q,hq⟩:∃q,yaI C=q:=⟨_,rfl⟩;have OU:=zhd (yam T R C Q P O N vk vn vs la ln lc w2 q hq);have H2:=zh2 B2 b;have HQ:=zhd hq;clear B2 b hq;go_wp2_with fail;refine OU.o.mono ?_;rintro e w3 ⟨rfl,L⟩;have K:=(L.block wr M).trans H2.o.2;have D:Below wr wr w3:=H2.o.1.trans (L.mono H2.o.1.size);clear x0 x1 x2 x3 z y u t s r x10 M OU;cases q with
   |false=>
    have V:=zhd D;clear K D L;go_wp2_with fail;go_roundg (en - (i+1))
    case measure=>exact HM.o
    case rel=>exact⟨i+1,by simp[Ac],hin,rfl,by dsimp only;rw[A.o.2.2.2.2.1,yaQ,show ya8 [(⟨T,R,C,Q,P,O,N,ex⟩:Ev)]=[] by unfold ya8;rw[List.filter_cons,if_neg (by show¬yaI C=true;rw[HQ.o];decide)];rfl,List.append_nil];exact A.o.1.below V.o,A.o.2.1,A.o.2.2.1.trans (V.o.mono A.o.2.2.1.size)⟩
   |true=>
    obtain⟨x0,x1,x2,x3,z,y,u,t,s,r,x10,M,xf⟩:=yaB K;have CL:=zhd (yax ex vk vn vs la ln lc _ w3 (A.o.2.2.2.1.keep (S:=fun _=>False) (zkb (A.o.2.2.1.trans (D.mono A.o.2.2.1.size)|>.mono (znc _))) (fun _ _ f=>f)) A.o.2.2.2.2.2);have V:=zh2 D K;clear K D L;go_wp2_with fail;refine CL.o.mono ?_;rintro e w4 ⟨⟨k8,n8,s8,J,H,I⟩,rfl,H4⟩;have Z:=(H4.o.2.block wr M).trans V.o.2;clear x0 x1 x2 x3 z y u t s r x10 M xf CL;obtain⟨x0,x1,x2,x3,z,y,u,t,s,r,x10,M,xf⟩:=yaB Z;have Ar:=zhd Z;clear Z;go_upto_region 7 with(fail);refine yaa ?_;intro w5 X;have Aj:w5.heap[wr.heap.size]? =some (.cells #[T,R,C,Q,P,O,N,k8,n8,s8,.slice J H I] 40 (0,0)):=by
     rw[X];have:=Ar.o;simp[World.setCell,zni,this]
    have K5:Keeps (fun j=>j=wr) w4 w5:=by rw[X];exact yct w4 wr.heap.size 7 8 9 10 _ _ _ _
    clear x0 x1 x2 x3 z y u t s r x10 M xf X;obtain⟨x0,x1,x2,x3,z,y,u,t,s,r,x10,M,_⟩:=yaB Aj;have n:Below wr wr w4:=V.o.1.trans (H4.o.2.mono V.o.1.size);have m:Below wr wr w5:=n.trans (K5.below n.size (fun jz hj e=>Nat.ne_of_lt hj e));have Ab:=A.o.2.2.1.size;have An:=V.o.1.size;have C5:CF (fun g=>wr<=g) w5 ⟨k8,n8,s8,J,H,I⟩ (yab ex):=((H4.o.1.mono (G:=fun g=>wr<=g/\g≠wr) (fun g B _=>by have B:w3<=g:=B;have:=zlt V.o.2;omega)).keep K5 (fun g B e=>B.2 e)).mono (fun g B _=>B.1);obtain⟨va,vl,vc,Am⟩:=ya9 A.o.1;subst Am;obtain⟨ks,Ak,d⟩:=(A.o.1.below m).cells;have Ao:ks.length<=i:=by
     rw[d.1,zmd];exact znf (List.length_filter_le _ _) (by rw[List.length_take];exact Nat.min_le_left _ _)
    have RA:=zhd (Ak.below ((znv w5.heap.size w5).alloc (znc _) (.cells #[T,R,C,Q,P,O,N,k8,n8,s8,.slice J H I] 40)));have Al:=zhd (show(ks.length+1)*128<=140737488355328/\ks.length+1<=maxLen from by have:=U.o.2.2.1;have:=U.o.2.2.2;unfold maxLen;omega);have H5:=zh3 d m C5;clear Aj K5 n m Ab An C5 Ak d Ao;go_wp2_with (at_builtin;refine ybG (α:=EC) ygh rfl (.tmp 18) (.tmp 20) rfl RA.o (⟨T,R,C,Q,P,O,N,⟨k8,n8,s8,J,H,I⟩⟩:EC) rfl rfl (znb _ _) Al.o.1 Al.o.2 ?_;intro a1 c1 w6 Ae Af Ah;have HF:=zh3 Ae Af Ah;clear Ae Af Ah);go_roundg (en - (i+1))
    case measure=>exact HM.o
    case rel=>
     have Ab:=A.o.2.2.1.size;have AP:=EsRel.app (x:=⟨T,R,C,Q,P,O,N,yab ex⟩) A.o.1 A.o.2.1 A.o.2.2.1 H5.o.2.1 H5.o.1 ⟨rfl,rfl,rfl,rfl,rfl,rfl,rfl,H5.o.2.2.mono (fun g B _=>⟨(by have B:wr<=g:=B;show W<=g;omega),fun e=>by have:=A.o.1.lt e;have B:wr<=g:=B;omega⟩)⟩ HF.o.1 HF.o.2.1 HF.o.2.2;exact⟨i+1,by simp[Ac],hin,rfl,by dsimp only;rw[A.o.2.2.2.2.1,yaQ,show ya8 [(⟨T,R,C,Q,P,O,N,ex⟩:Ev)]=[⟨T,R,C,Q,P,O,N,ex⟩] by unfold ya8;rw[List.filter_cons,if_pos (by show yaI C=true;exact HQ.o)];rfl,List.map_append];exact AP.1,AP.2.1,AP.2.2⟩
  .obtain rfl:i=en:=by omega
   have Au:¬(i:Int)<i:=by omega
   have hT:l.take i=l:=zmj (by rw[U.o.2.2.2];exact znc _);dsimp only at hX;rw[hT]at hX;have A:=zh3 hX hO hB;clear hX hO hB Ag hT hi;go_wp2;go_ret;exact⟨_,rfl,zhd A.o⟩
theorem ylR {F:Nat->Prop}(W:World)(ea:Option Addr)(en ec:Nat)(l:List Ev)(E:XRd F W (.slice ea en ec) l)(hz:∀e∈l,szV e.v<=1073741824)(hl:l.length<=4000000):
  Calls Tryz.prog 30 #[.slice ea en ec] W (ymJ W ((ydw l).map yiw)):=by
 have Ai:l.length=en:=by obtain⟨a,c,h⟩:=E.slice;cases h;rfl
 have U:=zh4 E hz hl Ai;clear E hz hl Ai;go_in;go_wp2_with fail;go_loopg [8,3] en (fun gk v8 v3 wr=>EsRel W en (fun i=>(ydw (l.take i)).map yiw) gk v8 v3 wr)
 case atStart=>exact⟨0,rfl,znq _,rfl,XRow.nil _ _ _,(fun g h=>by cases h),znv _ _⟩
 case round=>
  obtain⟨i,rfl,hi,Ag,hX,hO,hB⟩:=hrel;by_cases hin:i<en
  .obtain⟨e,he⟩:=yac (l:=l) (k:=i) (by rw[U.o.2.2.2];exact hin)
   obtain⟨g,At,vk,vn,vs,la,ln,lc,rfl,Aq,B,dv,y0,y1,y2,y3,y4,y5,y6,y7,y8,y9,y10⟩:=yc5 U.o.1 he;rw[<-hB.cell (p:=⟨g,_,none⟩) B]at y0 y1 y2 y3 y4 y5 y6 y7 y8 y9 y10;have Ap:g<wr:=znj B hB.size;have As:(i:Int)<(en:Int):=by omega
   have Ac:wrap64 ((i:Int)+1)=(i:Int)+1:=by have:=U.o.2.2.1;have:=U.o.2.2.2;unfold wrap64;omega
   have Ad:l.take (i+1)=l.take i++[e]:=by rw[List.take_add_one,he];rfl
   have Aa:=U.o.2.1 e (zmg he);have HM:=zhd (show en - (i+1)<gk by omega);have A:=zh6 hX hO hB dv Ad Aa;clear hX hO hB dv Ad Aa he Aq Ag hi;obtain⟨T,R,C,Q,P,O,N,ex⟩:=e;dsimp only at y0 y1 y2 y3 y4 y5 y6;go_upto_region 5 with(fail);refine yaa ?_;intro w2 Y;have B2:=zba Y;have b:=zha Y;clear y0 y1 y2 y3 y4 y5 y6 y7 y8 y9 y10 Ap B Y;obtain⟨x0,x1,x2,x3,z,y,u,t,s,r,x10,M,_⟩:=yaB b;obtain⟨q,hq⟩:∃q,yaX C=q:=⟨_,rfl⟩;have OU:=zhd (yc9 T R C Q P O N vk vn vs la ln lc w2 q hq);have H2:=zh2 B2 b;have HQ:=zhd hq;clear B2 b hq;go_wp2_with fail;refine OU.o.mono ?_;rintro e w3 ⟨rfl,L⟩;have K:=(L.block wr M).trans H2.o.2;have D:Below wr wr w3:=H2.o.1.trans (L.mono H2.o.1.size);clear x0 x1 x2 x3 z y u t s r x10 M OU;cases q with
   |false=>
    have V:=zhd D;clear K D L;go_wp2_with fail;go_roundg (en - (i+1))
    case measure=>exact HM.o
    case rel=>exact⟨i+1,by simp[Ac],hin,rfl,by dsimp only;rw[A.o.2.2.2.2.1,ybS,show ydw [(⟨T,R,C,Q,P,O,N,ex⟩:Ev)]=[] by unfold ydw;rw[List.filter_cons,if_neg (by show¬yaX C=true;rw[HQ.o];decide)];rfl,List.append_nil];exact A.o.1.below V.o,A.o.2.1,A.o.2.2.1.trans (V.o.mono A.o.2.2.1.size)⟩
   |true=>
    obtain⟨x0,x1,x2,x3,z,y,u,t,s,r,x10,M,xf⟩:=yaB K;have CL:=zhd (yax ex vk vn vs la ln lc _ w3 (A.o.2.2.2.1.keep (S:=fun _=>False) (zkb (A.o.2.2.1.trans (D.mono A.o.2.2.1.size)|>.mono (znc _))) (fun _ _ f=>f)) A.o.2.2.2.2.2);have V:=zh2 D K;clear K D L;go_wp2_with fail;refine CL.o.mono ?_;rintro e w4 ⟨⟨k8,n8,s8,J,H,I⟩,rfl,H4⟩;have Z:=(H4.o.2.block wr M).trans V.o.2;clear x0 x1 x2 x3 z y u t s r x10 M xf CL;obtain⟨x0,x1,x2,x3,z,y,u,t,s,r,x10,M,xf⟩:=yaB Z;have Ar:=zhd Z;clear Z;go_upto_region 7 with(fail);refine yaa ?_;intro w5 X;have Aj:w5.heap[wr.heap.size]? =some (.cells #[T,R,C,Q,P,O,N,k8,n8,s8,.slice J H I] 40 (0,0)):=by
     rw[X];have:=Ar.o;simp[World.setCell,zni,this]
    have K5:Keeps (fun j=>j=wr) w4 w5:=by rw[X];exact yct w4 wr.heap.size 7 8 9 10 _ _ _ _
    clear x0 x1 x2 x3 z y u t s r x10 M xf X;obtain⟨x0,x1,x2,x3,z,y,u,t,s,r,x10,M,_⟩:=yaB Aj;have n:Below wr wr w4:=V.o.1.trans (H4.o.2.mono V.o.1.size);have m:Below wr wr w5:=n.trans (K5.below n.size (fun jz hj e=>Nat.ne_of_lt hj e));have Ab:=A.o.2.2.1.size;have An:=V.o.1.size;have C5:CF (fun g=>wr<=g) w5 ⟨k8,n8,s8,J,H,I⟩ (yab ex):=((H4.o.1.mono (G:=fun g=>wr<=g/\g≠wr) (fun g B _=>by have B:w3<=g:=B;have:=zlt V.o.2;omega)).keep K5 (fun g B e=>B.2 e)).mono (fun g B _=>B.1);obtain⟨va,vl,vc,Am⟩:=ya9 A.o.1;subst Am;obtain⟨ks,Ak,d⟩:=(A.o.1.below m).cells;have Ao:ks.length<=i:=by
     rw[d.1,zmd];exact znf (List.length_filter_le _ _) (by rw[List.length_take];exact Nat.min_le_left _ _)
    have RA:=zhd (Ak.below ((znv w5.heap.size w5).alloc (znc _) (.cells #[T,R,C,Q,P,O,N,k8,n8,s8,.slice J H I] 40)));have Al:=zhd (show(ks.length+1)*128<=140737488355328/\ks.length+1<=maxLen from by have:=U.o.2.2.1;have:=U.o.2.2.2;unfold maxLen;omega);have H5:=zh3 d m C5;clear Aj K5 n m Ab An C5 Ak d Ao;go_wp2_with (at_builtin;refine ybG (α:=EC) ygh rfl (.tmp 18) (.tmp 20) rfl RA.o (⟨T,R,C,Q,P,O,N,⟨k8,n8,s8,J,H,I⟩⟩:EC) rfl rfl (znb _ _) Al.o.1 Al.o.2 ?_;intro a1 c1 w6 Ae Af Ah;have HF:=zh3 Ae Af Ah;clear Ae Af Ah);go_roundg (en - (i+1))
    case measure=>exact HM.o
    case rel=>
     have Ab:=A.o.2.2.1.size;have AP:=EsRel.app (x:=⟨T,R,C,Q,P,O,N,yab ex⟩) A.o.1 A.o.2.1 A.o.2.2.1 H5.o.2.1 H5.o.1 ⟨rfl,rfl,rfl,rfl,rfl,rfl,rfl,H5.o.2.2.mono (fun g B _=>⟨(by have B:wr<=g:=B;show W<=g;omega),fun e=>by have:=A.o.1.lt e;have B:wr<=g:=B;omega⟩)⟩ HF.o.1 HF.o.2.1 HF.o.2.2;exact⟨i+1,by simp[Ac],hin,rfl,by dsimp only;rw[A.o.2.2.2.2.1,ybS,show ydw [(⟨T,R,C,Q,P,O,N,ex⟩:Ev)]=[⟨T,R,C,Q,P,O,N,ex⟩] by unfold ydw;rw[List.filter_cons,if_pos (by show yaX C=true;exact HQ.o)];rfl,List.map_append];exact AP.1,AP.2.1,AP.2.2⟩
  .obtain rfl:i=en:=by omega
   have Au:¬(i:Int)<i:=by omega
   have hT:l.take i=l:=zmj (by rw[U.o.2.2.2];exact znc _);dsimp only at hX;rw[hT]at hX;have A:=zh3 hX hO hB;clear hX hO hB Ag hT hi;go_wp2;go_ret;exact⟨_,rfl,zhd A.o⟩
end Go.Proofs.YtpagmlndgblhhaaGreatDoor
namespace Go.Va
open Go.Own Go.RowKit
open Go.Proofs.YtpagmlndgblhhaaGreatDoor
set_option linter.unusedVariables false
structure Wr (p:Img)(fa:Fa)(b:BK)(n t last:Nat):Prop where
 bk:Bk p fa b n t
 lst:last<=b.list.length
 tail:∀e∈b.list.drop last,yaI e.kind=true
 nil:b.list=[]↔n=0
section
variable{p:Img} {fa:Fa} {b:BK} {n t last:Nat}
theorem ynR (S:St p fa (ms0 p)):Wr p fa ⟨[],false⟩ 0 0 0:=⟨yow S,znc _,fun e h=>(by cases h),⟨fun _=>rfl,fun _=>rfl⟩⟩
theorem Wr.out_ (W:Wr p fa b n t last)(K:Known p fa)(P:Pk p)(hsp:fa.span<=p.code.length+1)(ho:b.over=false){e:Ev}(h0:yae e=0)(hw:e.v.wf)(hk:yaI e.kind=true)(hf:e.kind=1↔n=0)(hg:e.kind=12->yfv b.list e.a=false)(hn:n+1<=30)(ht:t<=400000):Wr p fa (ycu b e) (n+1) t last:=by
 refine⟨W.bk.out_ K P hsp ho h0 hw hk (W.nil.trans hf.symm) hg hn ht,?_,?_,?_⟩
 .show last<=(b.list++[_]).length
  rw[znk];have:=W.lst;omega
 .intro x A
  have A:x∈(b.list++[({e with id:=(b.list.length:Int)+1}:Ev)]).drop last:=A;rw[List.drop_append_of_le_length W.lst]at A;rcases List.mem_append.1 A with A|A
  .exact W.tail x A
  .rw[List.mem_singleton.1 A];exact hk
 .show b.list++[_]=[]↔_
  constructor
  .intro h;simp at h
  .intro h;omega
theorem Wr.commit (W:Wr p fa b n t last)(ho:b.over=false)(h1:1<=n)(hn:n<=30)(ht:t+1<=400000){seen:Nat}(hs:last<=seen)(most:Int):
  (yan p (rp0 p) (b.list.take seen)).err=0/\(ybc p b seen most).1=true/\Wr p fa (ybc p b seen most).2 n (t+1) (ybc p b seen most).2.list.length:=by
 have A:b.list≠[]:=fun h=>by have:=W.nil.1 h;omega
 obtain⟨c1,c2,c3,B⟩:=W.bk.commit ho A hn ht (seen:=seen) (fun e he=>W.tail e (by
  rw[show seen=last+(seen - last) by omega,<-List.drop_drop]at he;exact List.mem_of_mem_drop he)) most
 refine⟨c1,c2,c3,znc _,fun e he=>(by rw[List.drop_length]at he;cases he),⟨fun h=>absurd h B,fun h=>by omega⟩⟩
end
def yeu (l:List Ev):List Int:=(l.filter (fun e=>e.kind==12)).map (·.a)
def ydc (p:Img)(l:List Ev):List Ev:=(NL (yeu l) (yc3 p (ms0 p) l).made).map evOfC
theorem HI.tells {p:Img}{l:List Ev}{r:RP}(H:HI p l r){k:Nat}{e x:Ev}(hk:l[k]? =some e)(hm:yaX e.kind=true)(hx:yae x=0)(hxm:yaX x.kind=true)(hid:x.id=e.id)(hne:ydb x≠ydb e):(yan p (rp0 p) (l.take k++[x])).err=150:=by
 have F:=(zge hk).1;have E:(l.take k++[e])++l.drop (k+1)=l:=by
  rw[List.append_assoc];show l.take k++e::l.drop (k+1)=l;rw[<-(zge hk).2,<-znr F,List.take_append_drop]
 have C:(yan p (rp0 p) ((l.take k++[e])++l.drop (k+1))).err=0:=by rw[E,H.fed];exact H.err
 have A:=yht C;have J:=yht A;rw[yc4,ybU J]at A|-;obtain⟨q,K⟩:∃q,yan p (rp0 p) (l.take k)=q:=⟨_,rfl⟩;rw[K]at J A|-;have A:(ybK p q e).1=0:=A;show(ybK p q x).1=150;have B:ycm q e=0:=by
  by_cases hw:ycm q e=0
  .exact hw
  .rw[yfr hw]at A;exact absurd A hw
 obtain⟨_,O,N,M⟩:=yeY B;have I:∀{y:Ev},yaX y.kind=true->y.kind≠1:=fun hy h=>by rw[h]at hy;exact absurd hy (by decide)
 have D:ycm q x=0:=ybH hx (hid.trans O) N ⟨fun h=>absurd (M.1 h) (I hm),fun h=>absurd h (I hxm)⟩;rw[ya0 B,if_neg (by rw[ycx hm];decide),if_pos hm]at A;rw[ya0 D,if_neg (by rw[ycx hxm];decide),if_pos hxm];split
 .rfl
 .rename_i c L
  rw[L]at A;dsimp only at A;split at A
  .rename_i G
   have G:=(yfx c e hm).1 G;rw[if_neg (fun h=>hne (((yfx c x hxm).1 h).trans G.symm))]
  .have A:(150:Int)=0:=A
   cases A
theorem yhq (l:List Ev)(e:Ev):yeu (l++[e])=bif e.kind==12 then yeu l++[e.a]else yeu l:=by
 unfold yeu;rw[List.filter_append,List.filter_cons];cases(e.kind==12)<;>simp
theorem yfa (p:Img)(s:MS)(l:List Ev)(e:Ev):yc3 p s (l++[e])=(yat p (yc3 p s l) e).2:=by rw[yge];rfl
end Go.Va
namespace Go.Proofs.YtpagmlndgblhhaaGreatDoor
open Go.RowKit Go.Own Go.Own.MapTy Go.Va Go.Sort
open Go.Own.Cells (sz enc)
set_option linter.unusedVariables false
set_option linter.unusedSimpArgs false
def yoD (W:World)(p:Img)(er:Int)(l:List Ev)(e:Ending)(w':World):Prop:=
 (er≠0/\e= .returned (.tuple #[.slice none 0 0,er])/\Hid (Below W W w'))\/(er=0/\∃r:Value,e= .returned (.tuple #[r,.int .i64 0])/\Hid (XRow (fun g=>W<=g) w' 40 r (ydc (yaf p) l)/\(∀g,r.ownBlock=some g->W.heap.size<=g)/\Below W W w'))
def yqm (w5:World)(mb n:Nat)(l:List Ev)(gk:Nat)(v27:Value)(wr:World):Prop:=
 ∃(i:Nat) (cs:List Int),v27= .int .i64 i/\i<=n/\gk=n - i/\MapAt NM wr mb (mOf cs)/\(∀a,a∈cs↔a∈yeu (l.take i))/\Keeps (fun j=>j=mb) w5 wr
def yql (w6:World)(Z:Nat->Prop)(p:Img)(fa:Fa)(b:Nat)(v:MV)(n:Nat)(l:List Ev)(gk:Nat)(v40:Value)(wr:World):Prop:=
 ∃(i:Nat) (v':MV),v40= .int .i64 i/\i<=n/\gk=n - i/\MX TT Z wr b v' p (yc3 p (ms0 p) (l.take i))/\MK b v w6 v' wr/\St p fa (yc3 p (ms0 p) (l.take i))/\(yc3 p (ms0 p) (l.take i)).events<=i
def yqk (w1:World)(n:Nat)(F:List Int)(L:List Cm)(gk:Nat)(v51 v13:Value)(wr:World):Prop:=
 ∃i:Nat,v51= .int .i64 i/\i<=n/\gk=n - i/\XRow (fun g=>w1<=g/\¬v13.ownBlock=some g) wr 40 v13 ((NL F (L.take i)).map evOfC)/\(∀g,v13.ownBlock=some g->w1.heap.size<=g)/\Below w1 w1 wr
theorem yiL {N:Nat}(F:Nat->Prop)(W:World)(G:Gl Tryz.prog N W)(i:IC)(p:Img)(H:IAt F W i p)(hw:∀x∈p.consts,x.wf)(r:Fa×Int×Int)(hr:yaY p=r)
  (ea:Option Addr)(en ec:Nat)(l:List Ev)(E:XRd (fun j=>j<W) W (.slice ea en ec) l)(hew:∀e∈l,e.v.wf)(hl:l.length<=30):
  Calls Tryz.prog 29 #[.agg #[.slice i.ca i.cn i.cc,.slice i.ka i.kn i.kc,.slice i.na i.nn i.nc,i.pl],.slice ea en ec] W (yoD W p r.2.2 l):=by
 have Bb:l.length=en:=by obtain⟨a,c,h⟩:=E.slice;cases h;rfl
 obtain⟨w0,Al⟩:∃w0,w0=W.alloc (.cells #[.slice i.ca i.cn i.cc,.slice i.ka i.kn i.kc,.slice i.na i.nn i.nc,i.pl] 28):=⟨_,rfl⟩;have B0:=zba Al;have hB:=zha Al;have NW:=zhd (yhf F w0 i p (H.keep (S:=fun _=>False) (zkb B0) (fun _ _ f=>f)) hw r hr);obtain⟨c0,c1,c2,c3,l0⟩:=zq4 hB;have O:=zh7 B0 E hew hl hw G Bb;have HR:=zhd hr;clear B0 hB H hw hr E hew hl G Bb;go_in;go_wp2_with fail;rw[<-Al];clear Al;refine NW.o.mono ?_;obtain⟨fa,at_,er⟩:=r;dsimp only;rintro e w1 (⟨Au,rfl,H1⟩|⟨rfl,b,v,rfl,H1⟩)
 .have n1:(er==0)=false:=by rw[zna];exact Au
  have n2:(er !=0)=true:=by unfold bne;rw[n1];rfl
  have HN:=zhd Au;have HB:=zhd (O.o.1.trans (H1.o.mono O.o.1.size));clear Au H1;go_wp2_with fail;exact zng (v:=.tuple #[.slice none 0 0,er]) (by simp only[results,Tryz.results29];go_simp) rfl (.inl ⟨HN.o,rfl,HB⟩)
 .obtain⟨K,P,A7,S⟩:=ydM O.o.2.2.2.2.1 HR.o
  have Bm:= @run_makeMap Tryz.prog;have HK:=zh4 K P A7 S;have Bl:W<w0.heap.size:=l0;obtain⟨mb,Av⟩:∃mb,mb=w1.heap.size:=⟨_,rfl⟩;obtain⟨w5,Ab⟩:∃w5,w5=w1.alloc (.map #[] 0):=⟨_,rfl⟩;have M5:MapAt NM w5 mb (mOf []):=by rw[Av,Ab];exact⟨#[],0,znb _ _,rfl,by simp[mOf]⟩
  have B5:=zba Ab;have Bg:Below W W w5:=O.o.1.trans ((H1.o.2.2.trans (B5.mono H1.o.2.2.size)).mono O.o.1.size);have X5:MX TT (fun q=>W<=q/\¬q=mb) w5 b v (yaf p) (ms0 (yaf p)):=(H1.o.1.monoZ (fun j hj hl=>⟨(show W<=j by have hj:w0<=j:=hj;omega),by omega⟩)).ext B5;have O5:∀j,MO v b j->W.heap.size<=j/\¬j=mb:=fun j hj=>⟨by have:=H1.o.2.1 j hj;omega,by have:=H1.o.1.lt hj;omega⟩;have A9:W<=mb/\mb<w5.heap.size:=⟨by have:=H1.o.2.2.size;omega,by rw[Ab];simp;omega⟩;have HL:=zh5 M5 Bg X5 O5 A9;clear K P A7 S NW M5 B5 Bg X5 O5 A9 H1 Bl c0 c1 c2 c3 l0;go_wp2_with fail;rw[<-Ab,<-Av];clear Ab Bm Av;go_loopg [27] en (fun gk v27 wr=>yqm w5 mb en l gk v27 wr)
  case atStart=>exact⟨0,[],rfl,znq _,rfl,HL.o.1,(fun a=>⟨fun h=>(by cases h),fun h=>(by simp[yeu]at h)⟩),Keeps.refl _ _⟩
  case round=>
   obtain⟨j,cs,rfl,hj,U,hM,d,hK⟩:=hrel;have J:mb<wr.heap.size:=by obtain⟨es,I,z,_⟩:=hM;exact zlt z
   by_cases hjn:j<en
   .obtain⟨e,he⟩:=yac (l:=l) (k:=j) (by rw[O.o.2.2.2.2.2.2];exact hjn)
    obtain⟨g,A3,vk,vn,vs,la,ln,lc,rfl,y,M,dv,y0,y1,y2,y3,y4,y5,y6,y7,y8,y9,y10⟩:=yc5 O.o.2.1 he;have Q:Below W W wr:=HL.o.2.1.trans (hK.below HL.o.2.1.size (fun q hq e=>by have:=HL.o.2.2.2.2.1;omega));rw[<-Q.cell (p:=⟨g,_,none⟩) M]at y0 y1 y2 y3 y4 y5 y6 y7 y8 y9 y10;have Ag:g<wr:=znj M Q.size;have Br:(j:Int)<(en:Int):=by omega
    have Be:=zhd (show wrap64 ((j:Int)+1)=(j:Int)+1 by have z:=O.o.2.2.2.1;have h2:=O.o.2.2.2.2.2.2;unfold wrap64;omega);have T:l.take (j+1)=l.take j++[e]:=by rw[List.take_add_one,he];rfl
    have HM:=zhd (show en - (j+1)<gk by omega);obtain⟨e0,e1,e2,e3,e4,e5,e6,ex⟩:=e;dsimp only at y0 y1 y2 y3 y4 y5 y6;have V:=yhq (l.take j) ⟨e0,e1,e2,e3,e4,e5,e6,ex⟩;rw[<-T]at V;dsimp only at V;clear dv he y U Q T;by_cases h12:e2=12
    .subst h12
     rw[show((12:Int)==12)=true from rfl,znm]at V;obtain⟨ob,A6,Aq⟩:=MapAt.store hM ylO Tryz.underlying57 e3 true;replace A6:∀X:World,ydU wr mb X->(Instr.mapUpdate 57 (.map (some mb)) (.int .i64 e3) (.bool true)).run Tryz.prog X= .ok () (setBlock X mb ob):=A6;have HH:=zh5 Aq d hK V J;clear hM d hK Aq V;have As:=Be.o;go_upto_region 8 with(fail);refine yaa ?_;intro w8 Y;have An:=zha Y;have B8:=zba Y;have Bu:ydU wr mb w8:=by unfold ydU blk;rw[B8.block mb J]
     have Bn:mb<w8.heap.size:=znj J B8.size;have A2:=zhd B8;clear y0 y1 y2 y3 y4 y5 y6 y7 y8 y9 y10 Ag M Y B8 J;obtain⟨x0,x1,x2,x3,x4,x5,x6,x7,x8,x9,x10,xl,_⟩:=yaB An;have Bt:setBlock w8 mb ob=setBlock w8 mb ob:=rfl;go_wp2_with fail;go_roundg (en - (j+1))
     case measure=>exact HM.o
     case rel=>exact⟨j+1,e3::cs,by simp[As],hjn,rfl,HH.o.1 _ (yce _ _ _ Bn),(fun a=>by rw[HH.o.2.2.2.1,List.mem_append,List.mem_singleton,List.mem_cons,HH.o.2.1 a,or_comm]),(HH.o.2.2.1.trans ((zkb (S:=fun _=>False) A2.o).mono (fun _ _ f=>f.elim)) (fun _ _ e=>e)).trans ((Keeps.refl (fun j=>j=mb) w8).setBlock (b:=mb) (.inl rfl) ob) (fun _ _ e=>e)⟩
    .have Bh:(e2==12)=false:=by rw[zna];exact h12
     rw[Bh,znl]at V;have HH:=zh5 hM d hK V J;clear hM d hK V h12;have As:=Be.o;go_wp2_with fail;go_roundg (en - (j+1))
     case measure=>exact HM.o
     case rel=>exact⟨j+1,cs,by simp[As],hjn,rfl,ycr HH.o.1 (zal),(fun a=>by rw[HH.o.2.2.2.1];exact HH.o.2.1 a),HH.o.2.2.1.trans ((zkb (S:=fun _=>False) (zal)).mono (fun _ _ f=>f.elim)) (fun _ _ e=>e)⟩
   .obtain rfl:j=en:=by omega
    have Bz:¬(j:Int)<j:=by omega
    have hT:l.take j=l:=zmj (by rw[O.o.2.2.2.2.2.2];exact znc _);rw[hT]at d;have X6:MX TT (fun q=>W<=q/\¬q=mb) wr b v (yaf p) (ms0 (yaf p)):=HL.o.2.2.1.far hK (fun q e h=>(HL.o.2.2.2.1 q h).2 e) (fun q e h=>h.2 e);have B6:Below W W wr:=HL.o.2.1.trans (hK.below HL.o.2.1.size (fun q hq e=>by have:=HL.o.2.2.2.2.1;omega));have H6:=zh5 hM d X6 B6 J;obtain⟨w6,Bk⟩:∃w6,w6=wr:=⟨_,rfl⟩;subst Bk;clear hM d hK U J hj X6 B6 hT;go_wp2_with fail;go_loopg [40] j (fun gk v40 wr=>yql w6 (fun q=>W<=q/\¬q=mb) (yaf p) fa b v j l gk v40 wr)
    case atStart=>exact⟨0,v,rfl,znq _,rfl,H6.o.2.2.1,MK.refl _ _ _,HK.o.2.2.2,znc _⟩
    case round=>
     obtain⟨k,v1,rfl,hk,U,M1,K1,S1,Am⟩:=hrel;have O1:∀q,MO v1 b q->(W.heap.size<=q/\¬q=mb):=fun q hq=>(K1.own q hq).elim (HL.o.2.2.2.1 q) (fun h=>⟨by have:=H6.o.2.2.2.1.size;omega,by have:=H6.o.2.2.2.2;omega⟩);have Q:Below W W wr:=H6.o.2.2.2.1.trans (K1.keeps.below H6.o.2.2.2.1.size (fun q hq e=>by have:=(HL.o.2.2.2.1 q e).1;omega));have Bd:=zlt M1.h;by_cases hkn:k<j
     .obtain⟨e,he⟩:=yac (l:=l) (k:=k) (by rw[O.o.2.2.2.2.2.2];exact hkn)
      obtain⟨g,A3,vk,vn,vs,la,ln,lc,rfl,y,M,dv,y0,y1,y2,y3,y4,y5,y6,y7,y8,y9,y10⟩:=yc5 O.o.2.1 he;rw[<-Q.cell (p:=⟨g,_,none⟩) M]at y0 y1 y2 y3 y4 y5 y6 y7 y8 y9 y10;have Ag:g<wr:=znj M Q.size;have Bq:(k:Int)<(j:Int):=by omega
      have Bp:=zhd (show wrap64 ((k:Int)+1)=(k:Int)+1 by have z:=O.o.2.2.2.1;have h2:=O.o.2.2.2.2.2.2;unfold wrap64;omega);have T:l.take (k+1)=l.take k++[e]:=by rw[List.take_add_one,he];rfl
      have HM:=zhd (show j - (k+1)<gk by omega);have At:=O.o.2.2.1 e (zmg he);have Z:(yc3 (yaf p) (ms0 (yaf p)) (l.take k)).events<=30:=by have z:=O.o.2.2.2.1;have h2:=O.o.2.2.2.2.2.2;omega
      obtain⟨S2,Ar⟩:=S1.apply HK.o.1 HK.o.2.1 HK.o.2.2.1 e At Z;rw[<-yfa,<-T]at S2 Ar;have R:=zh8 M1 K1 S1 O1 Q dv At (zai Z (zai S2 (zai (show(yc3 (yaf p) (ms0 (yaf p)) (l.take (k+1))).events<=k+1 by omega) (zai y T))));clear M1 K1 S1 Am O1 Q he T At Z S2 Ar dv y U;obtain⟨e0,e1,e2,e3,e4,e5,e6,ex⟩:=e;dsimp only at y0 y1 y2 y3 y4 y5 y6;go_upto_region 14 with(fail);refine yaa ?_;intro w8 Y;have An:=zha Y;have B8:=zba Y;clear y0 y1 y2 y3 y4 y5 y6 y7 y8 y9 y10 Ag Y Bd;obtain⟨x0,x1,x2,x3,x4,x5,x6,x7,x8,x9,x10,xl,_⟩:=yaB An;have Ap:=R.o.2.2.2.2.1.trans (B8.mono R.o.2.2.2.2.1.size);have AP:=zhd (ygC b v1 (yaf p) _ w8 (R.o.1.ext B8) (O.o.2.2.2.2.2.1.below Ap) fa HK.o.1 HK.o.2.1 HK.o.2.2.1 R.o.2.2.1 R.o.2.2.2.2.2.2.2.1 (fun q hq=>⟨by have:=Ap.size;omega,by have z:=H6.o.2.2.2.2;have h2:=R.o.2.1.keeps.size;have h3:=B8.size;omega⟩) e0 e1 e2 e3 e4 e5 e6 ex vk vn vs la ln lc (fun q=>q<W) (R.o.2.2.2.2.2.1.keep (S:=fun _=>False) (zkb Ap) (fun _ _ f=>f)) R.o.2.2.2.2.2.2.1 (fun q hq e=>by have:=(R.o.2.2.2.1 q e).1;have hq:q<W:=hq;omega) _ rfl);have A2:=zhd B8;clear B8 An Ap
      go_wp2_with fail;refine AP.o.mono ?_;rintro e w9 ⟨v9,rfl,H9⟩;clear x0 x1 x2 x3 x4 x5 x6 x7 x8 x9 x10 xl AP;have Bj:=Bp.o;go_wp2_with fail;go_roundg (j - (k+1))
      case measure=>exact HM.o
      case rel=>exact⟨k+1,v9,by simp[Bj],hkn,rfl,by rw[R.o.2.2.2.2.2.2.2.2.2.2.2,yfa];exact H9.o.1,(R.o.2.1.trans (MK.ext A2.o)).trans H9.o.2,R.o.2.2.2.2.2.2.2.2.1,R.o.2.2.2.2.2.2.2.2.2.1⟩
     .obtain rfl:k=j:=by omega
      have By:¬(k:Int)<k:=by omega
      have hT:l.take k=l:=zmj (by rw[O.o.2.2.2.2.2.2];exact znc _);rw[hT]at M1 S1 Am;obtain⟨s,hs⟩:∃s,yc3 (yaf p) (ms0 (yaf p)) l=s:=⟨_,rfl⟩;rw[hs]at M1 S1 Am;have Ba:k<=30:=by have z:=O.o.2.2.2.1;have h2:=O.o.2.2.2.2.2.2;omega
      have J:s.made.length<=700000:=by have z:=S1.bd;omega
      have MD:=zhd (yfu b v1 _ s wr M1 (ykk S1) (by omega));have A5:MapAt NM wr mb (mOf cs):=by
       obtain⟨es,I,z,h2⟩:=H6.o.1;exact⟨es,I,(K1.keeps.block mb H6.o.2.2.2.2 (fun e=>(HL.o.2.2.2.1 mb e).2 rfl)).trans z,h2⟩
      have R:=zh5 Q hs S1 J A5;clear M1 K1 S1 Am O1 Q hT hs J U Ba A5 Bd;go_wp2_with fail;refine MD.o.mono ?_;rintro e w7 ⟨r7,rfl,H8⟩;obtain⟨am,cm,rfl⟩:∃a c,r7= .slice a (s.made.map yaD).length c:=H8.o.1.slice;obtain⟨L,hL⟩:∃L,L=s.made.map yaD:=⟨_,rfl⟩;rw[<-hL];obtain⟨n,hn⟩:∃n,L.length=n:=⟨_,rfl⟩;have E7:XRd (fun g=>g<w7) w7 (.slice am n cm) L:=by rw[<-hn,hL];exact H8.o.1.rd (fun g _ h=>h) (fun g M=>H8.o.1.lt M)
      have Bf:=R.o.1.trans (H8.o.2.2.mono R.o.1.size);have A4:=ycr R.o.2.2.2.2 H8.o.2.2;have u:=zh6 E7 Bf A4 hL hn (show n<=700000 by rw[<-hn,hL,zmd];exact R.o.2.2.2.1);rw[hn];clear E7 Bf A4 MD H8 hn hL;go_wp2_with fail;go_loopg [51,13] n (fun gk v51 v13 wr=>yqk w7 n cs L gk v51 v13 wr)
      case atStart=>exact⟨0,rfl,znq _,rfl,XRow.nil _ _ _,(fun g h=>by cases h),znv _ _⟩
      case round=>
       obtain⟨i,rfl,hi,U,hX,hO,hB⟩:=hrel;by_cases hin:i<n
       .obtain⟨c,hc⟩:=yac (l:=L) (k:=i) (by rw[u.o.2.2.2.2.1];exact hin)
        obtain⟨g,A3,vk,vn,vs,la,ln,lc,rfl,y,M,dv,y0,y1,y2,y3,y4,y5,y6,y7,y8⟩:=ykY u.o.1 hc;rw[<-hB.cell (p:=⟨g,_,none⟩) M]at y0 y1 y2 y3 y4 y5 y6 y7 y8;have Ag:g<wr:=znj M hB.size;have Bs:(i:Int)<(n:Int):=by omega
        have A0:=zhd (show wrap64 ((i:Int)+1)=(i:Int)+1 by have:=u.o.2.2.2.2.2;unfold wrap64;omega);have T:L.take (i+1)=L.take i++[c]:=by rw[List.take_add_one,hc];rfl
        have A1:=zhd (show n - (i+1)<gk by omega);have Bc:yaV c=0/\szV c.v<=1073741824:=by
         have hm:=zmg hc;rw[u.o.2.2.2.1]at hm;obtain⟨c0,Bo,rfl⟩:=List.mem_map.1 hm;have A8:=R.o.2.2.1.rk.vs.mds c0 Bo;have Az:=yfG A8.1 A8.2;have:=ycZ (x:=(yaD c0).v) ⟨yo5 Az.1,Az.2⟩;exact⟨Az.1,by omega⟩
        have D:=zh6 hX hO hB dv T Bc;have J:mb<wr.heap.size:=by
         obtain⟨es,I,z,_⟩:=u.o.2.2.1;exact znj (zlt z) hB.size
        clear hX hO hB dv T Bc hc y U hi;obtain⟨I,B,ca,C,cn,A⟩:=c;dsimp only at y0 y1 y2 y3 y4;go_upto_region 20 with(fail);refine yaa ?_;intro w2 Ac;have B2:=zba Ac;have Ai:=zha Ac;have M2:=ycr u.o.2.2.1 (D.o.2.2.1.trans (B2.mono D.o.2.2.1.size));have H2:=zh2 B2 Ai;clear y0 y1 y2 y3 y4 y5 y6 y7 y8 Ag M Ac B2 J;by_cases hk2:I=2
        .subst hk2
         obtain⟨lt,Ax⟩:∃lt,decide (ca∈cs)=lt:=⟨_,rfl⟩;have Bx:=fun X hX=>yhe M2 ca lt Ax X hX;have Ao:=zhd (show yaU cs (⟨2,B,ca,C,cn,A⟩:Cm)=lt by unfold yaU;rw[<-Ax];rfl);clear Ax M2;cases lt with
         |true=>
          obtain⟨x0,x1,x2,x3,x4,x5,x6,x7,x8,xl,_⟩:=ygt Ai;clear Ai;have Aa:=A0.o;go_wp2_with fail;go_roundg (n - (i+1))
          case measure=>exact A1.o
          case rel=>exact⟨i+1,by simp[Aa],hin,rfl,by rw[D.o.2.2.2.2.1,yeL,Ao.o];exact D.o.1.below H2.o.1,D.o.2.1,D.o.2.2.1.trans (H2.o.1.mono D.o.2.2.1.size)⟩
         |false=>
          clear Ai;obtain⟨x0,x1,x2,x3,x4,x5,x6,x7,x8,xl,_⟩:=ygt H2.o.2;have CE:=zhd (yca (⟨2,B,ca,C,cn,A⟩:Cm) D.o.2.2.2.2.2.1 D.o.2.2.2.2.2.2 vk vn vs la ln lc (fun g=>g<w7) w2 (D.o.2.2.2.1.keep (S:=fun _=>False) (zkb (D.o.2.2.1.trans (H2.o.1.mono D.o.2.2.1.size))) (fun _ _ f=>f)));go_wp2_with fail;refine CE.o.mono ?_;rintro e w3 ⟨uk,un,us,ua,ul,uc,rfl,H3⟩;clear x0 x1 x2 x3 x4 x5 x6 x7 x8 xl CE;obtain⟨va,vl,vc,Ad⟩:=ya9 D.o.1;subst Ad;have t:=H2.o.1.trans (H3.o.2.mono H2.o.1.size);obtain⟨ks,Aj,m⟩:=(D.o.1.below t).cells;have Ay:ks.length<=i:=by
           rw[m.1,zmd];exact znf (List.length_filter_le _ _) (by rw[List.length_take];exact Nat.min_le_left _ _)
          have RA:=zhd (Aj.below ((znv w3.heap.size w3).alloc (znc _) (.cells #[(evOfC (⟨2,B,ca,C,cn,A⟩:Cm)).id,(evOfC (⟨2,B,ca,C,cn,A⟩:Cm)).time,(evOfC (⟨2,B,ca,C,cn,A⟩:Cm)).kind,(evOfC (⟨2,B,ca,C,cn,A⟩:Cm)).a,(evOfC (⟨2,B,ca,C,cn,A⟩:Cm)).b,(evOfC (⟨2,B,ca,C,cn,A⟩:Cm)).name,(evOfC (⟨2,B,ca,C,cn,A⟩:Cm)).text,uk,un,us,.slice ua ul uc] 40)));have Ak:=zhd (show(ks.length+1)*128<=140737488355328/\ks.length+1<=maxLen from by have:=u.o.2.2.2.2.2;unfold maxLen;omega);have H4:=zh2 m t;clear Aj m Ay t;have Aa:=A0.o;go_wp2_with (at_builtin;refine ybG (α:=EC) ygh rfl (.tmp 65) (.tmp 68) rfl RA.o (⟨(evOfC (⟨2,B,ca,C,cn,A⟩:Cm)).id,(evOfC (⟨2,B,ca,C,cn,A⟩:Cm)).time,(evOfC (⟨2,B,ca,C,cn,A⟩:Cm)).kind,(evOfC (⟨2,B,ca,C,cn,A⟩:Cm)).a,(evOfC (⟨2,B,ca,C,cn,A⟩:Cm)).b,(evOfC (⟨2,B,ca,C,cn,A⟩:Cm)).name,(evOfC (⟨2,B,ca,C,cn,A⟩:Cm)).text,⟨uk,un,us,ua,ul,uc⟩⟩:EC) rfl rfl (znb _ _) Ak.o.1 Ak.o.2 ?_;intro a1 c1 w6 Ae Af Ah;have HF:=zh3 Ae Af Ah;clear Ae Af Ah);go_roundg (n - (i+1))
          case measure=>exact A1.o
          case rel=>
           have Bi:=D.o.2.2.1.size;have Ac:=H2.o.1.size;have hx:EvF (fun g=>w7<=g/\¬(Value.slice va vl vc).ownBlock=some g) w3 (⟨(evOfC (⟨2,B,ca,C,cn,A⟩:Cm)).id,(evOfC (⟨2,B,ca,C,cn,A⟩:Cm)).time,(evOfC (⟨2,B,ca,C,cn,A⟩:Cm)).kind,(evOfC (⟨2,B,ca,C,cn,A⟩:Cm)).a,(evOfC (⟨2,B,ca,C,cn,A⟩:Cm)).b,(evOfC (⟨2,B,ca,C,cn,A⟩:Cm)).name,(evOfC (⟨2,B,ca,C,cn,A⟩:Cm)).text,⟨uk,un,us,ua,ul,uc⟩⟩:EC) (evOfC (⟨2,B,ca,C,cn,A⟩:Cm)):=⟨rfl,rfl,rfl,rfl,rfl,rfl,rfl,H3.o.1.mono (fun g M _=>⟨(by have M:w2<=g:=M;show w7<=g;omega),fun e=>by have:=D.o.1.lt e;have M:w2<=g:=M;omega⟩)⟩;have AP:=EsRel.app D.o.1 D.o.2.1 D.o.2.2.1 H4.o.2 H4.o.1 hx HF.o.1 HF.o.2.1 HF.o.2.2;exact⟨i+1,by simp[Aa],hin,rfl,by rw[D.o.2.2.2.2.1,yeL,Ao.o,znl,List.map_append];exact AP.1,AP.2.1,AP.2.2⟩
        .have n2:(I==2)=false:=by rw[zna];exact hk2
         have n3:(I !=2)=true:=by unfold bne;rw[n2];rfl
         have Ao:=zhd (show yaU cs (⟨I,B,ca,C,cn,A⟩:Cm)=false by unfold yaU;rw[n2];rfl);clear Ai M2 hk2;obtain⟨x0,x1,x2,x3,x4,x5,x6,x7,x8,xl,_⟩:=ygt H2.o.2;have CE:=zhd (yca (⟨I,B,ca,C,cn,A⟩:Cm) D.o.2.2.2.2.2.1 D.o.2.2.2.2.2.2 vk vn vs la ln lc (fun g=>g<w7) w2 (D.o.2.2.2.1.keep (S:=fun _=>False) (zkb (D.o.2.2.1.trans (H2.o.1.mono D.o.2.2.1.size))) (fun _ _ f=>f)));go_wp2_with fail;refine CE.o.mono ?_;rintro e w3 ⟨uk,un,us,ua,ul,uc,rfl,H3⟩;clear x0 x1 x2 x3 x4 x5 x6 x7 x8 xl CE;obtain⟨va,vl,vc,Ad⟩:=ya9 D.o.1;subst Ad;have t:=H2.o.1.trans (H3.o.2.mono H2.o.1.size);obtain⟨ks,Aj,m⟩:=(D.o.1.below t).cells;have Ay:ks.length<=i:=by
          rw[m.1,zmd];exact znf (List.length_filter_le _ _) (by rw[List.length_take];exact Nat.min_le_left _ _)
         have RA:=zhd (Aj.below ((znv w3.heap.size w3).alloc (znc _) (.cells #[(evOfC (⟨I,B,ca,C,cn,A⟩:Cm)).id,(evOfC (⟨I,B,ca,C,cn,A⟩:Cm)).time,(evOfC (⟨I,B,ca,C,cn,A⟩:Cm)).kind,(evOfC (⟨I,B,ca,C,cn,A⟩:Cm)).a,(evOfC (⟨I,B,ca,C,cn,A⟩:Cm)).b,(evOfC (⟨I,B,ca,C,cn,A⟩:Cm)).name,(evOfC (⟨I,B,ca,C,cn,A⟩:Cm)).text,uk,un,us,.slice ua ul uc] 40)));have Ak:=zhd (show(ks.length+1)*128<=140737488355328/\ks.length+1<=maxLen from by have:=u.o.2.2.2.2.2;unfold maxLen;omega);have H4:=zh2 m t;clear Aj m Ay t;have Aa:=A0.o;go_wp2_with (at_builtin;refine ybG (α:=EC) ygh rfl (.tmp 65) (.tmp 68) rfl RA.o (⟨(evOfC (⟨I,B,ca,C,cn,A⟩:Cm)).id,(evOfC (⟨I,B,ca,C,cn,A⟩:Cm)).time,(evOfC (⟨I,B,ca,C,cn,A⟩:Cm)).kind,(evOfC (⟨I,B,ca,C,cn,A⟩:Cm)).a,(evOfC (⟨I,B,ca,C,cn,A⟩:Cm)).b,(evOfC (⟨I,B,ca,C,cn,A⟩:Cm)).name,(evOfC (⟨I,B,ca,C,cn,A⟩:Cm)).text,⟨uk,un,us,ua,ul,uc⟩⟩:EC) rfl rfl (znb _ _) Ak.o.1 Ak.o.2 ?_;intro a1 c1 w6 Ae Af Ah;have HF:=zh3 Ae Af Ah;clear Ae Af Ah);go_roundg (n - (i+1))
         case measure=>exact A1.o
         case rel=>
          have Bi:=D.o.2.2.1.size;have Ac:=H2.o.1.size;have hx:EvF (fun g=>w7<=g/\¬(Value.slice va vl vc).ownBlock=some g) w3 (⟨(evOfC (⟨I,B,ca,C,cn,A⟩:Cm)).id,(evOfC (⟨I,B,ca,C,cn,A⟩:Cm)).time,(evOfC (⟨I,B,ca,C,cn,A⟩:Cm)).kind,(evOfC (⟨I,B,ca,C,cn,A⟩:Cm)).a,(evOfC (⟨I,B,ca,C,cn,A⟩:Cm)).b,(evOfC (⟨I,B,ca,C,cn,A⟩:Cm)).name,(evOfC (⟨I,B,ca,C,cn,A⟩:Cm)).text,⟨uk,un,us,ua,ul,uc⟩⟩:EC) (evOfC (⟨I,B,ca,C,cn,A⟩:Cm)):=⟨rfl,rfl,rfl,rfl,rfl,rfl,rfl,H3.o.1.mono (fun g M _=>⟨(by have M:w2<=g:=M;show w7<=g;omega),fun e=>by have:=D.o.1.lt e;have M:w2<=g:=M;omega⟩)⟩;have AP:=EsRel.app D.o.1 D.o.2.1 D.o.2.2.1 H4.o.2 H4.o.1 hx HF.o.1 HF.o.2.1 HF.o.2.2;exact⟨i+1,by simp[Aa],hin,rfl,by rw[D.o.2.2.2.2.1,yeL,Ao.o,znl,List.map_append];exact AP.1,AP.2.1,AP.2.2⟩
       .obtain rfl:i=n:=by omega
        have Bv:¬(i:Int)<i:=by omega
        have hT:L.take i=L:=zmj (by rw[u.o.2.2.2.2.1];exact znc _);rw[hT]at hX;obtain⟨va,vl,vc,Ad⟩:=ya9 hX;subst Ad;have D:=zh3 (hX.mono (G:=fun g=>W<=g) (fun g h _=>by have:=u.o.2.1.size;have z:=h.1;omega)) (fun g M=>znf u.o.2.1.size (hO g M)) (u.o.2.1.trans (hB.mono u.o.2.1.size));have hq:(NL cs L).map evOfC=ydc (yaf p) l:=by
         rw[u.o.2.2.2.1];unfold ydc;rw[R.o.2.1,<-yoP H6.o.2.1];unfold NL;rw[List.filter_map,List.map_map]
         congr 1
         funext c
         exact ydj c
        have HQ:=zhd hq;clear hX hO hB U hT hi hq;go_wp2_with fail;exact zng (v:=.tuple #[.slice va vl vc,.int .i64 0]) (by simp only[results,Tryz.results29];go_simp) rfl (.inr ⟨rfl,_,rfl,zhd ⟨by rw[<-HQ.o];exact D.o.1,D.o.2⟩⟩)
end Go.Proofs.YtpagmlndgblhhaaGreatDoor
