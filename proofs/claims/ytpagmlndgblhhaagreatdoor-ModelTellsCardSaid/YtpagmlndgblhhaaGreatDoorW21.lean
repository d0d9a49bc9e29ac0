/- Parts of the proof: what the functions and the plain laws give that later parts lean on. Conditions: none beyond those that each theorem names. -/
import Derived.Test.YtpagmlndgblhhaaGreatDoorW20
set_option maxRecDepth 100000
set_option maxHeartbeats 8000000
namespace Go.Va
open Go.Own Go.RowKit
open Go.Proofs.YtpagmlndgblhhaaGreatDoor
set_option linter.unusedVariables false
theorem ykc (r:RM)(c:Cm):rmC r (ybh c)=rmC r c:=by
 unfold rmC;rw[show evOfC (ybh c)=evOfC c from yff c];rfl
theorem ye7:∀(cs:List Cm) (r:RM),(cs.map ybh).foldl rmC r=cs.foldl rmC r
 |[],r=>rfl
 |c::cs,r=>by rw[List.map_cons,List.foldl_cons,List.foldl_cons,ykc,ye7 cs]
theorem ylG {p:Img}{r:RM}{x:Ev}(h:(r.over||((x.kind==12)&&decide (x.a∈r.gone)))=true):rmX p r x=(0,r):=by
 unfold rmX;rw[h];rfl
theorem ym2 {p:Img}{r:RM}{x:Ev}{rc:Int}{s1:MS}(h:(r.over||((x.kind==12)&&decide (x.a∈r.gone)))=false)(ha:yah p r.m x=(rc,s1))(hr:rc≠0):rmX p r x=(rc,r):=by
 unfold rmX;rw[h,ha,show((rc,s1).1 !=0)=true by simpa using hr];rfl
theorem ylH {p:Img}{r:RM}{x:Ev}{s1:MS}(h:(r.over||((x.kind==12)&&decide (x.a∈r.gone)))=false)(ha:yah p r.m x=(0,s1)):rmX p r x=(0,((s1.made.drop s1.taken).map ybh).foldl rmC ⟨{s1 with taken:=s1.made.length},r.o++[x],r.gone,if x.kind=12 then x.a::r.fired else r.fired,yaG x.kind⟩):=by
 unfold rmX;rw[h,ha,ye7];rfl
theorem ymt {p:Img}{r r':RM}{l:List Ev}{j:Nat}{x:Ev}(hx:l[j]? =some x)(h:rmX p r x=(0,r')):rmL p r (l.drop j)=rmL p r' (l.drop (j+1)):=by
 obtain⟨A,hx⟩:=zge hx;rw[znr A,hx,rmL,h];rfl
theorem ym3 {p:Img}{r r':RM}{l:List Ev}{j:Nat}{x:Ev}{rc:Int}(hx:l[j]? =some x)(h:rmX p r x=(rc,r'))(hr:rc≠0):rmL p r (l.drop j)=(rc,r'):=by
 obtain⟨A,hx⟩:=zge hx;rw[znr A,hx,rmL,h,show((rc,r').1 !=0)=true by simpa using hr];rfl
def RoK (A:List Ev)(k:Nat):Prop:=(∀e∈A,Okv e.v/\ydT e.kind=false)/\A.length<=k
theorem RoK.app {A:List Ev}{k:Nat}(h:RoK A k){x:Ev}(hx:Okv x.v/\ydT x.kind=false):RoK (A++[x]) (k+1):=by
 refine⟨fun e B=> ?_,by rw[znk,zmh];exact Nat.succ_le_succ h.2⟩;rcases List.mem_append.1 B with B|B
 .exact h.1 e B
 .rw[List.mem_singleton.1 B];exact hx
theorem RoK.le {A:List Ev}{k k':Nat}(h:RoK A k)(hk:k<=k'):RoK A k':=⟨h.1,znf h.2 hk⟩
theorem yoM {c:Cm}(h:yaX c=0)(hw:c.v.wf):Okv (evOfC c).v/\ydT (evOfC c).kind=false:=by
 have B:=yhE h (n:=1) (by decide) (by decide);have hv:(evW c).v=(evOfC c).v:=by unfold evW;split<;>rfl
 refine⟨⟨?_,by rw[<-hv];exact B.2.2 hw⟩,?_⟩
 .have A:=(ya0 B.1).2.2.2.2.2.2.2
  rw[<-hv];exact A
 .have A:=B.2.1
  rw[yiB]at A;unfold ybd at A;unfold ydT;rw[decide_eq_true_eq]at A;rw[znz];omega
theorem yoq {x:Ev}(h0:yaf x=0)(hw:x.v.wf)(ho:yaH x.kind=true):Okv x.v/\ydT x.kind=false:=by
 refine⟨⟨(ya0 h0).2.2.2.2.2.2.2,hw⟩,?_⟩;unfold yaH at ho;unfold ydT;rw[decide_eq_true_eq]at ho;rw[znz];omega
theorem yob {p:Img}{fa:Fa}{s:MS}(S:St p fa s)(n:Nat):St p fa {s with taken:=n}:=
 ⟨⟨S.good.at_,fun h1 h2=>ylt n (S.good.wait h1 h2),S.good.pot,S.good.steps⟩,⟨⟨S.rk.vs.stk,S.rk.vs.pls,S.rk.vs.inp,S.rk.vs.tms,S.rk.vs.acs,S.rk.vs.lts,S.rk.vs.mds,S.rk.vs.now,S.rk.vs.nt,S.rk.vs.na⟩,S.rk.opn,S.rk.pls⟩,⟨S.ml.last,S.ml.all⟩,S.bd⟩
theorem yjA {p:Img}{s s1:MS}{x:Ev}(h:yah p s x=(0,s1)):yaf x=0/\yaH x.kind=true:=by
 rcases ybV p s x with⟨A,_⟩|⟨A,B,_⟩
 .rw[h]at A;exact absurd rfl A
 .exact⟨A,B⟩
theorem ylJ {r:RM}{c:Cm}(h:(r.over||((c.kind==2)&&decide (c.a∈r.fired)))=true):rmC r c=r:=by
 unfold rmC;rw[h];rfl
theorem yoj {r:RM}{c:Cm}{y:Ev}(h:(r.over||((c.kind==2)&&decide (c.a∈r.fired)))=false)(hy:evOfC c=y):rmC r c=⟨r.m,r.o++[y],if y.kind=13 then y.a::r.gone else r.gone,r.fired,yaG y.kind⟩:=by
 unfold rmC;rw[h,hy];rfl
theorem ykI {cs:List Cm}{r r':RM}{i:Nat}{c:Cm}(hc:cs[i]? =some c)(h:(cs.take i).foldl rmC r=r'):(cs.take (i+1)).foldl rmC r=rmC r' c:=by
 rw[List.take_add_one,hc,List.foldl_append,h];rfl
end Go.Va
namespace Go.Proofs.YtpagmlndgblhhaaGreatDoor
open Go.RowKit Go.Own Go.Own.MapTy Go.Va Go.Sort
open Go.Own.Cells (sz enc)
set_option linter.unusedVariables false
set_option linter.unusedSimpArgs false
theorem ya8 {S:Nat->Prop}{w w':World}{b:Nat}{m:List (Int×Bool)}(h:MapAt NM w b m)(K:Keeps S w w')(hn:¬S b):MapAt NM w' b m:=by
 obtain⟨C,D,A,B⟩:=h;exact⟨C,D,(K.block b (zlt A) hn).trans A,B⟩
theorem yby {w:World}{b:Nat}{m:List (Int×Bool)}(h:MapAt NM w b m):b<w:=by obtain⟨B,C,A,_⟩:=h;exact zlt A
theorem yml {ck ct ca cb:Int}{cn:ByteArray}{cv:Val}(hc:yaX ⟨ck,ct,ca,cb,cn,cv⟩=0)(hz:szV cv<=1073741824){vk vn:Int}{vs:ByteArray}{la:Option Addr}{ln lc:Nat}{F:Nat->Prop}{W:World}(C:CF F W ⟨vk,vn,vs,la,ln,lc⟩ cv){y0 y1 y2 y3 y4:Int}{y5 y6:ByteArray}{yx:Val}(hy:evOfC ⟨ck,ct,ca,cb,cn,cv⟩=⟨y0,y1,y2,y3,y4,y5,y6,yx⟩):
  Calls Tryz.prog 20 #[.agg #[ck,ct,ca,cb,cn,vk,vn,vs,.slice la ln lc]] W (fun e w'=>∃(uk un:Int) (us:ByteArray) (ua:Option Addr) (ul uc:Nat),e= .returned (.agg #[y0,y1,y2,y3,y4,y5,y6,uk,un,us,.slice ua ul uc])/\Hid (CF (fun g=>W<=g) w' ⟨uk,un,us,ua,ul,uc⟩ yx/\Below W W w')):=by
 refine(ydo _ hc hz vk vn vs la ln lc F W C).mono ?_;rintro e w' ⟨uk,un,us,ua,ul,uc,B,A⟩;rw[hy]at B A;exact⟨uk,un,us,ua,ul,uc,B,A⟩
theorem RL.app2 {N n5 b gb fb:Nat}{v:MV}{p:Img}{s:MS}{va:Option Addr}{vl vc:Nat}{v1:Value}{A:List Ev}{w w4:World}{ks:List EC}{c:EC}{x:Ev}(h:RL N n5 b gb fb v p s (.slice va vl vc) A w)(hg:gb<w.heap.size)(hf':fb<w.heap.size)(h5:n5<=w.heap.size)
  (P:Ptw (fun g=>¬MO v b g/\¬(Value.slice va vl vc).ownBlock=some g/\¬g=gb/\¬g=fb) w ks A)(Q:EvF (fun g=>¬MO v b g/\¬(Value.slice va vl vc).ownBlock=some g/\¬g=gb/\¬g=fb) w c x)
  (hr:RowAt w4 40 v1 (ks++[c]))(hk:Keeps (fun j=>(Value.slice va vl vc).ownBlock=some j) (w.alloc (.cells (enc c).toArray 40)) w4)(hf:∀g,v1.ownBlock=some g->(Value.slice va vl vc).ownBlock=some g\/(w.alloc (.cells (enc c).toArray 40)).heap.size<=g):
  RL N n5 b gb fb v p s v1 (A++[x]) w4/\Keeps (fun j=>(Value.slice va vl vc).ownBlock=some j) w w4/\(∀g,v1.ownBlock=some g->(Value.slice va vl vc).ownBlock=some g\/w.heap.size<=g):=
 ⟨h.app ⟨hg,hf'⟩ h5 P Q hr hk hf,((zkb (S:=fun _=>False) ((znv w.heap.size w).alloc (znc _) _)).mono (fun _ _ f=>f.elim)).trans hk (fun _ _ e=>e),fun g hg=>(hf g hg).elim .inl (fun e=>.inr (by have e:w.heap.size+1<=g:=(by simpa using e);omega))⟩
def yo4 (W:World)(p:Img)(er:Int)(l:List Ev)(e:Ending)(w':World):Prop:=
 (er≠0/\e= .returned (.tuple #[.slice none 0 0,er])/\Hid (Below W W w'))\/(er=0/\(rmL (yac p) (rm0 (yac p)) l).1≠0/\e= .returned (.tuple #[.slice none 0 0,.int .i64 (rmL (yac p) (rm0 (yac p)) l).1])/\Hid (Below W W w'))\/
 (er=0/\∃r:Value,e= .returned (.tuple #[r,.int .i64 0])/\Hid ((rmL (yac p) (rm0 (yac p)) l).1=0/\XRow (fun g=>W<=g/\¬r.ownBlock=some g) w' 40 r (yaP 0 (rmL (yac p) (rm0 (yac p)) l).2.o)/\(∀g,r.ownBlock=some g->W.heap.size<=g)/\Below W W w'/\RoK (rmL (yac p) (rm0 (yac p)) l).2.o 900000))
def yqP (p:Img)(fa:Fa)(b gb fb n:Nat)(W:World)(l:List Ev)(gk:Nat)(v30 v8 v11:Value)(wr:World):Prop:=
 ∃(j:Nat) (v:MV) (s:MS) (A:List Ev) (gs fs:List Int) (ov:Bool),v30= .int .i64 j/\v11= .bool ov/\j<=n/\gk=n - j/\RL W.heap.size W.heap.size b gb fb v p s v8 A wr/\MapAt NM wr gb (mOf gs)/\MapAt NM wr fb (mOf fs)/\St p fa s/\s.events<=j/\s.taken=s.made.length/\rmL p (rm0 p) l=rmL p ⟨s,A,gs,fs,ov⟩ (l.drop j)/\RoK A (j+s.made.length)/\Below W W wr/\(∀q,MO v b q->W.heap.size<=q)
def yqQ (p:Img)(b gb fb n:Nat)(W:World)(v:MV)(s:MS)(v8k:Value)(wk:World)(cs:List Cm)(r1:RM)(k0:Nat)(gk:Nat)(v67 v8 v11:Value)(wr:World):Prop:=
 ∃(i:Nat) (A:List Ev) (gs:List Int) (ov:Bool),v67= .int .i64 i/\v11= .bool ov/\i<=n/\gk=n - i/\(cs.take i).foldl rmC r1=⟨s,A,gs,r1.fired,ov⟩/\RL W.heap.size W.heap.size b gb fb v p s v8 A wr/\MapAt NM wr gb (mOf gs)/\RoK A (k0+i)/\Keeps (fun g=>g=gb\/v8k.ownBlock=some g) wk wr/\(∀g,v8.ownBlock=some g->v8k.ownBlock=some g\/wk.heap.size<=g)
theorem ym5 {gb:Nat}{v8k v8 v1:Value}{wk wr wa wb wc wd:World}(hK:Keeps (fun g=>g=gb\/v8k.ownBlock=some g) wk wr)(hO:∀g,v8.ownBlock=some g->v8k.ownBlock=some g\/wk.heap.size<=g)(Ba:Below wr wr wa)(Kb:Keeps (fun j=>j=gb) wa wb)(Kc:Keeps (fun j=>v8.ownBlock=some j) wb wc)(Oc:∀g,v1.ownBlock=some g->v8.ownBlock=some g\/wb.heap.size<=g)(Bd:Below wc wc wd):
  Keeps (fun g=>g=gb\/v8k.ownBlock=some g) wk wd/\∀g,v1.ownBlock=some g->v8k.ownBlock=some g\/wk.heap.size<=g:=by
 refine⟨(((hK.trans (zkb (S:=fun _=>False) Ba) (fun _ _ f=>f.elim)).trans Kb (fun _ _ e=>.inl e)).trans Kc (fun j hj e=>(hO j e).elim .inr (fun h=>by omega))).trans (zkb (S:=fun _=>False) Bd) (fun _ _ f=>f.elim),fun g hg=>(Oc g hg).elim (hO g) (fun h=>.inr ?_)⟩;have C:=hK.size;have B:=Ba.size;have A:=Kb.size;omega
theorem yd2 {N:Nat}(F:Nat->Prop)(W:World)(G:Gl Tryz.prog N W)(i:IC)(p:Img)(H:IAt F W i p)(hw:∀x∈p.consts,x.wf)(r:Fa×Int×Int)(hr:yaN p=r)
  (ea:Option Addr)(en ec:Nat)(l:List Ev)(E:XRd (fun j=>j<W) W (.slice ea en ec) l)(hew:∀e∈l,e.v.wf)(hl:l.length<=30):
  Calls Tryz.prog 40 #[.agg #[.slice i.ca i.cn i.cc,.slice i.ka i.kn i.kc,.slice i.na i.nn i.nc,i.pl],.slice ea en ec] W (yo4 W p r.2.2 l):=by
 have Cl:l.length=en:=by obtain⟨a,c,h⟩:=E.slice;cases h;rfl
 obtain⟨w0,Bb⟩:∃w0,w0=W.alloc (.cells #[.slice i.ca i.cn i.cc,.slice i.ka i.kn i.kc,.slice i.na i.nn i.nc,i.pl] 28):=⟨_,rfl⟩;have B0:=zba Bb;have hB:=zha Bb;have NW:=zhd (ykp F w0 i p (H.keep (S:=fun _=>False) (zkb B0) (fun _ _ f=>f)) hw r hr);obtain⟨c0,c1,c2,c3,l0⟩:=zq4 hB;have HX:=zh7 B0 E hew hl hw G Cl;have HR:=zhd hr;clear B0 hB H hw hr E hew hl G Cl;go_in;go_wp2_with fail;rw[<-Bb];clear Bb;refine NW.o.mono ?_;obtain⟨fa,at_,er⟩:=r;dsimp only;rintro e w1 (⟨Bn,rfl,H1⟩|⟨rfl,b,v,rfl,H1⟩)
 .have n1:(er==0)=false:=by rw[zna];exact Bn
  have n2:(er !=0)=true:=by unfold bne;rw[n1];rfl
  have HN:=zhd Bn;have HB:=zhd (HX.o.1.trans (H1.o.mono HX.o.1.size));clear Bn H1;go_wp2_with fail;exact zng (v:=.tuple #[.slice none 0 0,er]) (by simp only[results,Tryz.results40];go_simp) rfl (.inl ⟨HN.o,rfl,HB⟩)
 .obtain⟨K,P,Ce,S⟩:=yc6 HX.o.2.2.2.2.1 HR.o
  have Db:= @run_makeMap Tryz.prog;have HK:=zh4 K P Ce S;have Da:W<w0.heap.size:=l0;have C9:=H1.o.2.2.size;obtain⟨U,Bs⟩:∃U,U=w1.heap.size:=⟨_,rfl⟩;obtain⟨Y,Af⟩:∃Y,Y=w1.heap.size+1:=⟨_,rfl⟩;obtain⟨w5,Ar⟩:∃w5,w5=(w1.alloc (.map #[] 0)).alloc (.map #[] 0):=⟨_,rfl⟩;have M5:MapAt NM w5 U (mOf []):=by rw[Bs,Ar];exact⟨#[],0,yaD,rfl,by simp[mOf]⟩
  have N5:MapAt NM w5 Y (mOf []):=by rw[Af,Ar];exact⟨#[],0,yat,rfl,by simp[mOf]⟩
  have B5:Below w1 w1 w5:=by rw[Ar];exact(zal).alloc (by simp) _
  have C5:Below W W w5:=HX.o.1.trans ((H1.o.2.2.trans (B5.mono H1.o.2.2.size)).mono HX.o.1.size);have R5:RL W.heap.size W.heap.size b U Y v (yac p) (ms0 (yac p)) (.slice none 0 0) [] w5:=⟨(H1.o.1.monoZ (fun j hj hl=>⟨(show W<=j by have hj:w0<=j:=hj;omega),(fun e=>by cases e),by omega,by omega⟩)).ext B5,XRow.nil _ _ _,(fun g h=>by cases h),fun g M=>by have:=H1.o.1.lt M;exact⟨by omega,by omega⟩⟩;have O5:∀j,MO v b j->W.heap.size<=j:=fun j hj=>by have:=H1.o.2.1 j hj;omega
  have HL:=zh5 R5 M5 N5 C5 O5;have Cv:=zhd (show¬Y=U by omega);have Be:=zhd (show W<=U/\W<=Y by omega);clear K P Ce S NW M5 N5 B5 C5 R5 O5 H1 Da C9 c0 c1 c2 c3 l0;go_wp2_with fail;rw[<-Ar,<-Af,<-Bs];clear Ar Db Af Bs;go_loopg [30,8,11] en (fun gk v30 v8 v11 wr=>yqP (yac p) fa b U Y en W l gk v30 v8 v11 wr)
  case atStart=>exact⟨0,v,ms0 (yac p),[],[],[],false,rfl,rfl,znq _,rfl,HL.o.1,HL.o.2.1,HL.o.2.2.1,HK.o.2.2.2,znc _,rfl,rfl,⟨(fun e h=>by cases h),znq _⟩,HL.o.2.2.2.1,HL.o.2.2.2.2⟩
  case round=>
   obtain⟨wo,rfl⟩:∃wo:World,wo=wr:=⟨_,rfl⟩;obtain⟨j,v,s,A,gs,fs,ov,rfl,rfl,hj,Ci,hR,hG,hF,hS,Bt,Aa,Av,T,hB,Ax⟩:=hrel;obtain⟨va,vl,vc,rfl⟩:=yaL hR.row;by_cases hjn:j<en
   .obtain⟨e,he⟩:=yae (l:=l) (k:=j) (by rw[HX.o.2.2.2.2.2.2];exact hjn)
    obtain⟨g,C8,vk,vn,vs,la,ln,lc,rfl,An,M,dv,y0,y1,y2,y3,y4,y5,y6,y7,y8,y9,y10⟩:=yc8 HX.o.2.1 he;rw[<-hB.cell (p:=⟨g,_,none⟩) M]at y0 y1 y2 y3 y4 y5 y6 y7 y8 y9 y10;have Az:g<wo:=znj M hB.size;have Dl:(j:Int)<(en:Int):=by omega
    have HJ:=zhd (show j<30 by have h1:=HX.o.2.2.2.1;have h2:=HX.o.2.2.2.2.2.2;omega);have Cr:=zhd (show wrap64 ((j:Int)+1)=(j:Int)+1 by have h1:=HJ.o;unfold wrap64;omega);have HM:=zhd (show en - (j+1)<gk by omega);have Cc:=HX.o.2.2.1 e (zmg he);have Bz:=zhd hR;have Dj:=zhd (yby hF);have H4:=zh3 hG hF hB;have L:=zh8 hS Bt Aa Av he T Ax (zai dv (zai Cc An));clear hR hG hF hS Bt Aa Av he T hB Ax dv Cc An Ci hj;obtain⟨e0,e1,Z,e3,e4,e5,e6,ex⟩:=e;dsimp only at y0 y1 y2 y3 y4 y5 y6;go_upto_region 9 with(fail);refine yab ?_;intro w8 Bm;have B8:=zba Bm;have b8:=zha Bm;have G8:=yaS H4.o.1 B8;have Q:=zh5 (Bz.o.ext B8) G8 (yaS H4.o.2.1 B8) (H4.o.2.2.trans (B8.mono H4.o.2.2.size)) b8;clear y0 y1 y2 y3 y4 y5 y6 y7 y8 y9 y10 Az M Bm B8 b8 H4;obtain⟨gn,Br⟩:∃gn,decide (e3∈gs)=gn:=⟨_,rfl⟩;have Bp:=fun X hX=>yhu G8 e3 gn Br X hX;obtain⟨sk,Ad⟩:∃sk,(ov||((Z==12)&&gn))=sk:=⟨_,rfl⟩;have By:=zhd (show(ov||((Z==12)&&decide (e3∈gs)))=sk by rw[Br];exact Ad);have Ak:=zhd Ad;obtain⟨x0,x1,x2,x3,x4,x5,z,u,t,x9,x10,R,_⟩:=yaW Q.o.2.2.2.2;clear Br Ad G8;go_cut [45] (fun v45 wx=>v45= .bool sk/\wx=w8)
    case first=>
     cases ov with
     |true=>
      go_wp2_with fail;go_meet
      case rel=>exact⟨by rw[<-Ak.o];rfl,rfl⟩
     |false=>
      by_cases h12:Z=12
      .have Ba:(Z==12)=true:=by rw[beq_iff_eq];exact h12
       have HE:=zhd Ba;clear h12;go_wp2_with fail;go_meet
       case rel=>exact⟨by rw[<-Ak.o,HE.o];rfl,rfl⟩
      .have Ba:(Z==12)=false:=by rw[zna];exact h12
       have HE:=zhd Ba;clear h12;go_wp2_with fail;go_meet
       case rel=>exact⟨by rw[<-Ak.o,HE.o];rfl,rfl⟩
    case rest=>
     obtain⟨rfl,Aq⟩:=hcut;rw[Aq];clear Aq Bp x0 x1 x2 x3 x4 x5 z u t x9 x10 R;cases sk with
     |true=>
      have Bk:=Cr.o;go_wp2_with fail;go_roundg (en - (j+1))
      case measure=>exact HM.o
      case rel=>exact⟨j+1,v,s,A,gs,fs,ov,by simp[Bk],rfl,hjn,rfl,Q.o.1,Q.o.2.1,Q.o.2.2.1,L.o.1,by have:=L.o.2.1;omega,L.o.2.2.1,by rw[L.o.2.2.2.1,ymt L.o.2.2.2.2.1 (ylG By.o)],L.o.2.2.2.2.2.1.le (by omega),Q.o.2.2.2.1,L.o.2.2.2.2.2.2.1⟩
     |false=>
      obtain⟨rc,s1,Bd⟩:∃rc s1,yah (yac p) s ⟨e0,e1,Z,e3,e4,e5,e6,ex⟩=(rc,s1):=⟨_,_,rfl⟩;obtain⟨SA,A3⟩:=L.o.1.apply HK.o.1 HK.o.2.1 HK.o.2.2.1 ⟨e0,e1,Z,e3,e4,e5,e6,ex⟩ L.o.2.2.2.2.2.2.2.2.1 (by have:=L.o.2.1;have:=HJ.o;omega);have Aa:=yeG (yac p) s ⟨e0,e1,Z,e3,e4,e5,e6,ex⟩;obtain⟨k1,d⟩:=yeH (yac p) s ⟨e0,e1,Z,e3,e4,e5,e6,ex⟩;rw[Bd]at SA A3 Aa d;dsimp only at SA A3 Aa d;have A2:s.events<=30:=by have:=L.o.2.1;have:=HJ.o;omega
      have AP:=zhd (ygR b v (yac p) s w8 Q.o.1.mx (HX.o.2.2.2.2.2.1.below Q.o.2.2.2.1) fa HK.o.1 HK.o.2.1 HK.o.2.2.1 L.o.1 A2 (fun q hq=>⟨by have:=Q.o.2.2.2.1.size;omega,fun e=>by have:=Q.o.1.row.lt e;omega,by have:=yby Q.o.2.1;omega,by have:=yby Q.o.2.2.1;omega⟩) e0 e1 Z e3 e4 e5 e6 ex vk vn vs la ln lc (fun q=>q<W) (L.o.2.2.2.2.2.2.2.1.keep (S:=fun _=>False) (zkb Q.o.2.2.2.1) (fun _ _ f=>f)) L.o.2.2.2.2.2.2.2.2.1 (fun q hq e=>by have:=L.o.2.2.2.2.2.2.1 q e;have hq:q<W:=hq;omega) (rc,s1) Bd);have Bg:=zhd Bd;have Di:=zh5 SA (show s1.events<=j+1 by have:=L.o.2.1;omega) (Aa.trans L.o.2.2.1) (show s.made.length<=s1.made.length by rw[d,znk];omega) (show s1.made.length<=700000 by have h1:=SA.bd;have h2:=L.o.2.1;have h3:=HJ.o;omega);clear Bd SA A3 Aa d A2;obtain⟨x0,x1,x2,x3,x4,x5,z,u,t,x9,x10,R,_⟩:=yaW Q.o.2.2.2.2;go_wp2_with fail;refine AP.o.mono ?_;rintro e w9 ⟨v9,rfl,H9⟩;have Cn:∀q,MO v9 b q->W.heap.size<=q:=fun q hq=>(H9.o.2.own q hq).elim (L.o.2.2.2.2.2.2.1 q) (fun h=>by have:=Q.o.2.2.2.1.size;omega)
      have R9:=Q.o.1.turn ⟨yby Q.o.2.1,yby Q.o.2.2.1⟩ H9.o.1 H9.o.2;have F9:=ya8 Q.o.2.2.1 H9.o.2.keeps (fun e=>(Q.o.1.mo _ e).2 rfl);have b9:=(H9.o.2.keeps.block wo R (fun e=>by have:=Bz.o.mx.lt e;omega)).trans Q.o.2.2.2.2;have Ao:=zh5 R9 (ya8 Q.o.2.1 H9.o.2.keeps (fun e=>(Q.o.1.mo _ e).1 rfl)) F9 (Q.o.2.2.2.1.trans (H9.o.2.keeps.below Q.o.2.2.2.1.size (fun q hq e=>by have:=L.o.2.2.2.2.2.2.1 q e;omega))) b9;have B1:=zhd Cn;clear x0 x1 x2 x3 x4 x5 z u t x9 x10 R AP H9 R9 Cn;by_cases hrc:rc=0
      .subst hrc
       have Cx:=zhd Bg.o;have HZ:=yjA Cx.o;have J:=zh2 (yoq HZ.1 L.o.2.2.2.2.2.2.2.2.1 HZ.2) Di.o;obtain⟨fz,Ck⟩:∃fz,(if Z=12 then e3::fs else fs)=fz:=⟨_,rfl⟩;have B3:=zhd Ck;obtain⟨x0,x1,x2,x3,x4,x5,z,u,t,x9,x10,R,_⟩:=yaW b9;clear HZ Ck b9
       go_upto_if 54 with(fail)
       go_cut [] (fun wx=>Keeps (fun j=>j=Y) w9 wx/\MapAt NM wx Y (mOf fz))
       case first=>
        by_cases h12:Z=12
        .subst h12
         obtain⟨ob,Au,Ab⟩:=MapAt.store F9 ylT Tryz.underlying57 e3 true;replace Au:∀X:World,ycU w9 Y X->(Instr.mapUpdate 57 (.map (some Y)) (.int .i64 e3) (.bool true)).run Tryz.prog X= .ok () (setBlock X Y ob):=Au;have Dd:=yby F9;have V:=zh2 ((Keeps.refl (fun j=>j=Y) w9).setBlock (b:=Y) (.inl rfl) ob) (show MapAt NM (setBlock w9 Y ob) Y (mOf fz)from B3.o▸Ab _ (ybI _ _ _ Dd));have Cf:ycU w9 Y w9:=rfl;clear F9 Ab;go_wp2_with fail;go_meet
         case rel=>exact V.o
        .have Ba:(Z==12)=false:=by rw[zna];exact h12
         have V:=zhd (show MapAt NM w9 Y (mOf fz) by rw[<-B3.o,if_neg h12];exact F9);clear F9 h12;go_wp2_with fail;go_meet
         case rel=>exact⟨Keeps.refl _ _,V.o⟩
       case rest=>
        obtain⟨Bj,rfl⟩:∃w:World,w=wc:=⟨_,rfl⟩;obtain⟨K17,A8⟩:=hcut;have I:=zh5 (Ao.o.1.map (K17.mono (fun _ _ e=>.inr e))) (ya8 Ao.o.2.1 K17 (fun e=>Cv.o e.symm)) A8 (Ao.o.2.2.2.1.trans (K17.below Ao.o.2.2.2.1.size (fun q hq e=>by have:=Be.o.2;omega))) ((K17.block _ R (fun e=>by have:=Dj.o;omega)).trans Ao.o.2.2.2.2);clear x0 x1 x2 x3 x4 x5 z u t x9 x10 R K17 A8 F9;obtain⟨ks,Ah,Ai⟩:=I.o.1.row.cells;have Ay:ks.length=vl:=by obtain⟨_,_,h⟩:=Ah.slice;cases h;rfl
        have RA:=zhd (Ah.below ((znv Bj.heap.size Bj).alloc (znc _) (.cells #[e0,e1,Z,e3,e4,e5,e6,vk,vn,vs,.slice la ln lc] 40)));have A5:=zhd (show(ks.length+1)*128<=140737488355328/\ks.length+1<=maxLen from by have h1:=L.o.2.2.2.2.2.1.2;have h2:=J.o.2.2.2.2.1;have h3:=J.o.2.2.2.2.2;have h4:=HJ.o;rw[Ai.1];unfold maxLen;omega);have Cq:EvF (fun g=>¬MO v9 b g/\¬(Value.slice va vl vc).ownBlock=some g/\¬g=U/\¬g=Y) Bj ⟨e0,e1,Z,e3,e4,e5,e6,⟨vk,vn,vs,la,ln,lc⟩⟩ ⟨e0,e1,Z,e3,e4,e5,e6,ex⟩:=⟨rfl,rfl,rfl,rfl,rfl,rfl,rfl,(L.o.2.2.2.2.2.2.2.1.keep (S:=fun _=>False) (zkb I.o.2.2.2.1) (fun _ _ f=>f)).mono (fun g M _=>by
         have M:g<W:=M;exact⟨fun e=>by have:=B1.o g e;omega,fun e=>by have:=(I.o.1.own g e).1;omega,by have:=Be.o.1;omega,by have:=Be.o.2;omega⟩)⟩
        have D:=zh3 Ai Ay Cq;obtain⟨x0,x1,x2,x3,x4,x5,z,u,t,x9,x10,R,_⟩:=yaW I.o.2.2.2.2;have xl2:=Nat.lt_succ_of_lt R;clear Ah Ai Ay Cq;go_upto_region 16 with(at_builtin;refine ybk (α:=EC) yfP rfl (.tmp 58) (.tmp 60) rfl RA.o (⟨e0,e1,Z,e3,e4,e5,e6,⟨vk,vn,vs,la,ln,lc⟩⟩:EC) rfl rfl (znb _ _) A5.o.1 A5.o.2 ?_;intro a1 c1 w11 Ae d Ag;rw[D.o.2.1]at Ae Ag|-;have Al:=zh3 Ae d Ag;clear Ae d Ag);have R8:=RL.app2 I.o.1 (yby I.o.2.1) (yby I.o.2.2.1) I.o.2.2.2.1.size D.o.1 D.o.2.2 Al.o.1 Al.o.2.1 Al.o.2.2;have b8:=(R8.2.1.block wo R (fun e=>by have:=Bz.o.row.lt e;omega)).trans I.o.2.2.2.2;have G8:=ya8 I.o.2.1 R8.2.1 (fun e=>(I.o.1.own _ e).2.2.1 rfl);have F8:=ya8 I.o.2.2.1 R8.2.1 (fun e=>(I.o.1.own _ e).2.2.2 rfl);have C3:Below W W w11:=I.o.2.2.2.1.trans (R8.2.1.below I.o.2.2.2.1.size (fun q hq e=>by have:=(I.o.1.own q e).1;omega));clear x0 x1 x2 x3 x4 x5 z u t x9 x10 R xl2;obtain⟨x0,x1,x2,x3,x4,x5,z,u,t,x9,x10,R,_⟩:=yaW b8;obtain⟨cl,O⟩:∃cl,decide (16<=Z/\Z<=21)=cl:=⟨_,rfl⟩
        have CS:=zhd (yfj e0 e1 Z e3 e4 e5 e6 vk vn vs la ln lc w11 cl O);have Dk:=zhd O;have C:=zh4 R8.1 G8 F8 C3;clear b8 R8 G8 F8 C3 O;obtain⟨Cb,B9,Ca,Cd⟩:∃a n c,Value.slice a1 (vl+1) c1= .slice a n c:=⟨_,_,_,rfl⟩;rw[Cd]at C|-;clear Cd;go_wp2_with fail;refine CS.o.mono ?_;rintro e Bi ⟨rfl,Ac⟩;have D:=zh4 (C.o.1.ext Ac) (yaS C.o.2.1 Ac) (yaS C.o.2.2.1 Ac) (C.o.2.2.2.trans (Ac.mono C.o.2.2.2.size));clear x0 x1 x2 x3 x4 x5 z u t x9 x10 R Ac CS C;have TK:=zhd (yjT b v9 _ s1 Bi D.o.1.mx (ymA J.o.2.1) (by have:=J.o.2.2.2.2.2;omega) (by have h1:=J.o.2.2.2.1;have h2:=J.o.2.2.2.2.1;omega));go_wp2_with fail;refine TK.o.mono ?_;rintro e w13 ⟨C7,rfl,C⟩;obtain⟨cs,A4⟩:∃cs,cs=(s1.made.drop s1.taken).map ybh:=⟨_,rfl⟩;obtain⟨n,hn⟩:∃n,cs.length=n:=⟨_,rfl⟩;obtain⟨Dg,Df,Cg⟩:∃a c,C7= .slice a n c:=by
         obtain⟨a,c,h⟩:=C.o.1.slice;exact⟨a,c,by rw[h,<-A4,hn]⟩
        subst Cg;have Cp:=D.o.1.turn ⟨yby D.o.2.1,yby D.o.2.2.1⟩ C.o.2.2.1 C.o.2.2.2;have Cy:=ya8 D.o.2.1 C.o.2.2.2.keeps (fun e=>(D.o.1.mo _ e).1 rfl);have C0:=ya8 D.o.2.2.1 C.o.2.2.2.keeps (fun e=>(D.o.1.mo _ e).2 rfl);have Bh:Below W W w13:=D.o.2.2.2.trans (C.o.2.2.2.keeps.below D.o.2.2.2.size (fun q hq e=>by have:=B1.o q e;omega));have C1:XRd (fun g=>Bi<=g/\g<w13) w13 (.slice Dg n Df) cs:=by
         have h:=C.o.1;rw[<-A4]at h;exact h.rd (fun g h hl=>⟨h,hl⟩) (fun g M=>⟨C.o.2.1 g M,h.lt M⟩)
        have m:=zh8 Cp Cy C0 Bh Cv.o C1 (yby D.o.2.1) (fun g (M:_=some g)=>D.o.1.row.lt M);have HN:=zhd (zai hn (zai A4 (show n+s.made.length=s1.made.length/\n<=700000 from by
         have h1:=J.o.2.2.2.1;have h2:=J.o.2.2.2.2.1;have h3:=J.o.2.2.2.2.2;rw[<-hn,A4,zmd,List.length_drop];omega)))
        clear hn A4 Cp Cy C0 Bh C1 C TK;go_wp2_with fail;go_loopg [67,8,11] n (fun gk v67 v8 v11 wy=>yqQ (yac p) b U Y n W v9 {s1 with taken:=s1.made.length} (.slice Cb B9 Ca) w13 cs ⟨{s1 with taken:=s1.made.length},A++[⟨e0,e1,Z,e3,e4,e5,e6,ex⟩],gs,fz,cl⟩ (j+1+s.made.length) gk v67 v8 v11 wy)
        case atStart=>exact⟨0,A++[⟨e0,e1,Z,e3,e4,e5,e6,ex⟩],gs,cl,rfl,rfl,znq _,rfl,rfl,m.o.1,m.o.2.1,(L.o.2.2.2.2.2.1.app J.o.1).le (by omega),Keeps.refl _ _,fun g h=>.inl h⟩
        case round=>
         obtain⟨i,A1,g1,ov,rfl,rfl,hi,Cj,A0,hR,hG,T,Aj,Bu⟩:=hrel;obtain⟨va,vl,vc,rfl⟩:=yaL hR.row;by_cases hin:i<n
         .obtain⟨c,hc⟩:=yae (l:=cs) (k:=i) (by rw[HN.o.1];exact hin)
          obtain⟨g,C8,vk,vn,vs,la,ln,lc,rfl,An,M,dc,m0,m1,m2,m3,m4,m5,m6,m7,m8⟩:=yoN m.o.2.2.2.2.2.1 hc;have Cm:¬(g=U\/(Value.slice Cb B9 Ca).ownBlock=some g):=fun e=>e.elim (fun h=>by have:=m.o.2.2.2.2.2.2.1;have:=An.1;omega) (fun h=>by have:=m.o.2.2.2.2.2.2.2 g h;have:=An.1;omega);rw[<-Aj.cell (p:=⟨g,_,none⟩) M Cm]at m0 m1 m2 m3 m4 m5 m6 m7 m8;have Az:g<wr:=znj M Aj.size;have Dm:(i:Int)<(n:Int):=by omega
          have Cs:=zhd (show wrap64 ((i:Int)+1)=(i:Int)+1 by have:=HN.o.2.2.2;unfold wrap64;omega);have Cu:=zhd (show n - (i+1)<gk by omega);have Bc:yaX c=0/\szV c.v<=1073741824/\(Okv (evOfC c).v/\ydT (evOfC c).kind=false):=by
           have hm:=zmg hc;rw[HN.o.2.1]at hm;obtain⟨c0,De,rfl⟩:=List.mem_map.1 hm;have hk:=J.o.2.1.rk.vs.mds c0 (List.mem_of_mem_drop De);have O:=yiH hk.1 hk.2;have:=ycq (x:=(ybh c0).v) ⟨ypT O.1,O.2⟩;exact⟨O.1,by omega,yoM O.1 O.2⟩
          have HC:=zh4 Bc.1 Bc.2.1 Bc.2.2 (show j+1+s.made.length+i<=900000 by have h1:=HN.o.2.2;have h2:=J.o.2.2.2.2.2;have h3:=HJ.o;omega);have B:=zh7 A0 hR hG T (zai Aj Bu) hc dc;clear A0 hR hG T Aj Bu hc dc Bc Cm An Cj hi;obtain⟨ck,ct,ca,cb,cn,cv⟩:=c;dsimp only at m0 m1 m2 m3 m4;go_upto_region 20 with(fail);refine yab ?_;intro A9 At;have B6:=zba At;have Bx:=zha At;have Cz:MapAt NM A9 Y (mOf fz):=yaS (ya8 m.o.2.2.1 B.o.2.2.2.2.1.1 (fun e=>e.elim m.o.2.2.2.2.1 (fun h=>(m.o.1.own _ h).2.2.2 rfl))) B6;have H6:=zh2 B6 Bx;obtain⟨lt,Bo⟩:∃lt,decide (ca∈fz)=lt:=⟨_,rfl⟩;have Bp:=fun X hX=>yhu Cz ca lt Bo X hX;obtain⟨sk,Ad⟩:∃sk,(ov||((ck==2)&&lt))=sk:=⟨_,rfl⟩;obtain⟨x0,x1,x2,x3,x4,x5,z,u,t,R,_⟩:=yjH Bx;have Ct:=zhd (show(ov||((ck==2)&&decide (ca∈fz)))=sk by rw[Bo];exact Ad);have Ak:=zhd Ad;clear m0 m1 m2 m3 m4 m5 m6 m7 m8 Az M At B6 Bx Cz Bo Ad;go_cut [82] (fun v82 wx=>v82= .bool sk/\wx=A9)
          case first=>
           cases ov with
           |true=>
            go_wp2_with fail;go_meet
            case rel=>exact⟨by rw[<-Ak.o];rfl,rfl⟩
           |false=>
            by_cases hk2:ck=2
            .have n2:(ck==2)=true:=by rw[beq_iff_eq];exact hk2
             have HE:=zhd n2;clear hk2;go_wp2_with fail;go_meet
             case rel=>exact⟨by rw[<-Ak.o,HE.o];rfl,rfl⟩
            .have n2:(ck==2)=false:=by rw[zna];exact hk2
             have HE:=zhd n2;clear hk2;go_wp2_with fail;go_meet
             case rel=>exact⟨by rw[<-Ak.o,HE.o];rfl,rfl⟩
          case rest=>
           obtain⟨rfl,Aq⟩:=hcut;rw[Aq];clear Aq Bp x0 x1 x2 x3 x4 x5 z u t R;cases sk with
           |true=>
            have Bl:=Cs.o;go_wp2_with fail;go_roundg (n - (i+1))
            case measure=>exact Cu.o
            case rel=>exact⟨i+1,A1,g1,ov,by simp[Bl],rfl,hin,rfl,by rw[ykI B.o.2.2.2.2.2.1 B.o.1,ylJ Ct.o],B.o.2.1.ext H6.o.1,yaS B.o.2.2.1 H6.o.1,B.o.2.2.2.1.le (by omega),B.o.2.2.2.2.1.1.trans (zkb (S:=fun _=>False) H6.o.1) (fun _ _ f=>f.elim),B.o.2.2.2.2.1.2⟩
           |false=>
            obtain⟨y,hy⟩:∃y,evOfC ⟨ck,ct,ca,cb,cn,cv⟩=y:=⟨_,rfl⟩;obtain⟨y0,y1,y2,y3,y4,y5,y6,yx⟩:=y;have Dh:=zhd (show Okv yx/\ydT y2=false by have h:=HC.o.2.2.1;rw[hy]at h;exact h);have CE:=zhd (yml HC.o.1 HC.o.2.1 (F:=fun g=>Bi<=g/\g<w13) (W:=A9) ((B.o.2.2.2.2.2.2.keep B.o.2.2.2.2.1.1 (fun g M e=>e.elim (fun h=>by have:=m.o.2.2.2.2.2.2.1;have:=M.1;omega) (fun h=>by have:=m.o.2.2.2.2.2.2.2 g h;have:=M.1;omega))).keep (S:=fun _=>False) (zkb H6.o.1) (fun _ _ f=>f)) hy);have HY:=zhd hy;obtain⟨x0,x1,x2,x3,x4,x5,z,u,t,R,_⟩:=yjH H6.o.2;clear hy;go_wp2_with fail;refine CE.o.mono ?_;rintro e B7 ⟨uk,un,us,ua,ul,uc,rfl,A7⟩;clear x0 x1 x2 x3 x4 x5 z u t R CE;go_upto_region 22 with(fail);refine yab ?_;intro w16 As;have B4:=zba As;have Bv:=zha As;have BA:Below wr wr w16:=H6.o.1.trans ((A7.o.2.trans (B4.mono A7.o.2.size)).mono H6.o.1.size);have Af:=ya8 m.o.2.2.1 B.o.2.2.2.2.1.1 (fun e=>e.elim m.o.2.2.2.2.1 (fun h=>(m.o.1.own _ h).2.2.2 rfl))
            have C2:CF (fun g=>¬MO v9 b g/\¬(Value.slice va vl vc).ownBlock=some g/\¬g=U/\¬g=Y) w16 ⟨uk,un,us,ua,ul,uc⟩ yx:=(A7.o.1.keep (S:=fun _=>False) (zkb B4) (fun _ _ f=>f)).mono (fun g M _=>by
             have M:A9<=g:=M;have h1:=H6.o.1.size;have h2:=yby B.o.2.2.1;have h3:=yby Af;exact⟨fun e=>by have:=B.o.2.1.mx.lt e;omega,fun e=>by have:=B.o.2.1.row.lt e;omega,by omega,by omega⟩)
            have Ap:=yaS B.o.2.2.1 BA;have Am:=zh7 (B.o.2.1.ext BA) (yaS Af BA) C2 Bv (show W<=w16.heap.size by have h1:=m.o.2.2.2.1.size;have h2:=B.o.2.2.2.2.1.1.size;have h3:=BA.size;omega) BA (show¬B7.heap.size=U by have h1:=A7.o.2.size;have h2:=H6.o.1.size;have h4:=yby B.o.2.2.1;omega);obtain⟨x0,x1,x2,x3,x4,x5,z,u,t,x9,x10,R,_⟩:=yaW Bv;obtain⟨gz,Ch⟩:∃gz,(if y2=13 then y3::g1 else g1)=gz:=⟨_,rfl⟩;have B2:=zhd Ch;clear As B4 BA Af C2 Bv Ch
            go_upto_if 87 with(fail)
            go_cut [] (fun wx=>Keeps (fun j=>j=U) w16 wx/\MapAt NM wx U (mOf gz))
            case first=>
             by_cases h13:y2=13
             .subst h13
              obtain⟨ob,Au,Ab⟩:=MapAt.store Ap ylT Tryz.underlying57 y3 true;replace Au:∀X:World,ycU w16 U X->(Instr.mapUpdate 57 (.map (some U)) (.int .i64 y3) (.bool true)).run Tryz.prog X= .ok () (setBlock X U ob):=Au;have Az:=yby Ap;have V:=zh2 ((Keeps.refl (fun j=>j=U) w16).setBlock (b:=U) (.inl rfl) ob) (show MapAt NM (setBlock w16 U ob) U (mOf gz)from B2.o▸Ab _ (ybI _ _ _ Az));have Cf:ycU w16 U w16:=rfl;clear Ap Ab;go_wp2_with fail;go_meet
              case rel=>exact V.o
             .have Do:(y2==13)=false:=by rw[zna];exact h13
              have V:=zhd (show MapAt NM w16 U (mOf gz) by rw[<-B2.o,if_neg h13];exact Ap);clear Ap h13;go_wp2_with fail;go_meet
              case rel=>exact⟨Keeps.refl _ _,V.o⟩
            case rest=>
             obtain⟨K17,A8⟩:=hcut;have H7:=zh7 (Am.o.1.map (K17.mono (fun _ _ e=>.inl e))) A8 (ya8 Am.o.2.1 K17 (fun e=>m.o.2.2.2.2.1 e)) ((K17.block _ R Am.o.2.2.2.2.2.2).trans Am.o.2.2.2.1) (Am.o.2.2.1.keep K17 (fun g M e=>M.2.2.1 e)) (znf Am.o.2.2.2.2.1 K17.size) K17;clear x0 x1 x2 x3 x4 x5 z u t x9 x10 R K17 A8 Ap;obtain⟨ks,Ah,Ai⟩:=H7.o.1.row.cells;have Ay:ks.length=vl:=by obtain⟨_,_,h⟩:=Ah.slice;cases h;rfl
             have RA:=zhd (Ah.below ((znv wc.heap.size wc).alloc (znc _) (.cells #[y0,y1,y2,y3,y4,y5,y6,uk,un,us,.slice ua ul uc] 40)));have A5:=zhd (show(ks.length+1)*128<=140737488355328/\ks.length+1<=maxLen from by have h1:=B.o.2.2.2.1.2;have h2:=HC.o.2.2.2;rw[Ai.1];unfold maxLen;omega);have Q:=zh2 Ai Ay;obtain⟨x0,x1,x2,x3,x4,x5,z,u,t,x9,x10,R,_⟩:=yaW H7.o.2.2.2.1;have xl2:=Nat.lt_succ_of_lt R;clear Ah Ai Ay;go_upto_region 25 with(at_builtin;refine ybk (α:=EC) yfP rfl (.tmp 91) (.tmp 93) rfl RA.o (⟨y0,y1,y2,y3,y4,y5,y6,⟨uk,un,us,ua,ul,uc⟩⟩:EC) rfl rfl (znb _ _) A5.o.1 A5.o.2 ?_;intro a1 c1 C6 Ae d Ag;rw[Q.o.2]at Ae Ag|-;have Al:=zh3 Ae d Ag;clear Ae d Ag);have R8:=RL.app2 H7.o.1 (yby H7.o.2.1) (yby H7.o.2.2.1) H7.o.2.2.2.2.2.1 Q.o.1 (x:=⟨y0,y1,y2,y3,y4,y5,y6,yx⟩) ⟨rfl,rfl,rfl,rfl,rfl,rfl,rfl,H7.o.2.2.2.2.1⟩ Al.o.1 Al.o.2.1 Al.o.2.2;have b8:=(R8.2.1.block B7 R (fun e=>by have e1:=B.o.2.1.row.lt e;have:=H6.o.1.size;have:=A7.o.2.size;omega)).trans H7.o.2.2.2.1
             have G8:=ya8 H7.o.2.1 R8.2.1 (fun e=>(H7.o.1.own _ e).2.2.1 rfl);clear x0 x1 x2 x3 x4 x5 z u t x9 x10 R xl2;obtain⟨x0,x1,x2,x3,x4,x5,z,u,t,x9,x10,R,_⟩:=yaW b8;obtain⟨Co,O⟩:∃cl,decide (16<=y2/\y2<=21)=cl:=⟨_,rfl⟩;have CS:=zhd (yfj y0 y1 y2 y3 y4 y5 y6 uk un us ua ul uc C6 Co O);have H9:=zh3 R8 G8 O;clear b8 R8 G8 O;go_wp2_with fail;refine CS.o.mono ?_;rintro e Dn ⟨rfl,Bf⟩;have A6:=zhd Bf;clear x0 x1 x2 x3 x4 x5 z u t x9 x10 R Bf CS;have Bl:=Cs.o;go_wp2_with fail;go_roundg (n - (i+1))
             case measure=>exact Cu.o
             case rel=>
              have RK:=ym5 B.o.2.2.2.2.1.1 B.o.2.2.2.2.1.2 Am.o.2.2.2.2.2.1 H7.o.2.2.2.2.2.2 H9.o.1.2.1 H9.o.1.2.2 A6.o;exact⟨i+1,A1++[⟨y0,y1,y2,y3,y4,y5,y6,yx⟩],gz,Co,by simp[Bl],rfl,hin,rfl,by rw[ykI B.o.2.2.2.2.2.1 B.o.1,yoj Ct.o HY.o,<-H9.o.2.2,<-B2.o];rfl,H9.o.1.1.ext A6.o,yaS H9.o.2.1 A6.o,B.o.2.2.2.1.app Dh.o,RK.1,RK.2⟩
         .obtain rfl:i=n:=by omega
          have Dp:¬(i:Int)<i:=by omega
          have hT:cs.take i=cs:=zmj (by rw[HN.o.1];exact znc _);rw[hT]at A0;have F5:=ya8 m.o.2.2.1 Aj (fun e=>e.elim m.o.2.2.2.2.1 (fun h=>(m.o.1.own _ h).2.2.2 rfl));have B5:Below W W wr:=m.o.2.2.2.1.trans (Aj.below m.o.2.2.2.1.size (fun q hq e=>e.elim (fun h=>by have:=Be.o.1;omega) (fun h=>by have:=(m.o.1.own q h).1;omega)));have B:=zh6 A0 hR hG F5 T B5;clear A0 hR hG T Aj Bu Cj hi hT F5 B5;have Bk:=Cr.o;go_wp2_with fail;go_roundg (en - (j+1))
          case measure=>exact HM.o
          case rel=>exact⟨j+1,v9,{s1 with taken:=s1.made.length},A1,g1,fz,ov,by simp[Bk],rfl,hjn,rfl,B.o.2.1,B.o.2.2.1,B.o.2.2.2.1,yob J.o.2.1 _,J.o.2.2.1,rfl,by rw[L.o.2.2.2.1,ymt L.o.2.2.2.2.1 (ylH By.o Cx.o),<-B.o.1,<-HN.o.2.1,<-B3.o,<-Dk.o];rfl,B.o.2.2.2.2.1.le (by have h1:=HN.o.2.2;show j+1+s.made.length+i<=j+1+s1.made.length;omega),B.o.2.2.2.2.2,B1.o⟩
      .have n1:(rc==0)=false:=by rw[zna];exact hrc
       have n2:(rc !=0)=true:=by unfold bne;rw[n1];rfl
       have HE:=zh2 (show rmL (yac p) (rm0 (yac p)) l=_ from L.o.2.2.2.1.trans (ym3 L.o.2.2.2.2.1 (ym2 By.o Bg.o hrc) hrc)) hrc;clear hrc F9 b9;go_wp2_with fail;exact zng (v:=.tuple #[.slice none 0 0,rc]) (by simp only[results,Tryz.results40];go_simp) rfl (.inr (.inl ⟨rfl,by rw[HE.o.1];exact HE.o.2,by rw[HE.o.1],zhd Ao.o.2.2.2.1⟩))
   .obtain rfl:j=en:=by omega
    have Dq:¬(j:Int)<j:=by omega
    have hT:l.drop j=[]:=List.drop_of_length_le (by rw[HX.o.2.2.2.2.2.2];exact znc _);rw[hT]at Av;have hz:∀e∈A,szV e.v<=1073741824:=fun e he=>by have:=ycq (T.1 e he).1;omega
    have Bq:j+s.made.length<=900000:=by have h2:=hS.bd;have h3:=HX.o.2.2.2.1;have h4:=HX.o.2.2.2.2.2.2;omega
    have Dc:A.length<=900000:=znf T.2 Bq;have ES:=zhd (ykP wo va vl vc A (hR.row.rd (G:=fun _=>True) (fun _ _ _=>trivial) (fun _ _=>trivial)) hz (by omega) (fun e he=>(T.1 e he).2));have B:=zh3 Av (T.le Bq) hB;clear hR hG hF hS Bt Aa Av T hB Ax Ci hj hT hz Dc Bq;go_wp2_with fail;refine ES.o.mono ?_;rintro e w7 ⟨r7,rfl,H7⟩;have HE:=zhd (show rmL (yac p) (rm0 (yac p)) l=(0,_)from B.o.1);have C4:=B.o.2.2.trans (H7.o.2.2.mono B.o.2.2.size);have H6:=zh3 (H7.o.1.mono (G:=fun g=>W<=g/\¬r7.ownBlock=some g) (fun g h _=>⟨znf B.o.2.2.size h.1,h.2⟩)) (fun g M=>znf B.o.2.2.size (H7.o.2.1 g M)) C4;clear H7 C4 ES;go_wp2_with fail;exact zng (v:=.tuple #[r7,.int .i64 0]) (by simp only[results,Tryz.results40];go_simp) rfl (.inr (.inr ⟨rfl,r7,rfl,zhd (by rw[HE.o];exact⟨rfl,H6.o.1,H6.o.2.1,H6.o.2.2,B.o.2.1⟩)⟩))
end Go.Proofs.YtpagmlndgblhhaaGreatDoor
namespace Go.Va
open Go.Own Go.RowKit
open Go.Proofs.YtpagmlndgblhhaaGreatDoor
def yn6:List Ev:=[⟨1,2,1,0,0,⟨#[]⟩,⟨#[]⟩,yag⟩,⟨9,7,12,1,0,⟨#[]⟩,⟨#[]⟩,yag⟩]
def yqq:Int×RM:=rmL (yac yjF) (rm0 (yac yjF)) yn6
def yhU:List Ev:=yaP 0 yqq.2.o
theorem yoY:yqq.1=0:=by kernel_rfl
theorem ydr:yhU.length=4:=by kernel_rfl
theorem ypX:(yhU[3]?.map (fun e=>(e.id,e.kind)))=some (4,16):=by kernel_rfl
theorem ypW:(yau (yhU.take 3)).length=(yau yhU).length:=by kernel_rfl
theorem yoX:(yaT (yhU.take 1)).length=0/\(yaw (yac yjF) ((yau (yhU.take 1)).map yam)).length=1:=⟨by kernel_rfl,by kernel_rfl⟩
theorem ymN:∀e∈yn6,e.v.wf:=by
 intro e A;have hv:e.v=yag:=by
  unfold yn6 at A;simp only[List.mem_cons,List.not_mem_nil,or_false]at A;rcases A with rfl|rfl<;>rfl
 rw[hv];exact ydt
theorem yoW:yfp yn6:=fun i e h=>by
 match i,h with
 |0,h=>cases h;exact⟨by kernel_rfl,rfl,⟨fun _=>rfl,fun _=>rfl⟩⟩
 |1,h=>cases h;exact⟨by kernel_rfl,rfl,⟨fun h=>absurd h (by decide),fun h=>absurd h (by decide)⟩⟩
theorem yjS {A:List Ev}{k:Nat}(h:RoK A k)(hk:k<=3000000):Rowy (yaP 0 A):=by
 refine⟨by rw[yes];have:=h.2;omega,?_⟩;have:∀(A:List Ev) (n:Nat),(∀e∈A,Okv e.v/\ydT e.kind=false)->∀e∈yaP n A,e.v.wf/\szV e.v<=1073741824:=by
  intro A
  induction A with
  |nil=>intro n _ e B;cases B
  |cons x A ih=>
   intro n h e B;rcases List.mem_cons.1 B with rfl|B
   .have C:=ya7 (h x zmf).1
    have:=ycq C;exact⟨C.2,by show szV (yaa x.v)<=_;omega⟩
   .exact ih (n+1) (fun y hy=>h y (zme _ hy)) e B
 exact this A 0 h.1
theorem Rowy.take {l:List Ev}(h:Rowy l)(k:Nat):Rowy (l.take k):=⟨znf (List.length_take_le' _ _) h.1,fun e he=>h.2 e (List.mem_of_mem_take he)⟩
end Go.Va
namespace Go.Proofs.YtpagmlndgblhhaaGreatDoor
open Go.RowKit Go.Own Go.Own.MapTy Go.Va Go.Sort
open Go.Own.Cells (sz enc)
set_option linter.unusedVariables false
set_option linter.unusedSimpArgs false
structure PrgX (F:Nat->Prop)(w:World)(b:Nat)(nm:ByteArray)(p:Img):Prop where
 ex:∃i:IC,b<w/\(w.cell? ⟨b,0,none⟩=some (.string nm)/\w.cell? ⟨b,1,none⟩=some (.slice i.ca i.cn i.cc)/\w.cell? ⟨b,2,none⟩=some (.slice i.ka i.kn i.kc)/\w.cell? ⟨b,3,none⟩=some (.slice i.na i.nn i.nc)/\w.cell? ⟨b,4,none⟩=some (.int .i64 i.pl))/\IAt F w i p
theorem PrgX.below {F:Nat->Prop}{w w':World}{b:Nat}{nm:ByteArray}{p:Img}(h:PrgX F w b nm p)(B:Below w w w'):PrgX F w' b nm p:=by
 obtain⟨i,A,⟨c0,c1,c2,c3,D⟩,C⟩:=h.ex;exact⟨i,znj A B.size,⟨(B.cell (p:=⟨b,0,none⟩) A).trans c0,(B.cell (p:=⟨b,1,none⟩) A).trans c1,(B.cell (p:=⟨b,2,none⟩) A).trans c2,(B.cell (p:=⟨b,3,none⟩) A).trans c3,(B.cell (p:=⟨b,4,none⟩) A).trans D⟩,C.keep (S:=fun _=>False) (zkb B) (fun _ _ f=>f)⟩
def ylf (W:World)(nm:ByteArray)(p:Img)(t:Bool)(e:Ending)(w':World):Prop:=∃b:Nat,e= .returned (bif t then .tuple #[.pointer (some ⟨b,0,none⟩),.int .i64 0]else .pointer (some ⟨b,0,none⟩))/\Hid (PrgX (fun g=>W<=g) w' b nm (yac p)/\W<=b/\Below W W w')
theorem yl2 (F:Nat->Prop)(W:World)(nm:ByteArray)(hn:nm.size<=64)(i:IC)(p:Img)(H:IAt F W i p)(hw:∀x∈p.consts,x.wf)(hr:imgL p=0):
  Calls Tryz.prog 115 #[nm,.agg #[.slice i.ca i.cn i.cc,.slice i.ka i.kn i.kc,.slice i.na i.nn i.nc,i.pl]] W (ylf W nm p true):=by
 obtain⟨G,C⟩:∃G,G=W.alloc (.cells #[.slice i.ca i.cn i.cc,.slice i.ka i.kn i.kc,.slice i.na i.nn i.nc,i.pl] 28):=⟨_,rfl⟩;have K:=zba C;have R:BoxI G W.heap.size i:=by rw[C];exact znb _ _
 have A:=ybE hr;have Y:=zhd (yct F G i p (H.keep (S:=fun _=>False) (zkb K) (fun _ _ f=>f)) 0 hw hr);have a:=zhd (fun X (B:Below G G X)=>ycs F X i p (H.keep (S:=fun _=>False) (zkb (K.trans (B.mono K.size))) (fun _ _ f=>f)) (fun x hx=>by have:=ycq (x:=x) ⟨ycx A.2.2.2.2.2.2.1 x hx,hw x hx⟩;omega) ⟨by have:=A.2.1;omega,by have:=A.2.2.1;omega,by have:=A.2.2.2.1;omega⟩);have T:=zh2 K R;obtain⟨Q,P,O,N,M⟩:=R.all5;have m:¬(64:Int)<nm.size:=by omega
 clear K R H hw hr A;go_in;go_wp2_with fail;rw[<-C];clear C;refine Y.o.mono ?_;rintro e d ⟨rfl,D⟩;have V:=T.o.2.below D;have L:=zh2 (T.o.1.trans (D.mono T.o.1.size)) D;clear Q P O N M Y D;obtain⟨Q,P,O,N,M⟩:=V.all5;clear V;go_wp2_with fail;refine(a.o _ L.o.2).mono ?_;rintro e U ⟨j,rfl,Z⟩;obtain⟨l,h,k,ka,kn,kc,na,nn,nc,pl⟩:=j;dsimp only;clear Q P O N M a;have E:=L.o.1.trans (Z.o.2.mono L.o.1.size);go_wp2_with fail;refine ybv ?_;intro c J;have I:=(show c.heap[U.heap.size]? =some _ by rw[J];exact znb _ _);have b:=zba J;exact zng (v:=.tuple #[.pointer (some ⟨U,0,none⟩),.int .i64 0]) (by simp only[results,Tryz.results115];go_simp) rfl ⟨_,rfl,zhd ⟨⟨⟨l,h,k,ka,kn,kc,na,nn,nc,pl⟩,zlt I,⟨by rw[zch I];rfl,by rw[zch I];rfl,by rw[zch I];rfl,by rw[zch I];rfl,by rw[zch I];rfl⟩,(Z.o.1.keep (S:=fun _=>False) (zkb b) (fun _ _ f=>f)).mono (fun g (hg:d<=g) _=>znf L.o.1.size hg)⟩,E.size,E.trans (b.mono E.size)⟩⟩
theorem yfB (F:Nat->Prop)(W:World)(nm:ByteArray)(hn:nm.size<=64)(i:IC)(p:Img)(H:IAt F W i p)(hw:∀x∈p.consts,x.wf)(hr:imgL p=0):
  Calls Tryz.prog 80 #[nm,.agg #[.slice i.ca i.cn i.cc,.slice i.ka i.kn i.kc,.slice i.na i.nn i.nc,i.pl]] W (ylf W nm p false):=by
 obtain⟨D,A⟩:∃D,D=W.alloc (.cells #[.slice i.ca i.cn i.cc,.slice i.ka i.kn i.kc,.slice i.na i.nn i.nc,i.pl] 28):=⟨_,rfl⟩;have E:=zba A;have G:=zhd (yl2 F D nm hn i p (H.keep (S:=fun _=>False) (zkb E) (fun _ _ f=>f)) hw hr);have C:=zhd E;clear E H hw hr hn;go_in;go_wp2_with fail;rw[<-A];clear A;refine G.o.mono ?_;rintro e I ⟨b,rfl,B⟩;dsimp only[znm];have M:=zhd (zai (show PrgX (fun g=>W<=g) I b nm (yac p)from by
  obtain⟨j,L,K,J⟩:=B.o.1.ex;exact⟨j,L,K,J.mono (fun g hg _=>znf C.o.size hg)⟩) (zai (znf C.o.size B.o.2.1) (C.o.trans (B.o.2.2.mono C.o.size))))
 clear B G;go_wp2;go_ret;exact⟨b,rfl,M⟩
def PM:MapTy ByteArray (Option Addr):=⟨fun s=>.string s,fun a=>.pointer a,fun a b h=>by simpa using h⟩
theorem yqj:KLaw PM Tryz.prog 9:=KLaw.of_now Tryz.underlying9 (fun W em x=>ymK 9999 em W x) (fun x y=>by simp[PM,Instr.sameNow];exact ypp x y) (fun x=>by simp[PM,Instr.sameBits];exact(ypp x x).trans (by simp))
theorem ynj {w:World}{b:Nat}{m:List (ByteArray×Option Addr)}(h:MapAt PM w b m)(x:ByteArray)(hx:MapTy.get m x=none):∀W:World,ycU w b W->(Instr.lookup 153 (.map (some b)) (.string x) false).run Tryz.prog W= .ok (.pointer none) W:=by
 intro W A;have:=h.lookS yqj Tryz.underlying153 (z:=.pointer none) (fun W=>by kernel_rfl) x false W A;rw[hx]at this;exact this
theorem ykw {b:Nat}{es:Array MapEntry}{clock:Nat}{w:World}(hb:w.heap[b]? =some (.map es clock))(ty:TypeId):
  (Builtin.len_ #[153] ty #[.map (some b)]).run Tryz.prog w= .ok (.int .i64 es.size) w:=by
 simp[Builtin.len_,run_underlying Tryz.underlying153,MapKept.run_getObj_map hb,goInt]
theorem yjd (F:Nat->Prop)(W:World)(b:Nat)(nm:ByteArray)(p:Img)(P:PrgX F W b nm p)(hw:∀x∈p.consts,x.wf)(hr:imgL p=0):
  Calls Tryz.prog 145 #[.pointer (some ⟨b,0,none⟩)] W (yli W p):=by
 obtain⟨i,E,⟨_,Y,X,V,U⟩,HI⟩:=P.ex;obtain⟨ca,cn,cc,O,M,N,L,J,K,I⟩:=i;dsimp only at Y X V U;have A:=ybE hr;obtain⟨H,B⟩:∃H,H=W.alloc (.cells #[.slice none 0 0,.slice none 0 0,.slice none 0 0,.int .i64 0] 28):=⟨_,rfl⟩;have C:=zba B;have t:=zha B;have y:=zhd (ycs F H ⟨ca,cn,cc,O,M,N,L,J,K,I⟩ p (HI.keep (S:=fun _=>False) (zkb C) (fun _ _ f=>f)) (fun x hx=>by have:=ycq (x:=x) ⟨ycx A.2.2.2.2.2.2.1 x hx,hw x hx⟩;omega) ⟨by have:=A.2.1;omega,by have:=A.2.2.1;omega,by have:=A.2.2.2.1;omega⟩);have c1:=(C.cell (p:=⟨b,1,none⟩) E).trans Y;have c2:=(C.cell (p:=⟨b,2,none⟩) E).trans X;have c3:=(C.cell (p:=⟨b,3,none⟩) E).trans V;have c4:=(C.cell (p:=⟨b,4,none⟩) E).trans U;have l0:=znj E C.size;have G:=zh2 C t;clear P E HI hw hr A C t Y X V U;go_in;go_upto_region 1 with(fail);rw[<-B];clear B;go_wp2_with fail;refine y.o.mono ?_;rintro e l ⟨j,rfl,k⟩;obtain⟨c,Z,a,O,M,N,L,J,K,I⟩:=j;dsimp only;have T:=(k.o.2.block W (zlt G.o.2)).trans G.o.2;obtain⟨s,r,q,n,m⟩:=zq4 T
 have z:∀o,l.frozen? ⟨W,o,none⟩=false:=fun o=>zfr T o;have d:=zhd T;clear c1 c2 c3 c4 l0 y T;go_wp2_with fail;refine ybv ?_;intro w2 D;have b2:w2.heap[W.heap.size]? =some (.cells #[.slice c Z a,.slice O M N,.slice L J K,I] 28 (0,0)):=by
  rw[D];have:=d.o;simp[World.setCell,zni,this]
 have u:Keeps (fun j=>j=W) l w2:=by
  rw[D]
  repeat(first|with_reducible exact Keeps.refl _ _|(refine Keeps.setCell ?_ (Or.inl ?h) _;case h=>rfl))
 have Q:=zhd u;clear D s r q n m z u;obtain⟨s,r,q,n,m⟩:=zq4 b2;have R:=G.o.1.trans (k.o.2.mono G.o.1.size);exact zng (v:=.agg #[.slice c Z a,.slice O M N,.slice L J K,I]) (by simp only[results,Tryz.results145];go_simp) rfl ⟨⟨c,Z,a,O,M,N,L,J,K,I⟩,rfl,zhd ⟨(k.o.1.keep Q.o (fun g (hg:H<=g) e=>by have:=zlt G.o.2;omega)).mono (fun g (hg:H<=g) _=>znf G.o.1.size hg),R.trans (Q.o.below R.size (fun j hj e=>by omega))⟩⟩
def ynZ (W:World)(mb:Nat)(m:List (ByteArray×Option Addr))(e:Ending)(w':World):Prop:=e= .returned (.int .i64 0)/\Hid (MapAt PM w' mb m/\Keeps (fun g=>g=mb) W w')
theorem ym7 {S:Nat->Prop}{w w':World}{b:Nat}{m:List (ByteArray×Option Addr)}(h:MapAt PM w b m)(K:Keeps S w w')(hn:¬S b):MapAt PM w' b m/\b<w:=by
 obtain⟨C,D,A,B⟩:=h;exact⟨⟨C,D,(K.block b (zlt A) hn).trans A,B⟩,zlt A⟩
theorem ylO (F:Nat->Prop)(W:World)(mb b:Nat)(nm:ByteArray)(p:Img)(P:PrgX F W b nm p)(hw:∀x∈p.consts,x.wf)(fa:Fa)(at_:Int)(hck:yaN p=(fa,at_,0))(m:List (ByteArray×Option Addr))(M:MapAt PM W mb m)(hx:MapTy.get m nm=none):
  Calls Tryz.prog 114 #[.map (some mb),.pointer (some ⟨b,0,none⟩)] W (ynZ W mb (upd m nm (some ⟨b,0,none⟩))):=by
 have c:imgL p=0:=(((yca hck).2 rfl).2).img;have B:=zhd (show∀X:World,Below W W X->Calls Tryz.prog 144 #[.pointer (some ⟨b,0,none⟩)] X (fun e w'=>e= .returned (.string nm)/\w'=X)from fun X BX=>by
  obtain⟨i,Q,⟨Z,_⟩,HI⟩:=P.ex;have c0:=(BX.cell (p:=⟨b,0,none⟩) Q).trans Z;have u:=znj Q BX.size;clear Z;clear Q HI;go_in;go_wp2;go_ret;exact⟨rfl,rfl⟩)
 have IM:=zhd (yjd F W b nm p P hw c);have VC:=zhd (fun X i (H:IAt (fun g=>W<=g) X i (yac p))=>yeY _ i (yac p) X H (fun x hx=>by
  obtain⟨y,n,rfl⟩:=List.mem_map.1 hx;exact ya9 _ (hw y n)) (fa,at_,0) ((ycy p).trans hck))
 have O:=ynj M nm hx;have r:=zhd M;have a:ycU W mb W:=rfl;clear P hw hck M hx c;go_in;go_wp2_with fail;refine(B.o W (znv _ _)).mono ?_;rintro e V ⟨rfl,G⟩;rw[G];clear G V;go_wp2_with fail;refine IM.o.mono ?_;rintro e V ⟨i,rfl,U⟩;go_wp2_with fail;refine(VC.o _ i U.o.1).mono ?_;rintro e s ⟨t,rfl,h⟩;obtain⟨v,c2,L⟩:=h.o.1.slice;subst L;have k:=U.o.2.trans (h.o.2.2.mono U.o.2.size);have C:=zhd k;clear k O a IM VC;go_upto_region 8 with(fail);refine yab ?_;intro w3 E;have K:Below W W w3:=by
  rw[E];exact(C.o.alloc (by have:=C.o.size;omega) _).alloc (by have:=C.o.size;simp;omega) _
 clear E;obtain⟨d,N⟩:=ym7 r.o (zkb (S:=fun _=>False) K) (fun f=>f);obtain⟨Y,I,A⟩:=MapAt.store d yqj Tryz.underlying153 nm (some ⟨b,0,none⟩);replace I:∀X:World,ycU w3 mb X->(Instr.mapUpdate 153 (.map (some mb)) (.string nm) (.pointer (some ⟨b,0,none⟩))).run Tryz.prog X= .ok () (setBlock X mb Y):=I;have J:=znj N K.size;have q:=zh2 (A _ (ybI _ _ _ J)) (((zkb (S:=fun _=>False) K).mono (T:=fun g=>g=mb) (fun _ _ f=>f.elim)).trans ((Keeps.refl (fun j=>j=mb) w3).setBlock (b:=mb) (.inl rfl) Y) (fun _ _ e=>e));have a:ycU w3 mb w3:=rfl;have R:=zhd (B.o w3 K);clear A d K B;go_wp2_with fail;refine R.o.mono ?_;rintro e l ⟨rfl,D⟩;rw[D];clear D l;go_wp2;go_ret;exact⟨rfl,q⟩
theorem ygc (F:Nat->Prop)(W:World)(g b:Nat)(hg:W.heap[g]? =some (.cells #[.pointer (some ⟨b,0,none⟩)] 155 (0,0)))(nm:ByteArray)(p:Img)(P:PrgX F W b nm p)(hw:∀x∈p.consts,x.wf)(fa:Fa)(at_:Int)(hck:yaN p=(fa,at_,0)):
  Calls Tryz.prog 79 #[.slice (some ⟨g,0,none⟩) 1 1] W (fun e w'=>∃(mb:Nat) (es:Array MapEntry) (ck:Nat),e= .returned (.map (some mb))/\Hid (w'.heap[mb]? =some (.map es ck)/\es.size=1/\Below W W w')):=by
 have I:= @run_makeMap Tryz.prog;obtain⟨D,A⟩:∃D,D=W.alloc (.map #[] 0):=⟨_,rfl⟩;have H:=zba A;have R:MapAt PM D W.heap.size []:=by rw[A];exact⟨#[],0,znb _ _,rfl,by simp⟩
 have L:=zhd (ylO F D W.heap.size b nm p (P.below H) hw fa at_ hck [] R rfl);have C:=(H.block g (zlt hg)).trans hg;have Q:=zca C 0 rfl;have O:=zlt C;have G:=zhd H;clear hg P hw hck H R C;go_in;go_wp2_with fail;rw[<-A];clear A I;go_loopg [9] 1 (fun gk v9 wr=>∃k:Nat,v9= .int .i64 k/\k<=1/\gk=1 - k/\(k=0->wr=D)/\(k=1->MapAt PM wr W.heap.size [(nm,some ⟨b,0,none⟩)]/\Below W W wr))
 case atStart=>exact⟨0,rfl,by omega,rfl,fun _=>rfl,fun h=>by cases h⟩
 case round=>
  obtain⟨k,rfl,hk,B,K,J⟩:=hrel;by_cases hk0:k=0
  .subst hk0
   obtain rfl:=K rfl;have U:=zhd B;clear B K J hk;go_wp2_with fail;refine L.o.mono ?_;rintro e V ⟨rfl,S⟩;clear L Q O;go_wp2_with fail;go_roundg (1 - (0+1))
   case measure=>have:=U.o;omega
   case rel=>exact⟨0+1,by first|rfl|(simp;done),by omega,rfl,(fun h=>by cases h),fun _=>⟨S.o.1,G.o.trans (S.o.2.below G.o.size (fun j hj e=>by omega))⟩⟩
  .obtain rfl:k=1:=by omega
   obtain⟨⟨es,ck,M,E,_⟩,N⟩:=J rfl;have T:=zhd (zai M (zai (show es.size=1 by
    have:=congrArg List.length E;rw[zmd,Array.length_toList]at this;exact this) N))
   clear B K J hk hk0 M E N L Q O;go_wp2;go_ret;exact⟨_,es,ck,rfl,T⟩
theorem yoa {w:World}{g:Nat}(h:w.heap[g]? =some (.cells #[.int .i64 1,.int .i64 2,.int .i64 1,.int .i64 0,.int .i64 0,.string ⟨#[]⟩,.string ⟨#[]⟩,.int .i64 0,.int .i64 0,.string ⟨#[]⟩,.slice none 0 0,.int .i64 9,.int .i64 7,.int .i64 12,.int .i64 1,.int .i64 0,.string ⟨#[]⟩,.string ⟨#[]⟩,.int .i64 0,.int .i64 0,.string ⟨#[]⟩,.slice none 0 0] 40 (0,0))):XRd (fun j=>j=g) w (.slice (some ⟨g,0,none⟩) 2 2) yn6:=by
 refine⟨[⟨1,2,1,0,0,⟨#[]⟩,⟨#[]⟩,⟨0,0,⟨#[]⟩,none,0,0⟩⟩,⟨9,7,12,1,0,⟨#[]⟩,⟨#[]⟩,⟨0,0,⟨#[]⟩,none,0,0⟩⟩],RdF.of_row (RowAt.made h rfl rfl (by unfold maxLen;omega)) (fun q hq=>by cases hq;rfl),rfl,fun i c x hc hx=> ?_⟩
 match i,hc,hx with
 |0,hc,hx=>cases hc;cases hx;exact⟨rfl,rfl,rfl,rfl,rfl,rfl,rfl,yaI _ _⟩
 |1,hc,hx=>cases hc;cases hx;exact⟨rfl,rfl,rfl,rfl,rfl,rfl,rfl,yaI _ _⟩
 |n+2,hc,hx=>cases hc
theorem yg5 {F:Nat->Prop}{w:World}{a:Option Addr}{n c:Nat}{l:List Ev}(X:XRow F w 40 (.slice a n c) l){k:Nat}(hk:k<=l.length):
  (∀W:World,(Instr.slice 22 (.slice a n c) none (some (.int .i64 (k:Int))) none).run Tryz.prog W= .ok (.slice a k c) W)/\XRow F w 40 (.slice a k c) (l.take k):=by
 obtain⟨E,D,C⟩:=X.cells;obtain⟨A,B⟩:=yiC yfP D (k:=k) (by rw[C.1];exact hk);exact⟨A,XRow.of B (C.take k)⟩
theorem yeo {N:Nat}{W:World}(G:Gl Tryz.prog N W){i:IC}{p:Img}{F:Nat->Prop}(H:IAt F W i p)(hw:∀x∈p.consts,x.wf){fa:Fa}{at_:Int}(hck:yaN p=(fa,at_,0)){a:Option Addr}{n c:Nat}{l:List Ev}(E:XRd (fun q=>q<W) W (.slice a n c) l)(hr:Rowy l)(ho:yau l≠[]/\(yau l).length<=30/\BegP (yaT l) (yaw (yac p) ((yau l).map yam))):
  Calls Tryz.prog 41 #[.agg #[.slice i.ca i.cn i.cc,.slice i.ka i.kn i.kc,.slice i.na i.nn i.nc,i.pl],.slice a n c] W (fun e w'=>e= .returned (.int .i64 0)/\Below W W w'):=
 ycD F W G i p H hw fa at_ hck a n c l E hr ho.2.1 0 (fun h=>absurd h ho.1) (fun _ _=>rfl) (fun _ h=>absurd ho.2.2 h)
theorem ydd {N:Nat}{W:World}(G:Gl Tryz.prog N W){i:IC}{p:Img}(H:IAt (fun j=>j<W) W i p)(hw:∀x∈p.consts,x.wf){fa:Fa}{at_:Int}(hck:yaN p=(fa,at_,0)){a:Option Addr}{n c:Nat}{l:List Ev}(E:XRd (fun q=>q<W) W (.slice a n c) l)(hr:Rowy l)(ho:yau l≠[]/\(yau l).length<=30/\BegP (yaT l) (yaw (yac p) ((yau l).map yam)))(r:Bool)(hrr:r=decide ((yaT l).length=(yaw (yac p) ((yau l).map yam)).length)):
  Calls Tryz.prog 42 #[.agg #[.slice i.ca i.cn i.cc,.slice i.ka i.kn i.kc,.slice i.na i.nn i.nc,i.pl],.slice a n c] W (fun e w'=>e= .returned (.bool r)/\Below W W w'):=
 ygY W G i p H hw fa at_ hck a n c l E hr ho.2.1 0 (fun h=>absurd h ho.1) (fun _ _=>rfl) (fun _ h=>absurd ho.2.2 h) r (by rw[hrr];rfl)
theorem yfo {N:Nat}(W:World)(G:Gl Tryz.prog N W):Calls Tryz.prog 37 #[] W fun e w'=>e= .returned (.bool true)/\Below W W w':=by
 have PA:=zhd (ynA▸yla ypj W G (by decide) (by kernel_rfl) ykF);have HG:=zhd G;obtain⟨fa,at_,er,I⟩:∃fa a e,yaN yjF=(fa,a,e):=⟨_,_,_,rfl⟩;obtain rfl:er=0:=by have:=ynz;rw[I]at this;exact this
 obtain⟨K,P,Ag,S⟩:=yc6 yez I;obtain⟨Y,T,U,V⟩:=ygk K P Ag S yoW ymN (by decide) (by decide) yoY (L:=yhU) rfl (by rw[ydr];decide);have A:=zh6 Y T U V I (((yca I).2 rfl).2).img;clear G K P Ag S Y T U V I;go_in;go_wp2_with fail;refine PA.o.mono ?_;rintro e C ⟨i1,rfl,Ai,Aj⟩;obtain⟨ca,cn,cc,u,s,t,r,n,p,m⟩:=i1;dsimp only;have HI:=zh2 Ai Aj;clear Ai Aj PA;go_upto_region 2 with(fail);refine yab ?_;intro w2 z;have B2:Below C C w2:=by rw[z];exact(zal).alloc (by simp) _
 have b2:BoxI w2 C.heap.size ⟨ca,cn,cc,u,s,t,r,n,p,m⟩:=by rw[z];exact yaD
 obtain⟨w3,O⟩:∃w3,w3=w2.alloc (.cells #[.int .i64 1,.int .i64 2,.int .i64 1,.int .i64 0,.int .i64 0,.string ⟨#[]⟩,.string ⟨#[]⟩,.int .i64 0,.int .i64 0,.string ⟨#[]⟩,.slice none 0 0,.int .i64 9,.int .i64 7,.int .i64 12,.int .i64 1,.int .i64 0,.string ⟨#[]⟩,.string ⟨#[]⟩,.int .i64 0,.int .i64 0,.string ⟨#[]⟩,.slice none 0 0] 40):=⟨_,rfl⟩;have B3:=zba O;have e3:=(show w3.heap[w2.heap.size]? =some _ by rw[O];exact znb _ _);have R:=B2.trans (B3.mono B2.size);have RN:=zhd (yd2 _ w3 (HG.o.below (HI.o.2.trans (R.mono HI.o.2.size))) ⟨ca,cn,cc,u,s,t,r,n,p,m⟩ yjF (HI.o.1.keep (S:=fun _=>False) (zkb R) (fun _ _ f=>f)) yez _ A.o.2.2.2.2.1 _ _ _ yn6 ((yoa e3).mono (fun g J hl=>hl)) ymN (by decide));have X3:=b2.below B3;obtain⟨q0,q1,q2,q3,ql⟩:=zq4 b2;have H3:=zh2 R X3;clear z B2 b2 B3 e3 R X3;go_wp2_with fail;rw[<-O];clear O;refine RN.o.mono ?_;rintro e w4 (⟨h,_⟩|⟨_,h,_⟩|⟨_,r4,rfl,H4⟩)
 .exact absurd rfl h
 .exact absurd yoY h
 have Z:XRow (fun g=>w3<=g/\¬r4.ownBlock=some g) w4 40 r4 yhU:=H4.o.2.1;have RY:Rowy yhU:=yjS H4.o.2.2.2.2 (by decide);obtain⟨a4,c4,rfl⟩:∃a c,r4= .slice a 4 c:=by
  obtain⟨a,c,h⟩:=Z.slice;rw[ydr]at h;exact⟨a,c,h⟩
 have Ah:3<yhU.length:=by rw[ydr];decide
 obtain⟨e4,Aa⟩:=yae (l:=yhU) (k:=3) Ah;have E:=ypX;rw[Aa]at E;obtain⟨g,D,vk,vn,vs,la,ln,lc,rfl,_,J,_,y0,_,y2,_⟩:=yc8 (Z.rd (G:=fun g=>g<w4) (fun g _ h=>h) (fun g J=>Z.lt J)) Aa;have E:(e4.id,e4.kind)=((4:Int),(16:Int)):=Option.some.inj E;rw[show e4.id=4 from congrArg Prod.fst E]at y0;rw[show e4.kind=16 from congrArg Prod.snd E]at y2;have B4:=H3.o.1.trans (H4.o.2.2.2.1.mono H3.o.1.size);have I4:=HI.o.1.keep (S:=fun _=>False) (zkb B4) (fun _ _ f=>f);have I4:=I4.mono (G:=fun j=>j<w4) (fun g _ h=>h);have G4:=HG.o.below (HI.o.2.trans (B4.mono HI.o.2.size));have b:=H3.o.2.below H4.o.2.2.2.1;have E4:=Z.rd (G:=fun g=>g<w4) (fun g _ h=>h) (fun g J=>Z.lt J);obtain⟨Af,i⟩:=yg5 Z (k:=1) (by rw[ydr];decide);obtain⟨Ae,d⟩:=yg5 Z (k:=3) (by rw[ydr];decide);have E1:=i.rd (G:=fun g=>g<w4) (fun g _ h=>h) (fun g J=>i.lt J);have E3:=d.rd (G:=fun g=>g<w4) (fun g _ h=>h) (fun g J=>d.lt J)
 have up:∀{X:World} (B:Below w4 w4 X) {v:Value} {l:List Ev},XRd (fun g=>g<w4) w4 v l->XRd (fun g=>g<X) X v l:=fun B _ _ h=>(h.below B).mono (fun q h _=>znj h B.size);have F:∀{X:World} (B:Below w4 w4 X),IAt (fun g=>g<X) X ⟨ca,cn,cc,u,s,t,r,n,p,m⟩ yjF:=fun B=>(I4.keep (S:=fun _=>False) (zkb B) (fun _ _ f=>f)).mono (fun q h _=>znj h B.size);have k4:=A.o.1 4 (by decide);rw[zmj (by rw[ydr];exact znc _)]at k4;have FT:=zhd (fun X (B:Below w4 w4 X)=>yeo (G4.below B) (F B) yez A.o.2.2.2.2.1 (up B E4) RY k4);have WT:=zhd (fun X (B:Below w4 w4 X)=>ydd (G4.below B) (F B) yez A.o.2.2.2.2.1 (up B E4) RY k4 true (by rw[A.o.2.1,zmd];exact(zno rfl).symm));have WF:=zhd (fun X (B:Below w4 w4 X)=>ydd (G4.below B) (F B) yez A.o.2.2.2.2.1 (up B E1) (RY.take 1) (A.o.1 1 (by decide)) false (by rw[yoX.1,yoX.2];rfl))
 have AG:=zhd (fun X (B:Below w4 w4 X)=>ycT X _ _ _ yhU (up B E4) _ _ _ (yhU.take 3) (up B E3) RY (RY.take 3) true true ⟨fun _=>(ymw yhU 3).2 ypW,fun _=>rfl⟩ ⟨fun _=>.inr (yit yhU 3),fun _=>rfl⟩);have PG:=zhd (fun X (B:Below w4 w4 X)=>yfB _ X ⟨#[112]⟩ (by decide) ⟨ca,cn,cc,u,s,t,r,n,p,m⟩ yjF (F B) yez A.o.2.2.2.2.2);have Ad:=zh2 b B4;have t1:∀W:World,(Instr.slice 22 (.slice (some ⟨g,D,none⟩) 4 c4) none (some (.int .i64 1)) none).run Tryz.prog W= .ok (.slice (some ⟨g,D,none⟩) 1 c4) W:=Af;have t3:∀W:World,(Instr.slice 22 (.slice (some ⟨g,D,none⟩) 4 c4) none (some (.int .i64 3)) none).run Tryz.prog W= .ok (.slice (some ⟨g,D,none⟩) 3 c4) W:=Ae;obtain⟨q0,q1,q2,q3,ql⟩:w4.cell? ⟨C,0,none⟩=some (.slice ca cn cc)/\w4.cell? ⟨C,1,none⟩=some (.slice u s t)/\w4.cell? ⟨C,2,none⟩=some (.slice r n p)/\w4.cell? ⟨C,3,none⟩=some (.int .i64 m)/\C<w4.heap.size:=⟨by rw[zch b];rfl,by rw[zch b];rfl,by rw[zch b];rfl,by rw[zch b];rfl,zlt b⟩;have y0:w4.cell? ⟨g,D+33,none⟩=some (.int .i64 4):=y0;have y2:w4.cell? ⟨g,D+33+2,none⟩=some (.int .i64 16):=y2
 have y3:w4.cell? ⟨g,D+35,none⟩=some (.int .i64 16):=y2;have gl:g<w4:=J;clear H4 Z RY Aa E B4 I4 G4 b E4 Af i Ae d E1 E3 up F k4 Ah RN;have hD:Below w4 w4 w4.drew:=(znv _ _).drew;go_upto_region 3 with(fail);go_cut [57] (fun v57 wx=>v57= .bool false/\Below w4 w4 wx)
 case first=>
  refine yaA (by kernel_rfl) (by kernel_rfl) ?_
  iterate 33 (go_big_quiet_step (first|(go_at_call 41;exact yci (FT.o _ (yeq _)))|(go_at_call 42;exact yci (WT.o _ (yeq _)))))
  clear FT WT
  repeat(go_big_quiet_step ((go_at_call 42;exact yci (WF.o _ (yeq _)))))
  refine wpQuiet_nil ?_;intro wz Ak;go_wp2_with fail;go_meet
  case rel=>exact⟨rfl,Ak⟩
 case rest=>
  obtain⟨rfl,Ac⟩:=hcut;have Q:=zh2 Ac ((Ad.o.1:BoxI _ _ _).below Ac);clear q0 q1 q2 q3 ql y0 y2 y3 gl Ac hD FT WT WF;obtain⟨q0,q1,q2,q3,ql⟩:wc.cell? ⟨C,0,none⟩=some (.slice ca cn cc)/\wc.cell? ⟨C,1,none⟩=some (.slice u s t)/\wc.cell? ⟨C,2,none⟩=some (.slice r n p)/\wc.cell? ⟨C,3,none⟩=some (.int .i64 m)/\C<wc.heap.size:=⟨by rw[zch Q.o.2];rfl,by rw[zch Q.o.2];rfl,by rw[zch Q.o.2];rfl,by rw[zch Q.o.2];rfl,zlt Q.o.2⟩;go_wp2_with fail;refine(AG.o _ Q.o.1).mono ?_;rintro e w6 ⟨rfl,Ab⟩;have X6:=(Q.o.2:BoxI _ _ _).below Ab;have H6:=zhd (Q.o.1.trans (Ab.mono Q.o.1.size));clear q0 q1 q2 q3 ql Ab AG;obtain⟨q0,q1,q2,q3,ql⟩:w6.cell? ⟨C,0,none⟩=some (.slice ca cn cc)/\w6.cell? ⟨C,1,none⟩=some (.slice u s t)/\w6.cell? ⟨C,2,none⟩=some (.slice r n p)/\w6.cell? ⟨C,3,none⟩=some (.int .i64 m)/\C<w6.heap.size:=⟨by rw[zch X6];rfl,by rw[zch X6];rfl,by rw[zch X6];rfl,by rw[zch X6];rfl,zlt X6⟩;clear X6;go_wp2_with fail;refine(PG.o _ H6.o).mono ?_;rintro e w7 ⟨b7,rfl,H7⟩;dsimp only[znl]
  obtain⟨w8,M⟩:∃w8,w8=w7.alloc (.cells #[.pointer (some ⟨b7,0,none⟩)] 155):=⟨_,rfl⟩;have B8:=zba M;have PR:=zhd (ygc _ w8 w7.heap.size b7 (by rw[M];exact znb _ _) ⟨#[112]⟩ (yac yjF) (H7.o.1.below B8) (fun x hx=>by
   obtain⟨y,hy,rfl⟩:=List.mem_map.1 hx;exact ya9 _ (yez y hy)) fa at_ ((ycy yjF).trans A.o.2.2.2.2.1))
  have H8:=zhd (H6.o.trans ((H7.o.2.2.trans (B8.mono H7.o.2.2.size)).mono H6.o.size));clear q0 q1 q2 q3 ql PG H7 B8;go_wp2_with fail;rw[<-M];clear M;refine PR.o.mono ?_;rintro e w9 ⟨mb,es,ck,rfl,H9⟩;have H:=fun ty=>ykw H9.o.1 ty;rw[H9.o.2.1]at H;have H:∀ty:TypeId,(Builtin.len_ #[153] ty #[.map (some mb)]).run Tryz.prog w9= .ok (.int .i64 1) w9:=H;have Al:=zhd (HI.o.2.trans ((Ad.o.2.trans ((H8.o.trans (H9.o.2.2.mono H8.o.size)).mono Ad.o.2.size)).mono HI.o.2.size));clear H9 PR;go_wp2;go_ret;exact⟨rfl,Al.o⟩
end Go.Proofs.YtpagmlndgblhhaaGreatDoor
