/- Parts of the proof: what the functions and the plain laws give that later parts lean on. Conditions: none beyond those that each theorem names. -/
import Derived.StillTailTactics
import Derived.Test.YtpagmlndgblhhaaGreatDoorR20
set_option maxRecDepth 100000
set_option maxHeartbeats 8000000
namespace Go.Va
open Go.Own Go.RowKit
open Go.Proofs.YtpagmlndgblhhaaGreatDoor
set_option linter.unusedVariables false
theorem yje (p:Img):∀(f:Nat) (s:MS),∃k,(ya2 p f s).made=s.made++k
 |0,s=>⟨[],by rw[List.append_nil];rfl⟩
 |f+1,s=>by
  rw[ya2];cases s.over with
  |true=>exact⟨[],(List.append_nil _).symm⟩
  |false=>
   simp only[znl];cases hs:yak p s with
   |none=>exact⟨[],(List.append_nil _).symm⟩
   |some s'=>
    obtain⟨l,h1,_⟩:=MdR.step hs;obtain⟨k,h2⟩:=yje p f {s' with steps:=s'.steps+1};exact⟨l++k,by dsimp only;rw[h2,←List.append_assoc,←h1]⟩
theorem ykn (p:Img)(s:MS)(e:Ev):∃k,(yay p s e).2.made=s.made++k:=by
 rcases yeg p s e with⟨_,h⟩|⟨_,_,_,_,h⟩
 ·rw[h];exact⟨[],(List.append_nil _).symm⟩
 ·rw[h]
  obtain⟨k,hk⟩:=yje p (fuel p (hear {s with now:=e.time,steps:=0,events:=s.events+1} e)) (hear {s with now:=e.time,steps:=0,events:=s.events+1} e);exact⟨k,by show(ya2 p _ _).made=_;rw[hk,(ydU _ _).1]⟩
def ycj (l:List Ev):List Ev:=l.filter (fun e=>yaS e.kind)
def yiT (l:List Ev):List Ev:=l.filter (fun e=>yb7 e.kind)
theorem ydk (a b:List Ev):ycj (a++b)=ycj a++ycj b:=List.filter_append ..
theorem yhz (a b:List Ev):yiT (a++b)=yiT a++yiT b:=List.filter_append ..
theorem ykR {k:Int}(h:yaS k=true):yb7 k=false:=by
 unfold yb7;have:=out_kinds2 h;exact znd (by omega)
where out_kinds2 {k:Int} (h:yaS k=true):k=1∨k=8∨k=9∨k=10∨k=12∨k=14∨k=15∨k=19∨k=20:=znx h
theorem yk0 {k:Int}(h:yb7 k=true):yaS k=false:=by
 cases ho:yaS k with
 |false=>rfl
 |true=>rw[ykR ho]at h;cases h
def ycW (p:Img)(s:MS)(l:List Ev):MS:=l.foldl (fun s e=>(yay p s e).2) s
theorem yjQ (p:Img)(s:MS)(a b:List Ev):ycW p s (a++b)=ycW p (ycW p s a) b:=List.foldl_append ..
def NL (F:List Int)(l:List Cm):List Cm:=l.filter (fun c=> !ybP F c)
theorem ynL (F:List Int)(a b:List Cm):NL F (a++b)=NL F a++NL F b:=List.filter_append ..
theorem ykp (F:List Int)(c:Cm)(l:List Cm):NL F (c::l)=bif ybP F c then NL F l else c::NL F l:=by
 unfold NL;rw[List.filter_cons];cases ybP F c<;>rfl
def yo3 (e:Ev):Ev:={e with id:=0,b:=if e.kind=21 then 0 else e.b,v:=yab e.v}
theorem yeK (c:Cm):evOfC {c with v:=yab c.v}=evOfC c:=by
 unfold evOfC;simp only[yeb]
theorem ybF {p:Img}{r:RP}(h:r.err≠0):∀l,yaK p r l=r
 |[]=>rfl
 |e::l=>by
  rw[yaK,show(r.err !=0)=true by simpa using h];rfl
theorem ycJ {p:Img}{r:RP}(h:r.err=0)(e:Ev)(l:List Ev):yaK p r (e::l)=yaK p {(ybo p r e).2 with err:=(ybo p r e).1} l:=by
 rw[yaK,show(r.err !=0)=false by simpa using h];rfl
theorem yb3 {r:RP}{e:Ev}(h0:yaj e=0)(h1:e.id=(r.seen:Int)+1)(h2:r.closed=false)(h3:(r.seen=0↔e.kind=1)):ybh r e=0:=by
 unfold ybh;rw[if_neg (by simpa using h0),if_neg (by simpa using h1),if_neg (by rw[h2];decide),if_neg (by omega)]
theorem yhV {r:RP}{e:Ev}(h:ybh r e=0):yaj e=0∧e.id=(r.seen:Int)+1∧r.closed=false∧(r.seen=0↔e.kind=1):=by
 unfold ybh at h;split at h
 ·cases h
 ·split at h
  ·cases h
  ·split at h
   ·cases h
   ·split at h
    ·cases h
    ·rename_i g1 g2 g3 g4
     exact⟨by simpa using g1,by simpa using g2,by simpa using g3,by omega⟩
set_option linter.unusedVariables false in
theorem ycd {p:Img}{r:RP}{e:Ev}(h:ybh r e=0):ybo p r e=
  (if yaS e.kind=true then((0:Int),{r with m:=(yay p r.m e).2,seen:=r.seen+1,fired:=if e.kind=12 then e.a::r.fired else r.fired,closed:=ybq e.kind})else
  if yb7 e.kind=true then
   match r.m.made[ybr r.fired (r.m.made.drop r.next) r.next]? with
   |none=>(150,{r with seen:=r.seen+1,next:=ybr r.fired (r.m.made.drop r.next) r.next})
   |some c=>if ye7 c e=true then(0,{r with seen:=r.seen+1,next:=ybr r.fired (r.m.made.drop r.next) r.next+1,closed:=ybq e.kind})else(150,{r with seen:=r.seen+1,next:=ybr r.fired (r.m.made.drop r.next) r.next})
  else(0,{r with seen:=r.seen+1,closed:=ybq e.kind}):Int×RP):=by
 obtain⟨h0,h1,h2,h3⟩:=yhV h;unfold ybo;rw[if_neg (by simpa using h0),if_neg (by simpa using h1),if_neg (by rw[h2];decide),if_neg (by omega)];rfl
theorem yeU (F:List Int):∀(l:List Cm) (n:Nat),∃a b,l=a++b∧ybr F l n=n+a.length∧NL F a=[]∧(b=[]∨∃c r,b=c::r∧ybP F c=false)
 |[],n=>⟨[],[],rfl,rfl,rfl,.inl rfl⟩
 |c::l,n=>by
  cases hc:ybP F c with
  |false=>exact⟨[],c::l,rfl,by rw[ybr,hc];rfl,rfl,.inr ⟨c,l,rfl,hc⟩⟩
  |true=>
   obtain⟨a,b,h1,h2,h3,h4⟩:=yeU F l (n+1);refine⟨c::a,b,by rw[h1];rfl,?_,?_,h4⟩
   ·rw[ybr,hc,znm,h2,List.length_cons];omega
   ·rw[ykp,hc];exact h3
theorem yk5 {F G:List Int}{c:Cm}(h:∀a,a∈F↔a∈G):ybP F c=ybP G c:=by
 unfold ybP;rw[show decide (c.a∈F)=decide (c.a∈G)from decide_eq_decide.2 (h c.a)]
theorem ynK {F G:List Int}(h:∀a,a∈F↔a∈G)(l:List Cm):NL F l=NL G l:=by
 unfold NL
 congr 1
 funext c
 rw[yk5 h]
structure HI (p:Img)(l:List Ev)(r:RP):Prop where
 fed:yaK p (rp0 p) l=r
 err:r.err=0
 seen:r.seen=l.length
 mach:r.m=ycW p (ms0 p) (ycj l)
 fired:∀a,a∈r.fired↔∃e∈l,e.kind=12∧e.a=a
 closed:r.closed=(l.getLast?.map (fun e=>ybq e.kind)).getD false
 next:r.next≤r.m.made.length
 gone:∀e∈l,e.kind=13→e.a∉r.fired
 found:(yiT l).map yo3=(NL r.fired (r.m.made.take r.next)).map evOfC
set_option linter.unusedVariables false
structure BK where
 list:List Ev
 over:Bool
def yoU (b:BK)(e:Ev):BK:=⟨b.list++[{e with id:=(b.list.length:Int)+1}],b.over||ybq e.kind⟩
def ynp (l:List Ev)(a:Int):Bool:=l.any (fun e=>(e.kind==12)&&(e.a==a))
def yo8 (l:List Ev)(a:Int):Bool:=l.any (fun e=>(e.kind==13)&&(e.a==a))
def evW (c:Cm):Ev:=if(evOfC c).kind=21 then{evOfC c with b:=2}else evOfC c
def yoR (most:Int):List Cm→Int→BK→BK
 |[],_,b=>b
 |c::r,i,b=>bif (i==most)||b.over then b else yoR most r (i+1) (bif (c.kind !=2)|| !ynp b.list c.a then yoU b (evW c)else b)
def yn8 (l:List Ev):Int:=(l.getLast?.map (·.time)).getD 0
def yn4 (l:List Ev):Ev:=⟨0,yn8 l,4,0,0,⟨#[]⟩,⟨#[]⟩,yai⟩
def rB (p:Img)(b:BK):RP:=yaK p (rp0 p) b.list
def yon (p:Img)(b:BK)(seen:Nat)(most:Int):Bool×BK:=
 bif (yaK p (rp0 p) (b.list.take seen)).err !=0 then(false,b)else(true,yoR most (ybD (yaK p (rp0 p) (b.list.take seen))) 0 (yoU b (yn4 b.list)))
def yo0 (last len:Nat)(y:Int):Nat:=max last (len - (max 0 (min y ((len:Int) - 1))).toNat)
structure Bk (p:Img)(fa:Fa)(b:BK)(n t:Nat):Prop where
 hi:HI p b.list (rB p b)
 over:(rB p b).closed=b.over
 evs:∀e∈b.list,yaj e=0∧e.v.wf
 out:(ycj b.list).length≤n
 cnt:b.list.length≤n+t+(yiT b.list).length
 st:St p fa (rB p b).m
 ev:(rB p b).m.events≤n
section
variable{p:Img} {fa:Fa} {b:BK} {n t:Nat}
structure CmI (p:Img)(fa:Fa)(n t:Nat)(F:List Int)(cs rest:List Cm)(b:BK):Prop where
 bk:Bk p fa b n t
 ne:b.list≠[]
 fired:(rB p b).fired=F
 nl:NL F ((rB p b).m.made.drop (rB p b).next)=NL F cs++rest
end
end Go.Va
namespace Go.Proofs.YtpagmlndgblhhaaGreatDoor
open Go.RowKit Go.Own Go.Own.MapTy Go.Va Go.Sort
open Go.Own.Cells (sz enc)
def yaG (c:Cm):Cm:={c with v:=yab c.v}
def yhT (W:World)(l:List Cm)(e:Ending)(w':World):Prop:=∃r:Value,e= .returned r∧Hid (XRow (fun g=>W.heap.size≤g) w' 52 r l∧(∀g,r.ownBlock=some g→W.heap.size≤g)∧Below W.heap.size W w')
theorem yaY {α β:Type}[Cells α][Elt α β]{F:Nat→Prop}{w:World}{e:TypeId}{v:Value}{l:List β}(h:XRow F w e v l):∃a n c,v= .slice a n c:=by
 obtain⟨a,c,h⟩:=h.slice;exact⟨_,_,_,h⟩
def yoG (W:World)(l:List Cm)(gk:Nat)(v3 v11:Value)(wr:World):Prop:=
 ∃i:Nat,v11= .int .i64 i∧i≤l.length∧gk=l.length - i∧XRow (fun g=>W.heap.size≤g∧¬v3.ownBlock=some g) wr 52 v3 ((l.take i).map yaG)∧(∀g,v3.ownBlock=some g→W.heap.size≤g)∧Below W.heap.size W wr
theorem ye4
  {Z:Nat→Prop}(b:Nat)(v:MV)(p:Img)(s:MS)(W:World)(M:MX TT Z W b v p s)
  (hz:∀c∈s.made,szV c.v≤1073741824)(hl:s.made.length≤4294967296):
  Calls Tryz.prog 49 #[.pointer (some ⟨b,0,none⟩)] W (yhT W (s.made.map yaG)):=by
 obtain⟨am,cap,hms⟩:∃a cap,v.ms= .slice a s.made.length cap:=M.mds.slice;have c21:W.cell? ⟨b,21,none⟩=some (.slice am s.made.length cap):=by rw[←hms];exact M.cell (k:=21) rfl
 have hR:XRow (MZ Z v b) W 52 (.slice am s.made.length cap) s.made:=hms▸M.mds;have b0:=zlt M.h;have HX:=zh3 hR hz hl;clear M hms hR hz hl;go_enter Tryz.func49,Tryz.ntmps49;go_wp2_with fail;obtain⟨n,hn⟩:∃n,s.made.length=n:=⟨_,rfl⟩;have HN:=zhd hn;rw[hn];clear hn c21;go_loopg [3,11] n (fun gk v3 v11 wr=>yoG W s.made gk v3 v11 wr)
 case atStart=>exact⟨0,rfl,znq _,by rw[HN.o];rfl,XRow.nil _ _ _,(fun g h=>by cases h),znv _ _⟩
 case round=>
  obtain⟨i,rfl,hi,hgk,hX,hO,hB⟩:=hrel;rw[HN.o]at hi hgk;by_cases hin:i<n
  ·obtain⟨c,hc⟩:=yad (l:=s.made) (k:=i) (by rw[HN.o];exact hin)
   obtain⟨g,off,cc,rfl,hg,hrel,_,hcs⟩:=HX.o.1.at_ hc;have hin':(i:Int)<(n:Int):=by omega
   have hwi:wrap64 ((i:Int)+1)=(i:Int)+1:=by have:=HX.o.2.2;have:=HN.o;unfold wrap64;omega
   obtain⟨ck,ct,ca,cb,cn,⟨vk,vn,vs,la,ln,lc⟩⟩:=cc;have m0:W.cell? ⟨g,off+i*9,none⟩=some (.int .i64 ck):=hcs 0 _ rfl;have m1:W.cell? ⟨g,off+i*9+1,none⟩=some (.int .i64 ct):=hcs 1 _ rfl;have m2:W.cell? ⟨g,off+i*9+2,none⟩=some (.int .i64 ca):=hcs 2 _ rfl;have m3:W.cell? ⟨g,off+i*9+3,none⟩=some (.int .i64 cb):=hcs 3 _ rfl;have m4:W.cell? ⟨g,off+i*9+4,none⟩=some (.string cn):=hcs 4 _ rfl;have m5:W.cell? ⟨g,off+i*9+5,none⟩=some (.int .i64 vk):=hcs 5 _ rfl;have m6:W.cell? ⟨g,off+i*9+6,none⟩=some (.int .i64 vn):=hcs 6 _ rfl;have m7:W.cell? ⟨g,off+i*9+7,none⟩=some (.string vs):=hcs 7 _ rfl;have m8:W.cell? ⟨g,off+i*9+8,none⟩=some (.slice la ln lc):=hcs 8 _ rfl;rw[←hB.cell (p:=⟨g,_,none⟩) hg]at m0 m1 m2 m3 m4 m5 m6 m7 m8;have hgl:g<wr.heap.size:=znj hg hB.size;have hrel2:CmF (MZ Z v b) W ⟨ck,ct,ca,cb,cn,⟨vk,vn,vs,la,ln,lc⟩⟩ c:=hrel;have hzc:=HX.o.2.1 c (zmg hc);have H0:=zh7 hX hO hB hrel2 hc hgk hzc;clear hcs hrel hrel2 hX hO hB hc hgk hi hzc;go_upto_region 5 with(fail);refine yaa ?_;intro w1 hw1;have B1:=zba hw1;have hb1:=zha hw1;have q5:=zca hb1 5 rfl;have q6:=zca hb1 6 rfl;have q7:=zca hb1 7 rfl;have q8:=zca hb1 8 rfl;have hl1:=zlt hb1
   have CL:=zhd (yav c.v vk vn vs la ln lc _ w1 ((H0.o.2.2.2.1.v.keep (S:=fun _=>False) (zkb H0.o.2.2.1) (fun _ _ f=>f)).keep (S:=fun _=>False) (zkb B1) (fun _ _ f=>f)) H0.o.2.2.2.2.2.2);have H1:=zh2 B1 hb1;clear hw1 B1 hb1 m0 m1 m2 m3 m4 m5 m6 m7 m8;go_wp2_with fail;refine CL.o.mono ?_;rintro e w2 ⟨⟨k8,n8,s8,la8,ln8,lc8⟩,rfl,H2⟩;have hb2:=(H2.o.2.block wr.heap.size hl1).trans H1.o.2;have hf2:∀o,w2.frozen? ⟨wr.heap.size,o,none⟩=false:=fun o=>zfr hb2 o;have hl2:=zlt hb2;have q5:=zca hb2 5 rfl;have q6:=zca hb2 6 rfl;have q7:=zca hb2 7 rfl;have q8:=zca hb2 8 rfl;have HB2:=zhd hb2;clear hb2;go_upto_region 6 with(fail);refine yaa ?_;intro w3 hw3;have hb3:w3.heap[wr.heap.size]? =some (.cells #[.int .i64 ck,.int .i64 ct,.int .i64 ca,.int .i64 cb,.string cn,.int .i64 k8,.int .i64 n8,.string s8,.slice la8 ln8 lc8] 52 (0,0)):=by
    rw[hw3];have:=HB2.o;simp[World.setCell,zni,this]
   have K3:Keeps (fun j=>j=wr.heap.size) w2 w3:=by rw[hw3];exact yb9 w2 wr.heap.size 5 6 7 8 _ _ _ _
   have q0:=zca hb3 0 rfl;have q1:=zca hb3 1 rfl;have q2:=zca hb3 2 rfl;have q3:=zca hb3 3 rfl;have q4:=zca hb3 4 rfl;have q5:=zca hb3 5 rfl;have q6:=zca hb3 6 rfl;have q7:=zca hb3 7 rfl;have q8:=zca hb3 8 rfl;have hl3:=zlt hb3;have B12:Below wr.heap.size wr w2:=H1.o.1.trans (H2.o.2.mono H1.o.1.size);have B13:Below wr.heap.size wr w3:=B12.trans (K3.below B12.size (fun jz hj e=>Nat.ne_of_lt hj e));have C3:CF (fun g=>wr.heap.size≤g∧g≠wr.heap.size) w3 ⟨k8,n8,s8,la8,ln8,lc8⟩ (yab c.v):=(H2.o.1.mono (G:=fun g=>wr.heap.size≤g∧g≠wr.heap.size) (fun g hg _=>by have hg:w1.heap.size≤g:=hg;omega)).keep K3 (fun g hg e=>hg.2 e);obtain⟨va,vl,vc,hv3⟩:=yaY H0.o.1;subst hv3;obtain⟨ks,hKR,hKP⟩:=(H0.o.1.below B13).cells;have hkl:ks.length=i:=by
    rw[hKP.1,zmd,List.length_take];have:=HN.o;omega
   have RA:=zhd (hKR.below ((znv w3.heap.size w3).alloc (znc _) (.cells #[.int .i64 ck,.int .i64 ct,.int .i64 ca,.int .i64 cb,.string cn,.int .i64 k8,.int .i64 n8,.string s8,.slice la8 ln8 lc8] 52)));have HBD:=zhd (show(ks.length+1)*104≤140737488355328∧ks.length+1≤maxLen from by have:=HX.o.2.2;have:=HN.o;rw[hkl];unfold maxLen;omega);have H3:=zh4 hKP C3 B13 hkl;clear hw3 hb3 K3 B12 B13 C3 hKR hKP hkl;go_wp2_with (at_builtin;refine ybR (α:=CC) ylm rfl (.tmp 19) (.tmp 21) rfl RA.o (⟨ck,ct,ca,cb,cn,⟨k8,n8,s8,la8,ln8,lc8⟩⟩:CC) rfl rfl (znb _ _) HBD.o.1 HBD.o.2 ?_;intro a1 c1 w4 hr1 hk1 hf1;have HF:=zh3 hr1 hk1 hf1;clear hr1 hk1 hf1);go_roundg (n - (i+1))
   case measure=>have h1:=H0.o.2.2.2.2.2.1;have h2:=HN.o;omega
   case rel=>
    have A4:Below w3.heap.size w3 (w3.alloc (.cells (enc (⟨ck,ct,ca,cb,cn,⟨k8,n8,s8,la8,ln8,lc8⟩⟩:CC)).toArray 52)):=zal;have hw3:W.heap.size≤w3.heap.size:=znf H0.o.2.2.1.size H3.o.2.2.1.size;have hwa:wr.heap.size≤w3.heap.size:=H3.o.2.2.1.size;have hsz:(w3.alloc (.cells (enc (⟨ck,ct,ca,cb,cn,⟨k8,n8,s8,la8,ln8,lc8⟩⟩:CC)).toArray 52)).heap.size=w3.heap.size+1:=by simp
    have hvo:∀g,(Value.slice va vl vc).ownBlock=some g→W.heap.size≤g∧g<wr.heap.size:=fun g hg=>⟨H0.o.2.1 g hg,H0.o.1.lt hg⟩;have hta:s.made.take (i+1)=s.made.take i++[c]:=by rw[List.take_add_one,H0.o.2.2.2.2.1];rfl
    refine⟨i+1,by simp[hwi],by rw[HN.o];omega,by rw[HN.o],?_,?_,?_⟩
    ·rw[hta,List.map_append,List.map_singleton]
     have P1:Ptw (fun g=>W.heap.size≤g∧¬(Value.slice va vl vc).ownBlock=some g) w3 (ks++[⟨ck,ct,ca,cb,cn,⟨k8,n8,s8,la8,ln8,lc8⟩⟩]) ((s.made.take i).map yaG++[yaG c]):=H3.o.1.app (Ptw.one (x:=yaG c) ⟨H0.o.2.2.2.1.kind,H0.o.2.2.2.1.time,H0.o.2.2.2.1.a,H0.o.2.2.2.1.b,H0.o.2.2.2.1.name,H3.o.2.1.mono (fun g hg _=>⟨znf H0.o.2.2.1.size hg.1,fun e=>by have:=(hvo g e).2;omega⟩)⟩);have P2:Ptw (fun g=>(W.heap.size≤g∧¬(Value.slice va vl vc).ownBlock=some g)∧g<w3.heap.size) w3 (ks++[⟨ck,ct,ca,cb,cn,⟨k8,n8,s8,la8,ln8,lc8⟩⟩]) ((s.made.take i).map yaG++[yaG c]):=P1.mono (fun g hg hl=>⟨hg,hl⟩);have P3:=(P2.keep (S:=fun _=>False) (zkb A4) (fun _ _ f=>f)).keep HF.o.2.1 (fun g hg e=>hg.1.2 e);refine XRow.of HF.o.1 (Ptw.mono P3 ?_);intro g hg _;refine⟨hg.1.1,fun e=> ?_⟩;rcases HF.o.2.2 g e with h|h
     ·exact hg.1.2 h
     ·have h:w3.heap.size+1≤g:=by simpa using h
      have:=hg.2;omega
    ·intro g hg
     rcases HF.o.2.2 g hg with h|h
     ·exact(hvo g h).1
     ·have h:w3.heap.size+1≤g:=by simpa using h
      omega
    ·have K34:=((zkb (S:=fun _=>False) A4).mono (fun _ _ f=>f.elim)).trans HF.o.2.1 (fun _ _ e=>e)
     exact(H0.o.2.2.1.trans (H3.o.2.2.1.mono H0.o.2.2.1.size)).trans (K34.below hw3 (fun j hj e=>by have:=hvo j e;omega))
  ·obtain rfl:i=n:=by omega
   have hnn:¬(i:Int)<i:=by omega
   have hT:s.made.take i=s.made:=zmj (by rw[HN.o];exact znc _);rw[hT]at hX;have H0:=zh3 (hX.mono (G:=fun g=>W.heap.size≤g) (fun g h _=>h.1)) hO hB;clear hX hO hB hgk hT hi;go_wp2_with fail;go_ret;exact⟨_,rfl,zhd H0.o⟩
theorem yj1
  {Z:Nat→Prop}(b:Nat)(v:MV)(p:Img)(s:MS)(W:World)(M:MX TT Z W b v p s)
  (k:Int)(hl:s.made.length≤4294967296)(hZ:∀j,W.heap.size≤j→Z j)(hz:szV s.top≤1073741824)(s':MS)(hs':s'=s.pop.want ⟨4,0,0,0,⟨#[]⟩,s.top⟩):
  Calls Tryz.prog 157 #[.pointer (some ⟨b,0,none⟩),.agg #[.int .i64 25,.int .i64 k]] W (MP Z W b v p (.tuple #[]) s'):=by
 obtain⟨w0,hw0⟩:∃w0,w0=W.alloc (.cells #[.int .i64 25,.int .i64 k] 106):=⟨_,rfl⟩;have B0:=zba hw0;have PO:=zhd (yag b v p s w0 (M.ext B0));have HX:=zh5 M B0 hs' hl hZ;clear M B0 hs' hl hZ;go_enter Tryz.func157,Tryz.ntmps157;go_wp2_with fail;rw[←hw0];clear hw0;refine PO.o.mono ?_;rintro e w1 ⟨v1,⟨ck,cn,cs,la,ln,lc⟩,rfl,H1⟩;have WA:=zhd (ybS b v1 p s.pop w1 H1.o.1 4 0 0 0 ⟨#[]⟩ s.top ck cn cs la ln lc _ H1.o.2.2 hz HX.o.2.2.2.1 (yac HX.o.2.2.2.2 (znf HX.o.2.1.size H1.o.2.1.keeps.size)) s' HX.o.2.2.1.symm);go_wp2_with fail;refine WA.o.mono ?_;rintro e w2 ⟨v2,rfl,H2⟩;go_wp2_with fail
 go_end0
 exact⟨v2,rfl,zhd ⟨H2.o.1,(MK.ext HX.o.2.1).trans (H1.o.2.1.trans H2.o.2)⟩⟩
theorem yj0
  {Z:Nat→Prop}(b:Nat)(v:MV)(p:Img)(s:MS)(W:World)(M:MX TT Z W b v p s)
  (k:Int)(hl:s.made.length≤4294967296)(hZ:∀j,W.heap.size≤j→Z j)(hz:szV s.top≤1073741824)(s':MS)(hs':s'=s.pop.want ⟨6,0,0,0,⟨#[]⟩,s.top⟩):
  Calls Tryz.prog 157 #[.pointer (some ⟨b,0,none⟩),.agg #[.int .i64 27,.int .i64 k]] W (MP Z W b v p (.tuple #[]) s'):=by
 obtain⟨w0,hw0⟩:∃w0,w0=W.alloc (.cells #[.int .i64 27,.int .i64 k] 106):=⟨_,rfl⟩;have B0:=zba hw0;have PO:=zhd (yag b v p s w0 (M.ext B0));have HX:=zh5 M B0 hs' hl hZ;clear M B0 hs' hl hZ;go_enter Tryz.func157,Tryz.ntmps157;go_wp2_with fail;rw[←hw0];clear hw0;refine PO.o.mono ?_;rintro e w1 ⟨v1,⟨ck,cn,cs,la,ln,lc⟩,rfl,H1⟩;have WA:=zhd (ybS b v1 p s.pop w1 H1.o.1 6 0 0 0 ⟨#[]⟩ s.top ck cn cs la ln lc _ H1.o.2.2 hz HX.o.2.2.2.1 (yac HX.o.2.2.2.2 (znf HX.o.2.1.size H1.o.2.1.keeps.size)) s' HX.o.2.2.1.symm);go_wp2_with fail;refine WA.o.mono ?_;rintro e w2 ⟨v2,rfl,H2⟩;go_wp2_with fail
 go_end0
 exact⟨v2,rfl,zhd ⟨H2.o.1,(MK.ext HX.o.2.1).trans (H1.o.2.1.trans H2.o.2)⟩⟩
theorem ylj
  {Z:Nat→Prop}(b:Nat)(v:MV)(p:Img)(s:MS)(W:World)(M:MX TT Z W b v p s)
  (op:Int)(h25:(op==25)=false)(h27:(op==27)=false)(k:Nat)(nm:ByteArray)(hnm:p.names[k]? =some nm)(hl:s.made.length≤4294967296)(hZ:∀j,W.heap.size≤j→Z j)(s':MS)(hs':s'=s.want ⟨5,0,0,0,nm,yai⟩):
  Calls Tryz.prog 157 #[.pointer (some ⟨b,0,none⟩),.agg #[.int .i64 op,.int .i64 k]] W (MP Z W b v p (.tuple #[]) s'):=by
 obtain⟨w0,hw0⟩:∃w0,w0=W.alloc (.cells #[.int .i64 op,.int .i64 k] 106):=⟨_,rfl⟩;have B0:=zba hw0;have hB:=zha hw0;have c0:=zca hB 0 rfl;have c1:=zca hB 1 rfl;have l0:=zlt hB;have M0:=M.ext B0;obtain⟨ng,noff,hna,_,_,ngl,nm0⟩:=M0.img.name_at (znv _ _) hnm;have hnn:=M0.img.lens.2.2;have c3:w0.cell? ⟨b,3,none⟩=some (.slice v.ic.na v.ic.nn v.ic.nc):=M0.cell (k:=3) rfl;rw[hna,hnn]at c3;have hkn:(k:Int)<(p.names.length:Int):=by have:=(zge hnm).1;omega
 have b0:b<w0.heap.size:=zlt M0.h;have WA:=zhd (ybS b v p s w0.drew (M0.ext (znv _ _).drew) 5 0 0 0 nm yai 0 0 ⟨#[]⟩ none 0 0 (fun _=>True) (yaD _ _) ydz hl (yac hZ B0.size) s' hs'.symm);have HX:=zhd B0;clear M M0 B0 hB hs' hl hZ hna hnn hnm;go_enter Tryz.func157,Tryz.ntmps157;go_wp2_with fail;rw[←hw0];clear hw0
 go_still_tail 11,(by kernel_rfl)
 go_wp2_with fail;refine WA.o.mono ?_;rintro e w2 ⟨v2,rfl,H2⟩;go_wp2_with fail
 go_end0
 exact⟨v2,rfl,zhd ⟨H2.o.1,(MK.ext HX.o.drew).trans H2.o.2⟩⟩
theorem ybi
  {Z:Nat→Prop}(b:Nat)(v:MV)(p:Img)(s:MS)(W:World)(M:MX TT Z W b v p s)
  (op a:Int)(hc:p.code[s.at_]? =some ⟨op,a⟩)(nm:ByteArray)(od ii oo:Int)(en fl:Bool)(hof:ofL op=(⟨nm,od,ii,oo,true,en,fl⟩,true))(r:Bool)(s':MS)
  (WT:∀(W':World) (v':MV),MX TT Z W' b v' p s→W.heap.size≤W'.heap.size→Calls Tryz.prog 156 #[.pointer (some ⟨b,0,none⟩),.agg #[.int .i64 op,.int .i64 a]] W' (MP Z W' b v' p (.bool r) s')):
  Calls Tryz.prog 139 #[.pointer (some ⟨b,0,none⟩)] W (MP Z W b v p (.bool r) s'):=by
 have OF:=zhd (ya0 op _ _ hof);have HWT:=zhd WT;clear WT hof;obtain⟨g,off,hca,_,gl,_,m0,m1⟩:=M.img.code_at (znv _ _) hc;have hcn:=M.img.lens.1;have c1:W.cell? ⟨b,1,none⟩=some (.slice v.ic.ca v.ic.cn v.ic.cc):=M.cell (k:=1) rfl;rw[hca,hcn]at c1;have c6:W.cell? ⟨b,6,none⟩=some (.int .i64 (s.at_:Int)):=M.cell (k:=6) rfl;have b0:=zlt M.h;have hix:(s.at_:Int)<(p.code.length:Int):=by have:=(zge hc).1;omega
 have HX:=zhd M;clear M hca hcn hc;go_enter Tryz.func139,Tryz.ntmps139;go_upto_region 1 with(fail);go_region
 all_goals
  go_upto_region 2 with(fail);refine yaa ?_;intro w1 hw1;have B1:Below W.heap.size W w1:=by rw[hw1];exact(zal).drew
  have hb1:w1.heap[W.heap.size]? =some (.cells #[.int .i64 op,.int .i64 a] 106 (0,0)):=by rw[hw1];exact znb _ _
  have e0:=zca hb1 0 rfl;have el:=zlt hb1;have H1:=zh2 B1 hb1;clear hw1 B1 hb1;go_wp2_with fail;refine(OF.o _).mono ?_;rintro e w2 ⟨rfl,hB2⟩;have hb2:=(hB2.block W.heap.size el).trans H1.o.2;have H2:=zh2 (H1.o.1.trans (hB2.mono H1.o.1.size)) hb2;clear hB2 hb2 e0 el;go_upto_region 3 with(fail);refine yaa ?_;intro w3 hw3;have B3:Below W.heap.size W w3:=by rw[hw3];exact H2.o.1.alloc H2.o.1.size _
  have hi3:=zha hw3;have hb3:w3.heap[W.heap.size]? =some (.cells #[.int .i64 op,.int .i64 a] 106 (0,0)):=by rw[hw3];exact(zne _ _ _ (zlt H2.o.2)).trans H2.o.2
  have f4:=zca hi3 4 rfl;have f5:=zca hi3 5 rfl;have f6:=zca hi3 6 rfl;have e0:=zca hb3 0 rfl;have e1:=zca hb3 1 rfl;have il:=zlt hi3;have el:=zlt hb3;have M3:=HX.o.ext B3;have H3:=zh3 B3 M3 hb3;clear hw3 B3 hi3 hb3 M3;have WC:=zhd (HWT.o w3 v H3.o.2.1 H3.o.1.size);go_wp2_with fail;refine WC.o.mono ?_;rintro e w4 ⟨v4,rfl,H4⟩;go_wp2_with fail;go_ret;exact⟨v4,rfl,zhd ⟨H4.o.1,(MK.ext H3.o.1).trans H4.o.2⟩⟩
theorem yeT
  {Z:Nat→Prop}(b:Nat)(v:MV)(p:Img)(s:MS)(W:World)(M:MX TT Z W b v p s)
  (op a:Int)(hc:p.code[s.at_]? =some ⟨op,a⟩)(nm:ByteArray)(od ii oo:Int)(fl:Bool)(hof:ofL op=(⟨nm,od,ii,oo,false,true,fl⟩,true))(s':MS)
  (WT:∀(W':World) (v':MV),MX TT Z W' b v' p s→W.heap.size≤W'.heap.size→Calls Tryz.prog 157 #[.pointer (some ⟨b,0,none⟩),.agg #[.int .i64 op,.int .i64 a]] W' (MP Z W' b v' p (.tuple #[]) s')):
  Calls Tryz.prog 139 #[.pointer (some ⟨b,0,none⟩)] W (MP Z W b v p (.bool true) s'):=by
 have OF:=zhd (ya0 op _ _ hof);have HWT:=zhd WT;clear WT hof;obtain⟨g,off,hca,_,gl,_,m0,m1⟩:=M.img.code_at (znv _ _) hc;have hcn:=M.img.lens.1;have c1:W.cell? ⟨b,1,none⟩=some (.slice v.ic.ca v.ic.cn v.ic.cc):=M.cell (k:=1) rfl;rw[hca,hcn]at c1;have c6:W.cell? ⟨b,6,none⟩=some (.int .i64 (s.at_:Int)):=M.cell (k:=6) rfl;have b0:=zlt M.h;have hix:(s.at_:Int)<(p.code.length:Int):=by have:=(zge hc).1;omega
 have HX:=zhd M;clear M hca hcn hc;go_enter Tryz.func139,Tryz.ntmps139;go_upto_region 1 with(fail);go_region
 all_goals
  go_upto_region 2 with(fail);refine yaa ?_;intro w1 hw1;have B1:Below W.heap.size W w1:=by rw[hw1];exact(zal).drew
  have hb1:w1.heap[W.heap.size]? =some (.cells #[.int .i64 op,.int .i64 a] 106 (0,0)):=by rw[hw1];exact znb _ _
  have e0:=zca hb1 0 rfl;have el:=zlt hb1;have H1:=zh2 B1 hb1;clear hw1 B1 hb1;go_wp2_with fail;refine(OF.o _).mono ?_;rintro e w2 ⟨rfl,hB2⟩;have hb2:=(hB2.block W.heap.size el).trans H1.o.2;have H2:=zh2 (H1.o.1.trans (hB2.mono H1.o.1.size)) hb2;clear hB2 hb2 e0 el;go_upto_region 3 with(fail);refine yaa ?_;intro w3 hw3;have B3:Below W.heap.size W w3:=by rw[hw3];exact H2.o.1.alloc H2.o.1.size _
  have hi3:=zha hw3;have hb3:w3.heap[W.heap.size]? =some (.cells #[.int .i64 op,.int .i64 a] 106 (0,0)):=by rw[hw3];exact(zne _ _ _ (zlt H2.o.2)).trans H2.o.2
  have f4:=zca hi3 4 rfl;have f5:=zca hi3 5 rfl;have f6:=zca hi3 6 rfl;have e0:=zca hb3 0 rfl;have e1:=zca hb3 1 rfl;have il:=zlt hi3;have el:=zlt hb3;have M3:=HX.o.ext B3;have H3:=zh3 B3 M3 hb3;clear hw3 B3 hi3 hb3 M3;have WC:=zhd (HWT.o w3 v H3.o.2.1 H3.o.1.size);go_wp2_with fail;refine WC.o.mono ?_;rintro e w4 ⟨v4,rfl,H4⟩;go_wp2_with fail;go_ret;exact⟨v4,rfl,zhd ⟨H4.o.1,(MK.ext H3.o.1).trans H4.o.2⟩⟩
theorem yhg
  {Z:Nat→Prop}(b:Nat)(v:MV)(p:Img)(s:MS)(W:World)(M:MX TT Z W b v p s)
  (op a:Int)(hc:p.code[s.at_]? =some ⟨op,a⟩)(nm:ByteArray)(od ii oo:Int)(hof:ofL op=(⟨nm,od,ii,oo,false,false,false⟩,true))(hat:s.at_≤4294967296)(hk:s.stk.length≤4294967296)(s':MS)
  (hd:(op=16∧s'=s.nxt.push (ybn s.now))∨(op=2∧s'=s.nxt.pop)∨(op=0∧s'=s.nxt)∨(op=24∧s'=s.nxt.push (yaH s.asked))):
  Calls Tryz.prog 139 #[.pointer (some ⟨b,0,none⟩)] W (MP Z W b v p (.bool true) s')
  :=by
 have HD:=zhd hd;have atw:wrap64 ((s.at_:Int)+1)=(s.at_:Int)+1:=by unfold wrap64;omega
 have OF:=zhd (ya0 op _ _ hof);clear hof hd;obtain⟨g,off,hca,_,gl,_,m0,m1⟩:=M.img.code_at (znv _ _) hc;have hcn:=M.img.lens.1;have c1:W.cell? ⟨b,1,none⟩=some (.slice v.ic.ca v.ic.cn v.ic.cc):=M.cell (k:=1) rfl;rw[hca,hcn]at c1;have c6:W.cell? ⟨b,6,none⟩=some (.int .i64 (s.at_:Int)):=M.cell (k:=6) rfl;have b0:=zlt M.h;have hix:(s.at_:Int)<(p.code.length:Int):=by have:=(zge hc).1;omega
 have HX:=zhd M;clear M hca hcn hc;go_enter Tryz.func139,Tryz.ntmps139;go_upto_region 1 with(fail);go_region
 all_goals
  go_upto_region 2 with(fail);refine yaa ?_;intro w1 hw1;have B1:Below W.heap.size W w1:=by rw[hw1];exact(zal).drew
  have hb1:w1.heap[W.heap.size]? =some (.cells #[.int .i64 op,.int .i64 a] 106 (0,0)):=by rw[hw1];exact znb _ _
  have e0:=zca hb1 0 rfl;have el:=zlt hb1;have H1:=zh2 B1 hb1;clear hw1 B1 hb1;go_wp2_with fail;refine(OF.o _).mono ?_;rintro e w2 ⟨rfl,hB2⟩;have hb2:=(hB2.block W.heap.size el).trans H1.o.2;have H2:=zh2 (H1.o.1.trans (hB2.mono H1.o.1.size)) hb2;clear hB2 hb2 e0 el;go_upto_region 3 with(fail);refine yaa ?_;intro w3 hw3;have B3:Below W.heap.size W w3:=by rw[hw3];exact H2.o.1.alloc H2.o.1.size _
  have hi3:=zha hw3;have hb3:w3.heap[W.heap.size]? =some (.cells #[.int .i64 op,.int .i64 a] 106 (0,0)):=by rw[hw3];exact(zne _ _ _ (zlt H2.o.2)).trans H2.o.2
  have f4:=zca hi3 4 rfl;have f5:=zca hi3 5 rfl;have f6:=zca hi3 6 rfl;have e0:=zca hb3 0 rfl;have e1:=zca hb3 1 rfl;have il:=zlt hi3;have el:=zlt hb3;have M3:=HX.o.ext B3;have H3:=zh3 B3 M3 hb3;clear hw3 B3 hi3 hb3 M3;have c6:w3.cell? ⟨b,6,none⟩=some (.int .i64 (s.at_:Int)):=H3.o.2.1.cell (k:=6) rfl;have f0:∀o,w3.frozen? ⟨b,o,none⟩=false:=fun o=>H3.o.2.1.frozen o;have b3:=zlt H3.o.2.1.h;go_upto_region 14 with(fail);refine yaa ?_;intro w4 hw4;have S4:=H3.o.2.1.scalar 6 (.int .i64 ((s.at_:Int)+1)) s.nxt rfl rfl rfl rfl rfl rfl rfl rfl;rw[←hw4]at S4;have hb4:w4.heap[W.heap.size]? =some (.cells #[.int .i64 op,.int .i64 a] 106 (0,0)):=by
   rw[hw4,znn _ _ _ _ (fun e=>by have e:W.heap.size=b:=e;omega)];exact H3.o.2.2
  have g0:=zca hb4 0 rfl;have g1:=zca hb4 1 rfl;have gl:=zlt hb4;have H4:=zh3 S4.1 ((MK.ext H3.o.1).trans S4.2) hb4;have b4:=zlt S4.1.h;have hlen:s.nxt.stk.length≤4294967296:=hk;clear S4 hw4 hb4 f4 f5 f6 e0 e1 c6 f0 b3 il el c1 m0 m1 hix;rcases HD.o with⟨hop,hs⟩|⟨hop,hs⟩|⟨hop,hs⟩|⟨hop,hs⟩
  ·skip
   have hE:=zhd hs;clear hs;subst hop;have c11:w4.cell? ⟨b,11,none⟩=some (.int .i64 s.now):=H4.o.1.cell (k:=11) rfl;go_upto_region 33 with(fail);go_region_law (first
    |(go_simp;go_at_call 106;refine(ya6 _ _).mono ?_;rintro e w8 ⟨rfl,hB8⟩;have H8:=zhd (znw ((znv w4.heap.size w4).drew) hB8);clear hB8)
    |(go_simp;go_at_call 119;refine(yah b v p _ w8 (H4.o.1.ext H8.o) (ybn s.now) 1 _ ⟨#[]⟩ none 0 0 (yco _ _ _) hlen).mono ?_;rintro e w9 ⟨v9,rfl,H9⟩))
   all_goals
    go_wp2_with fail;go_ret;exact⟨v9,rfl,zhd ⟨by rw[hE.o];exact H9.o.1,H4.o.2.1.trans ((MK.ext H8.o).trans H9.o.2)⟩⟩
  ·skip
   have hE:=zhd hs;clear hs;subst hop;have PO:=zhd (yag b v p _ w4 H4.o.1);go_wp2_with fail;refine PO.o.mono ?_;rintro e w5 ⟨v5,⟨ck,cn,cs,la,ln,lc⟩,rfl,H5⟩;go_wp2_with fail;go_ret;exact⟨v5,rfl,zhd ⟨by rw[hE.o];exact H5.o.1,H4.o.2.1.trans H5.o.2.1⟩⟩
  ·skip
   have hE:=zhd hs;clear hs;subst hop;go_wp2_with fail;go_ret;exact⟨v,rfl,zhd ⟨by rw[hE.o];exact H4.o.1,H4.o.2.1⟩⟩
  ·skip
   have hE:=zhd hs;clear hs;subst hop;have c17:w4.cell? ⟨b,17,none⟩=some (.bool s.asked):=H4.o.1.cell (k:=17) rfl;have BO:=zhd (fun W=>ybg s.asked W);have HE2:=zhd (show s'=s.nxt.push (yaH s.asked)from hE.o);clear hE;obtain⟨q,hq⟩:∃q,s.asked=q:=⟨_,rfl⟩;rw[hq]at c17 BO HE2;go_upto_region 35 with(fail);clear hq;cases q
   ·
    go_region_law (first
     |(go_simp;go_at_call 63;refine(BO.o _).mono ?_;rintro e w8 ⟨rfl,hB8⟩;have H8:=zhd (znw ((znv w4.heap.size w4).drew) hB8);clear hB8)
     |(go_simp;go_at_call 119;refine(yah b v p _ w8 (H4.o.1.ext H8.o) (yaH false) 1 _ ⟨#[]⟩ none 0 0 (ya5 _ _ _) hlen).mono ?_;rintro e w9 ⟨v9,rfl,H9⟩))
    all_goals
     go_wp2_with fail;go_ret;exact⟨v9,rfl,zhd ⟨by rw[HE2.o];exact H9.o.1,H4.o.2.1.trans ((MK.ext H8.o).trans H9.o.2)⟩⟩
   ·
    go_region_law (first
     |(go_simp;go_at_call 63;refine(BO.o _).mono ?_;rintro e w8 ⟨rfl,hB8⟩;have H8:=zhd (znw ((znv w4.heap.size w4).drew) hB8);clear hB8)
     |(go_simp;go_at_call 119;refine(yah b v p _ w8 (H4.o.1.ext H8.o) (yaH true) 1 _ ⟨#[]⟩ none 0 0 (ya5 _ _ _) hlen).mono ?_;rintro e w9 ⟨v9,rfl,H9⟩))
    all_goals
     go_wp2_with fail;go_ret;exact⟨v9,rfl,zhd ⟨by rw[HE2.o];exact H9.o.1,H4.o.2.1.trans ((MK.ext H8.o).trans H9.o.2)⟩⟩
theorem yhf
  {Z:Nat→Prop}(b:Nat)(v:MV)(p:Img)(s:MS)(W:World)(M:MX TT Z W b v p s)
  (op a:Int)(hc:p.code[s.at_]? =some ⟨op,a⟩)(nm:ByteArray)(od ii oo:Int)(hof:ofL op=(⟨nm,od,ii,oo,false,false,false⟩,true))(hat:s.at_≤4294967296)(hk:s.stk.length≤4294967296)(s':MS)
  (hZ:(∀j,W.heap.size≤j→Z j))
  (hd:(op=3∧szV s.top≤1073741824∧s'=s.nxt.push (yab s.top))∨(op=15∧szV s.input≤1073741824∧s'=s.nxt.push (yab s.input))∨(op=1∧∃(k:Nat) (x:Val),a=k∧p.consts[k]? =some x∧szV x≤1073741824∧s'=s.nxt.push (yab x))∨(op=13∧∃(k:Nat) (x:Val),a=k∧s.places[k]? =some x∧szV x≤1073741824∧s'=s.nxt.push (yab x))):
  Calls Tryz.prog 139 #[.pointer (some ⟨b,0,none⟩)] W (MP Z W b v p (.bool true) s')
  :=by
 have HD:=zhd hd;have atw:wrap64 ((s.at_:Int)+1)=(s.at_:Int)+1:=by unfold wrap64;omega
 have OF:=zhd (ya0 op _ _ hof);clear hof hd;obtain⟨g,off,hca,_,gl,_,m0,m1⟩:=M.img.code_at (znv _ _) hc;have hcn:=M.img.lens.1;have c1:W.cell? ⟨b,1,none⟩=some (.slice v.ic.ca v.ic.cn v.ic.cc):=M.cell (k:=1) rfl;rw[hca,hcn]at c1;have c6:W.cell? ⟨b,6,none⟩=some (.int .i64 (s.at_:Int)):=M.cell (k:=6) rfl;have b0:=zlt M.h;have hix:(s.at_:Int)<(p.code.length:Int):=by have:=(zge hc).1;omega
 have HX:=zhd M;clear M hca hcn hc;go_enter Tryz.func139,Tryz.ntmps139;go_upto_region 1 with(fail);go_region
 all_goals
  go_upto_region 2 with(fail);refine yaa ?_;intro w1 hw1;have B1:Below W.heap.size W w1:=by rw[hw1];exact(zal).drew
  have hb1:w1.heap[W.heap.size]? =some (.cells #[.int .i64 op,.int .i64 a] 106 (0,0)):=by rw[hw1];exact znb _ _
  have e0:=zca hb1 0 rfl;have el:=zlt hb1;have H1:=zh2 B1 hb1;clear hw1 B1 hb1;go_wp2_with fail;refine(OF.o _).mono ?_;rintro e w2 ⟨rfl,hB2⟩;have hb2:=(hB2.block W.heap.size el).trans H1.o.2;have H2:=zh2 (H1.o.1.trans (hB2.mono H1.o.1.size)) hb2;clear hB2 hb2 e0 el;go_upto_region 3 with(fail);refine yaa ?_;intro w3 hw3;have B3:Below W.heap.size W w3:=by rw[hw3];exact H2.o.1.alloc H2.o.1.size _
  have hi3:=zha hw3;have hb3:w3.heap[W.heap.size]? =some (.cells #[.int .i64 op,.int .i64 a] 106 (0,0)):=by rw[hw3];exact(zne _ _ _ (zlt H2.o.2)).trans H2.o.2
  have f4:=zca hi3 4 rfl;have f5:=zca hi3 5 rfl;have f6:=zca hi3 6 rfl;have e0:=zca hb3 0 rfl;have e1:=zca hb3 1 rfl;have il:=zlt hi3;have el:=zlt hb3;have M3:=HX.o.ext B3;have H3:=zh3 B3 M3 hb3;clear hw3 B3 hi3 hb3 M3;have c6:w3.cell? ⟨b,6,none⟩=some (.int .i64 (s.at_:Int)):=H3.o.2.1.cell (k:=6) rfl;have f0:∀o,w3.frozen? ⟨b,o,none⟩=false:=fun o=>H3.o.2.1.frozen o;have b3:=zlt H3.o.2.1.h;go_upto_region 14 with(fail);refine yaa ?_;intro w4 hw4;have S4:=H3.o.2.1.scalar 6 (.int .i64 ((s.at_:Int)+1)) s.nxt rfl rfl rfl rfl rfl rfl rfl rfl;rw[←hw4]at S4;have hb4:w4.heap[W.heap.size]? =some (.cells #[.int .i64 op,.int .i64 a] 106 (0,0)):=by
   rw[hw4,znn _ _ _ _ (fun e=>by have e:W.heap.size=b:=e;omega)];exact H3.o.2.2
  have g0:=zca hb4 0 rfl;have g1:=zca hb4 1 rfl;have gl:=zlt hb4;have H4:=zh3 S4.1 ((MK.ext H3.o.1).trans S4.2) hb4;have b4:=zlt S4.1.h;have hlen:s.nxt.stk.length≤4294967296:=hk;clear S4 hw4 hb4 f4 f5 f6 e0 e1 c6 f0 b3 il el c1 m0 m1 hix;rcases HD.o with⟨hop,hz,hs⟩|⟨hop,hz,hs⟩|⟨hop,k,x,hak,hx,hz,hs⟩|⟨hop,k,x,hak,hx,hz,hs⟩
  ·skip
   have hE:=zhd hs;clear hs;subst hop;have TP:=zhd (ybA b v p _ w4.drew (H4.o.1.ext (znv _ _).drew));go_upto_region 21 with(fail);go_region_law (first
    |(go_simp;go_at_call 160;refine TP.o.mono ?_;rintro e w5 ⟨v5,⟨ck,cn,cs,la,ln,lc⟩,rfl,H5⟩)
    |(go_simp;go_at_call 58;refine(yav s.top ck cn cs la ln lc _ w5 H5.o.2.2 hz).mono ?_;rintro e w7 ⟨⟨k8,n8,s8,la8,ln8,lc8⟩,rfl,H7⟩)
    |(go_simp;go_at_call 119;refine(yah b v5 p _ w7 (H5.o.1.ext H7.o.2) (yab s.top) k8 n8 s8 la8 ln8 lc8 (H7.o.1.mono (fun g hg _=>⟨fun e=>by have:=H5.o.1.lt e;have hg:w5.heap.size≤g:=hg;omega,hZ g (by have hg:w5.heap.size≤g:=hg;have:=H5.o.2.1.keeps.size;have h4:W.heap.size≤w4.heap.size:=H4.o.2.1.keeps.size;have h5:w4.drew.heap.size=w4.heap.size:=rfl;omega)⟩)) hlen).mono ?_;rintro e w9 ⟨v9,rfl,H9⟩))
   all_goals
    go_wp2_with fail;go_ret;exact⟨v9,rfl,zhd ⟨by rw[hE.o];exact H9.o.1,H4.o.2.1.trans ((MK.ext ((znv w4.heap.size w4).drew)).trans (H5.o.2.1.trans ((MK.ext H7.o.2).trans H9.o.2)))⟩⟩
  ·skip
   have hE:=zhd hs;clear hs;subst hop;have c7:w4.cell? ⟨b,7,none⟩=some (.int .i64 v.inp.kind):=H4.o.1.cell (k:=7) rfl;have c8:w4.cell? ⟨b,8,none⟩=some (.int .i64 v.inp.n):=H4.o.1.cell (k:=8) rfl;have c9:w4.cell? ⟨b,9,none⟩=some (.string v.inp.s):=H4.o.1.cell (k:=9) rfl;have c10:w4.cell? ⟨b,10,none⟩=some (.slice v.inp.la v.inp.ln v.inp.lc):=H4.o.1.cell (k:=10) rfl;have CL:=zhd (yav s.input v.inp.kind v.inp.n v.inp.s v.inp.la v.inp.ln v.inp.lc _ w4.drew (H4.o.1.inp.keep (S:=fun _=>False) (zkb ((znv _ _).drew)) (fun _ _ f=>f)) hz);go_upto_region 31 with(fail);go_region_law (first
    |(go_simp;go_at_call 58;refine CL.o.mono ?_;rintro e w7 ⟨⟨k8,n8,s8,la8,ln8,lc8⟩,rfl,hC7⟩;have B7:Below w4.heap.size w4 w7:=znw ((znv w4.heap.size w4).drew) hC7.o.2;have H7:=zh2 hC7.o.1 B7;clear hC7 B7)
    |(go_simp;go_at_call 119;refine(yah b v p _ w7 (H4.o.1.ext H7.o.2) (yab s.input) k8 n8 s8 la8 ln8 lc8 (H7.o.1.mono (fun g hg _=>⟨fun e=>by have:=H4.o.1.lt e;have hg:w4.heap.size≤g:=hg;omega,hZ g (by have hg:w4.heap.size≤g:=hg;have h4:W.heap.size≤w4.heap.size:=H4.o.2.1.keeps.size;omega)⟩)) hlen).mono ?_;rintro e w9 ⟨v9,rfl,H9⟩))
   all_goals
    go_wp2_with fail;go_ret;exact⟨v9,rfl,zhd ⟨by rw[hE.o];exact H9.o.1,H4.o.2.1.trans ((MK.ext H7.o.2).trans H9.o.2)⟩⟩
  ·skip
   have hE:=zhd hs;clear hs;have hkn:(k:Int)<(p.consts.length:Int):=by have:=(zge hx).1;omega
   have HXK:=zhd hx;clear hx;subst hop;subst hak;obtain⟨kg,koff,kc,hka,_,kgl,_,hCk,k0,k1,k2,k3⟩:=H4.o.1.img.const_at (znv _ _) HXK.o;have hkl:=H4.o.1.img.lens.2.1;have c2:w4.cell? ⟨b,2,none⟩=some (.slice v.ic.ka v.ic.kn v.ic.kc):=H4.o.1.cell (k:=2) rfl;rw[hka,hkl]at c2;have CL:=zhd (yav x kc.kind kc.n kc.s kc.la kc.ln kc.lc _ w4.drew (hCk.keep (S:=fun _=>False) (zkb ((znv _ _).drew)) (fun _ _ f=>f)) hz);clear hka hkl hCk;go_upto_region 17 with(fail);go_region_law (first
    |(go_simp;go_at_call 58;refine CL.o.mono ?_;rintro e w7 ⟨⟨k8,n8,s8,la8,ln8,lc8⟩,rfl,hC7⟩;have B7:Below w4.heap.size w4 w7:=znw ((znv w4.heap.size w4).drew) hC7.o.2;have H7:=zh2 hC7.o.1 B7;clear hC7 B7)
    |(go_simp;go_at_call 119;refine(yah b v p _ w7 (H4.o.1.ext H7.o.2) (yab x) k8 n8 s8 la8 ln8 lc8 (H7.o.1.mono (fun g hg _=>⟨fun e=>by have:=H4.o.1.lt e;have hg:w4.heap.size≤g:=hg;omega,hZ g (by have hg:w4.heap.size≤g:=hg;have h4:W.heap.size≤w4.heap.size:=H4.o.2.1.keeps.size;omega)⟩)) hlen).mono ?_;rintro e w9 ⟨v9,rfl,H9⟩))
   all_goals
    go_wp2_with fail;go_ret;exact⟨v9,rfl,zhd ⟨by rw[hE.o];exact H9.o.1,H4.o.2.1.trans ((MK.ext H7.o.2).trans H9.o.2)⟩⟩
  ·skip
   have hE:=zhd hs;clear hs;have hkn:(k:Int)<(s.places.length:Int):=by have:=(zge hx).1;omega
   have HXK:=zhd hx;clear hx;subst hop;subst hak;obtain⟨pa,pc,hps⟩:∃a cap,v.ps= .slice a s.places.length cap:=H4.o.1.pls.slice;have c5:w4.cell? ⟨b,5,none⟩=some (.slice pa s.places.length pc):=by rw[←hps];exact H4.o.1.cell (k:=5) rfl
   obtain⟨kg,koff,kc,hka,kgl,hCk,_,hcs⟩:=(show XRow _ w4 38 (.slice pa s.places.length pc) s.places from hps▸H4.o.1.pls).at_ HXK.o;have k0:w4.cell? ⟨kg,koff+k*4,none⟩=some (.int .i64 kc.kind):=hcs 0 _ rfl;have k1:w4.cell? ⟨kg,koff+k*4+1,none⟩=some (.int .i64 kc.n):=hcs 1 _ rfl;have k2:w4.cell? ⟨kg,koff+k*4+2,none⟩=some (.string kc.s):=hcs 2 _ rfl;have k3:w4.cell? ⟨kg,koff+k*4+3,none⟩=some (.slice kc.la kc.ln kc.lc):=hcs 3 _ rfl;subst hka;have hCk2:CF _ w4 kc x:=hCk;have CL:=zhd (yav x kc.kind kc.n kc.s kc.la kc.ln kc.lc _ w4.drew (hCk2.keep (S:=fun _=>False) (zkb ((znv _ _).drew)) (fun _ _ f=>f)) hz);clear hps hCk hcs hCk2;go_upto_region 27 with(fail);go_region_law (first
    |(go_simp;go_at_call 58;refine CL.o.mono ?_;rintro e w7 ⟨⟨k8,n8,s8,la8,ln8,lc8⟩,rfl,hC7⟩;have B7:Below w4.heap.size w4 w7:=znw ((znv w4.heap.size w4).drew) hC7.o.2;have H7:=zh2 hC7.o.1 B7;clear hC7 B7)
    |(go_simp;go_at_call 119;refine(yah b v p _ w7 (H4.o.1.ext H7.o.2) (yab x) k8 n8 s8 la8 ln8 lc8 (H7.o.1.mono (fun g hg _=>⟨fun e=>by have:=H4.o.1.lt e;have hg:w4.heap.size≤g:=hg;omega,hZ g (by have hg:w4.heap.size≤g:=hg;have h4:W.heap.size≤w4.heap.size:=H4.o.2.1.keeps.size;omega)⟩)) hlen).mono ?_;rintro e w9 ⟨v9,rfl,H9⟩))
   all_goals
    go_wp2_with fail;go_ret;exact⟨v9,rfl,zhd ⟨by rw[hE.o];exact H9.o.1,H4.o.2.1.trans ((MK.ext H7.o.2).trans H9.o.2)⟩⟩
theorem yi8
  {Z:Nat→Prop}(b:Nat)(v:MV)(p:Img)(s:MS)(W:World)(M:MX TT Z W b v p s)
  (a:Nat)(hc:p.code[s.at_]? =some ⟨11,a⟩)(nm:ByteArray)(od ii oo:Int)(hof:ofL 11=(⟨nm,od,ii,oo,false,false,true⟩,true))(s':MS)(hs':s'={s with at_:=a}):
  Calls Tryz.prog 139 #[.pointer (some ⟨b,0,none⟩)] W (MP Z W b v p (.bool true) s')
  :=by
 have OF:=zhd (ya0 11 _ _ hof);have hE:=zhd hs';clear hof hs';obtain⟨g,off,hca,_,gl,_,m0,m1⟩:=M.img.code_at (znv _ _) hc;have hcn:=M.img.lens.1;have c1:W.cell? ⟨b,1,none⟩=some (.slice v.ic.ca v.ic.cn v.ic.cc):=M.cell (k:=1) rfl;rw[hca,hcn]at c1;have c6:W.cell? ⟨b,6,none⟩=some (.int .i64 (s.at_:Int)):=M.cell (k:=6) rfl;have b0:=zlt M.h;have hix:(s.at_:Int)<(p.code.length:Int):=by have:=(zge hc).1;omega
 have HX:=zhd M;clear M hca hcn hc;go_enter Tryz.func139,Tryz.ntmps139;go_upto_region 1 with(fail);go_region
 all_goals
  go_upto_region 2 with(fail);refine yaa ?_;intro w1 hw1;have B1:Below W.heap.size W w1:=by rw[hw1];exact(zal).drew
  have hb1:w1.heap[W.heap.size]? =some (.cells #[.int .i64 11,.int .i64 (a:Int)] 106 (0,0)):=by rw[hw1];exact znb _ _
  have e0:=zca hb1 0 rfl;have el:=zlt hb1;have H1:=zh2 B1 hb1;clear hw1 B1 hb1;go_wp2_with fail;refine(OF.o _).mono ?_;rintro e w2 ⟨rfl,hB2⟩;have hb2:=(hB2.block W.heap.size el).trans H1.o.2;have H2:=zh2 (H1.o.1.trans (hB2.mono H1.o.1.size)) hb2;clear hB2 hb2 e0 el;go_upto_region 3 with(fail);refine yaa ?_;intro w3 hw3;have B3:Below W.heap.size W w3:=by rw[hw3];exact H2.o.1.alloc H2.o.1.size _
  have hi3:=zha hw3;have hb3:w3.heap[W.heap.size]? =some (.cells #[.int .i64 11,.int .i64 (a:Int)] 106 (0,0)):=by rw[hw3];exact(zne _ _ _ (zlt H2.o.2)).trans H2.o.2
  have f4:=zca hi3 4 rfl;have f5:=zca hi3 5 rfl;have f6:=zca hi3 6 rfl;have e0:=zca hb3 0 rfl;have e1:=zca hb3 1 rfl;have il:=zlt hi3;have el:=zlt hb3;have M3:=HX.o.ext B3;have H3:=zh3 B3 M3 hb3;clear hw3 B3 hi3 hb3 M3;have c6:w3.cell? ⟨b,6,none⟩=some (.int .i64 (s.at_:Int)):=H3.o.2.1.cell (k:=6) rfl;have f0:∀o,w3.frozen? ⟨b,o,none⟩=false:=fun o=>H3.o.2.1.frozen o;have b3:=zlt H3.o.2.1.h;have SN:=zhd (H3.o.2.1.scalar 6 (.int .i64 (a:Int)) s' (by rw[hE.o];rfl) (by rw[hE.o]) (by rw[hE.o]) (by rw[hE.o]) (by rw[hE.o]) (by rw[hE.o]) (by rw[hE.o]) (by rw[hE.o]));go_wp2_with fail;go_ret;exact⟨v,rfl,zhd ⟨SN.o.1,(MK.ext H3.o.1).trans SN.o.2⟩⟩
theorem ya7
  {Z:Nat→Prop}(b:Nat)(v:MV)(p:Img)(s:MS)(W:World)(M:MX TT Z W b v p s)
  (op a:Int)(hc:p.code[s.at_]? =some ⟨op,a⟩)(nm:ByteArray)(od ii oo:Int)(hof:ofL op=(⟨nm,od,ii,oo,false,false,false⟩,true))(hat:s.at_≤4294967296)(hk:s.stk.length≤4294967296)(s':MS)(fn:Nat)
  (hd:(fn=163∧(op=17∨op=19∨op=20))∨(fn=164∧(op=5∨op=6∨op=7∨op=8∨op=9∨op=10∨op=29∨op=30∨op=31∨op=32)))
  (WT:∀(W':World) (v':MV),MX TT Z W' b v' p s.nxt→W.heap.size≤W'.heap.size→Calls Tryz.prog fn #[.pointer (some ⟨b,0,none⟩),.agg #[.int .i64 op,.int .i64 a]] W' (MP Z W' b v' p (.bool true) s')):
  Calls Tryz.prog 139 #[.pointer (some ⟨b,0,none⟩)] W (MP Z W b v p (.bool true) s')
  :=by
 have HWT:=zhd WT;clear WT;have HD:=zhd hd;have atw:wrap64 ((s.at_:Int)+1)=(s.at_:Int)+1:=by unfold wrap64;omega
 have OF:=zhd (ya0 op _ _ hof);clear hof hd;obtain⟨g,off,hca,_,gl,_,m0,m1⟩:=M.img.code_at (znv _ _) hc;have hcn:=M.img.lens.1;have c1:W.cell? ⟨b,1,none⟩=some (.slice v.ic.ca v.ic.cn v.ic.cc):=M.cell (k:=1) rfl;rw[hca,hcn]at c1;have c6:W.cell? ⟨b,6,none⟩=some (.int .i64 (s.at_:Int)):=M.cell (k:=6) rfl;have b0:=zlt M.h;have hix:(s.at_:Int)<(p.code.length:Int):=by have:=(zge hc).1;omega
 have HX:=zhd M;clear M hca hcn hc;go_enter Tryz.func139,Tryz.ntmps139;go_upto_region 1 with(fail);go_region
 all_goals
  go_upto_region 2 with(fail);refine yaa ?_;intro w1 hw1;have B1:Below W.heap.size W w1:=by rw[hw1];exact(zal).drew
  have hb1:w1.heap[W.heap.size]? =some (.cells #[.int .i64 op,.int .i64 a] 106 (0,0)):=by rw[hw1];exact znb _ _
  have e0:=zca hb1 0 rfl;have el:=zlt hb1;have H1:=zh2 B1 hb1;clear hw1 B1 hb1;go_wp2_with fail;refine(OF.o _).mono ?_;rintro e w2 ⟨rfl,hB2⟩;have hb2:=(hB2.block W.heap.size el).trans H1.o.2;have H2:=zh2 (H1.o.1.trans (hB2.mono H1.o.1.size)) hb2;clear hB2 hb2 e0 el;go_upto_region 3 with(fail);refine yaa ?_;intro w3 hw3;have B3:Below W.heap.size W w3:=by rw[hw3];exact H2.o.1.alloc H2.o.1.size _
  have hi3:=zha hw3;have hb3:w3.heap[W.heap.size]? =some (.cells #[.int .i64 op,.int .i64 a] 106 (0,0)):=by rw[hw3];exact(zne _ _ _ (zlt H2.o.2)).trans H2.o.2
  have f4:=zca hi3 4 rfl;have f5:=zca hi3 5 rfl;have f6:=zca hi3 6 rfl;have e0:=zca hb3 0 rfl;have e1:=zca hb3 1 rfl;have il:=zlt hi3;have el:=zlt hb3;have M3:=HX.o.ext B3;have H3:=zh3 B3 M3 hb3;clear hw3 B3 hi3 hb3 M3;have c6:w3.cell? ⟨b,6,none⟩=some (.int .i64 (s.at_:Int)):=H3.o.2.1.cell (k:=6) rfl;have f0:∀o,w3.frozen? ⟨b,o,none⟩=false:=fun o=>H3.o.2.1.frozen o;have b3:=zlt H3.o.2.1.h;go_upto_region 14 with(fail);refine yaa ?_;intro w4 hw4;have S4:=H3.o.2.1.scalar 6 (.int .i64 ((s.at_:Int)+1)) s.nxt rfl rfl rfl rfl rfl rfl rfl rfl;rw[←hw4]at S4;have hb4:w4.heap[W.heap.size]? =some (.cells #[.int .i64 op,.int .i64 a] 106 (0,0)):=by
   rw[hw4,znn _ _ _ _ (fun e=>by have e:W.heap.size=b:=e;omega)];exact H3.o.2.2
  have g0:=zca hb4 0 rfl;have g1:=zca hb4 1 rfl;have gl:=zlt hb4;have H4:=zh3 S4.1 ((MK.ext H3.o.1).trans S4.2) hb4;have b4:=zlt S4.1.h;have hlen:s.nxt.stk.length≤4294967296:=hk;clear S4 hw4 hb4 f4 f5 f6 e0 e1 c6 f0 b3 il el c1 m0 m1 hix;have WC:=zhd (HWT.o w4 v H4.o.1 H4.o.2.1.keeps.size);rcases HD.o with⟨hf,hop⟩|⟨hf,hop⟩
  ·subst hf
   rcases hop with hop|hop|hop
   all_goals
    subst hop;go_wp2_with fail;refine WC.o.mono ?_;rintro e w5 ⟨v5,rfl,H5⟩;go_wp2_with fail;go_ret;exact⟨v5,rfl,zhd ⟨H5.o.1,H4.o.2.1.trans H5.o.2⟩⟩
  ·subst hf
   rcases hop with hop|hop|hop|hop|hop|hop|hop|hop|hop|hop
   all_goals
    subst hop;go_wp2_with fail;refine WC.o.mono ?_;rintro e w5 ⟨v5,rfl,H5⟩;go_wp2_with fail;go_ret;exact⟨v5,rfl,zhd ⟨H5.o.1,H4.o.2.1.trans H5.o.2⟩⟩
theorem ygi
  {Z:Nat→Prop}(b:Nat)(v:MV)(p:Img)(s:MS)(W:World)(M:MX TT Z W b v p s)
  (op:Int)(h11:(op==11)=false)(a:Nat)(hc:p.code[s.at_]? =some ⟨op,a⟩)(nm:ByteArray)(od ii oo:Int)(hof:ofL op=(⟨nm,od,ii,oo,false,false,true⟩,true))(hat:s.at_≤4294967296)(s':MS)(hs':s'=bif ycp s.top then s.pop.nxt else{s.pop with at_:=a}):
  Calls Tryz.prog 139 #[.pointer (some ⟨b,0,none⟩)] W (MP Z W b v p (.bool true) s')
  :=by
 have atw:wrap64 ((s.at_:Int)+1)=(s.at_:Int)+1:=by unfold wrap64;omega
 have OF:=zhd (ya0 op _ _ hof);have hE:=zhd hs';clear hof hs';obtain⟨g,off,hca,_,gl,_,m0,m1⟩:=M.img.code_at (znv _ _) hc;have hcn:=M.img.lens.1;have c1:W.cell? ⟨b,1,none⟩=some (.slice v.ic.ca v.ic.cn v.ic.cc):=M.cell (k:=1) rfl;rw[hca,hcn]at c1;have c6:W.cell? ⟨b,6,none⟩=some (.int .i64 (s.at_:Int)):=M.cell (k:=6) rfl;have b0:=zlt M.h;have hix:(s.at_:Int)<(p.code.length:Int):=by have:=(zge hc).1;omega
 have HX:=zhd M;clear M hca hcn hc;go_enter Tryz.func139,Tryz.ntmps139;go_upto_region 1 with(fail);go_region
 all_goals
  go_upto_region 2 with(fail);refine yaa ?_;intro w1 hw1;have B1:Below W.heap.size W w1:=by rw[hw1];exact(zal).drew
  have hb1:w1.heap[W.heap.size]? =some (.cells #[.int .i64 op,.int .i64 (a:Int)] 106 (0,0)):=by rw[hw1];exact znb _ _
  have e0:=zca hb1 0 rfl;have el:=zlt hb1;have H1:=zh2 B1 hb1;clear hw1 B1 hb1;go_wp2_with fail;refine(OF.o _).mono ?_;rintro e w2 ⟨rfl,hB2⟩;have hb2:=(hB2.block W.heap.size el).trans H1.o.2;have H2:=zh2 (H1.o.1.trans (hB2.mono H1.o.1.size)) hb2;clear hB2 hb2 e0 el;go_upto_region 3 with(fail);refine yaa ?_;intro w3 hw3;have B3:Below W.heap.size W w3:=by rw[hw3];exact H2.o.1.alloc H2.o.1.size _
  have hi3:=zha hw3;have hb3:w3.heap[W.heap.size]? =some (.cells #[.int .i64 op,.int .i64 (a:Int)] 106 (0,0)):=by rw[hw3];exact(zne _ _ _ (zlt H2.o.2)).trans H2.o.2
  have f4:=zca hi3 4 rfl;have f5:=zca hi3 5 rfl;have f6:=zca hi3 6 rfl;have e0:=zca hb3 0 rfl;have e1:=zca hb3 1 rfl;have il:=zlt hi3;have el:=zlt hb3;have M3:=HX.o.ext B3;have H3:=zh3 B3 M3 hb3;clear hw3 B3 hi3 hb3 M3;have PO:=zhd (yag b v p s w3 H3.o.2.1);cases hr:ycp s.top
  all_goals
   go_wp2_with fail;refine PO.o.mono ?_;rintro e w5 ⟨v5,⟨ck,cn,cs,la,ln,lc⟩,rfl,H5⟩;have hb5:=(H5.o.2.1.keeps.block W.heap.size el (fun e=>by have:=HX.o.lt e;omega)).trans H3.o.2.2;have TR:=zhd (yhd s.top ck cn cs la ln lc _ w5 H5.o.2.2 _ hr);go_wp2_with fail;refine TR.o.mono ?_;rintro e w6 ⟨rfl,hB6⟩;have M6:=H5.o.1.ext hB6;have hb6:=(hB6.block W.heap.size (zlt hb5)).trans hb5;have e1:=zca hb6 1 rfl;have c6:w6.cell? ⟨b,6,none⟩=some (.int .i64 (s.at_:Int)):=M6.cell (k:=6) rfl;have f0:∀o,w6.frozen? ⟨b,o,none⟩=false:=fun o=>M6.frozen o;have b6:=zlt M6.h;have l6:=zlt hb6;have H6:=zh2 M6 (H5.o.2.1.trans (MK.ext hB6));clear hb5 hb6 hB6 M6
  ·have hE:=zhd (show s'={s.pop with at_:=a} by rw[hE.o,hr];rfl)
   have SN:=zhd (H6.o.1.scalar 6 (.int .i64 (a:Int)) s' (by rw[hE.o];rfl) (by rw[hE.o]) (by rw[hE.o]) (by rw[hE.o]) (by rw[hE.o]) (by rw[hE.o]) (by rw[hE.o]) (by rw[hE.o]));clear hr;go_wp2_with fail;go_ret;exact⟨v5,rfl,zhd ⟨SN.o.1,(MK.ext H3.o.1).trans (H6.o.2.trans SN.o.2)⟩⟩
  ·have hE:=zhd (show s'=s.pop.nxt by rw[hE.o,hr];rfl)
   have SN:=zhd (H6.o.1.scalar 6 (.int .i64 ((s.at_:Int)+1)) s' (by rw[hE.o];rfl) (by rw[hE.o];rfl) (by rw[hE.o];rfl) (by rw[hE.o];rfl) (by rw[hE.o];rfl) (by rw[hE.o];rfl) (by rw[hE.o];rfl) (by rw[hE.o];rfl));clear hr;go_wp2_with fail;go_ret;exact⟨v5,rfl,zhd ⟨SN.o.1,(MK.ext H3.o.1).trans (H6.o.2.trans SN.o.2)⟩⟩
end Go.Proofs.YtpagmlndgblhhaaGreatDoor
