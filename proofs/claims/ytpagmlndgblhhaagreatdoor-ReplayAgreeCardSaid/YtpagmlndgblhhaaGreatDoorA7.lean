/- Parts of the proof: what the functions and the plain laws give that later parts lean on. Conditions: none beyond those that each theorem names. -/
import Derived.Test.YtpagmlndgblhhaaGreatDoorA6
set_option maxRecDepth 100000
set_option maxHeartbeats 8000000
namespace Go.Proofs.YtpagmlndgblhhaaGreatDoor
open Go.RowKit Go.Own Go.Own.MapTy Go.Va Go.Sort
open Go.Own.Cells (sz enc)
def ype (p:Img)(c:In)(st:RSt):RSt:=
 bif (ofL c.op).1.operand==1 then
  let q:=yfQ (yab (p.consts[c.a.toNat]?.getD ymB)) st.consts
  {st with consts:=q.2,code:=st.code++[⟨c.op,q.1⟩]}
 else bif (ofL c.op).1.operand==2 then
  let q:=yoH (p.names[c.a.toNat]?.getD ⟨#[]⟩) st.names
  {st with names:=q.2,code:=st.code++[⟨c.op,q.1⟩]}
 else bif (ofL c.op).1.operand==3 then{st with places:=max st.places (c.a+1),code:=st.code++[c]}
 else{st with code:=st.code++[c]}
def ypf (p:Img):List In->RSt->RSt
 |[],st=>st
 |c::r,st=>ypf p r (ype p c st)
end Go.Proofs.YtpagmlndgblhhaaGreatDoor
namespace Go.Proofs.YtpagmlndgblhhaaGreatDoor
open Go.RowKit Go.Own Go.Own.MapTy Go.Va Go.Sort
inductive Arg where
 |val (x:Val)
 |name (s:ByteArray)
 |place (n:Int)
 |int (n:Int)
def yqx (m:Int×Arg)(st:RSt):RSt:=
 match m.2 with
 | .val x=>{st with consts:=(yfQ x st.consts).2,code:=st.code++[⟨m.1,((yfQ x st.consts).1:Nat)⟩]}
 | .name s=>{st with names:=(yoH s st.names).2,code:=st.code++[⟨m.1,((yoH s st.names).1:Nat)⟩]}
 | .place n=>{st with places:=max st.places (n+1),code:=st.code++[⟨m.1,n⟩]}
 | .int n=>{st with code:=st.code++[⟨m.1,n⟩]}
def yqg (m:Int×Arg):Prop:=
 match m.2 with
 | .val _=>(ofL m.1).1.operand=1
 | .name _=>(ofL m.1).1.operand=2
 | .place n=>(ofL m.1).1.operand=3/\0<=n
 | .int _=>(ofL m.1).1.operand≠1/\(ofL m.1).1.operand≠2/\(ofL m.1).1.operand≠3
def yjW:List In->Int->Int->Int->Option (Int×Int×Int)
 |[],c,n,p=>some (c,n,p)
 |x::r,c,n,p=>
  if(ofL x.op).1.operand=1 then(if c<x.a then none else yjW r (if x.a=c then c+1 else c) n p)else
  if(ofL x.op).1.operand=2 then(if n<x.a then none else yjW r c (if x.a=n then n+1 else n) p)else
  if(ofL x.op).1.operand=3 then yjW r c n (if p<x.a+1 then x.a+1 else p)else yjW r c n p
structure TdOk (p:Img):Prop where
 run:yjW p.code 0 0 0=some ((p.consts.length:Int),(p.names.length:Int),p.places)
 consts:∀(i k:Nat) (x y:Val),k<i->p.consts[i]? =some x->p.consts[k]? =some y->yab x≠yab y
 names:∀(i k:Nat) (x y:ByteArray),k<i->p.names[i]? =some x->p.names[k]? =some y->x≠y
end Go.Proofs.YtpagmlndgblhhaaGreatDoor
namespace Go.Proofs.YtpagmlndgblhhaaGreatDoor
open Go.RowKit Go.Own Go.Own.MapTy Go.Va Go.Sort
open Go.Own.Cells (sz enc)
def numS (n:Nat):ByteArray:=⟨(ych n).toArray⟩
theorem yc6 (n:Nat):(numS n).size<=11:=by
 have:=ybF n;show(ych n).toArray.size<=11;simpa using this
def ymK:Option Value->Bool
 |some (.int .u8 _)=>true
 |_=>false
def yoD:Option Value->UInt8
 |some (.int .u8 n)=>UInt8.ofNat n.toNat
 |_=>0
@[go_sem] theorem yo3 (x:UInt8):(⟨#[x]⟩:ByteArray).size=1:=rfl
@[go_sem] theorem ynp (n:Int):ymK (some (.int .u8 n))=true:=rfl
@[go_sem] theorem ynX (n:Int):yoD (some (.int .u8 n))=UInt8.ofNat n.toNat:=rfl
@[go_sem] theorem ypa (W:World) (b off:Nat) (h:ymK (W.cell? ⟨b,off,none⟩)=true):(convert 55 9 (.slice (some ⟨b,off,none⟩) 1 1)).run Tryz.prog W= .ok (.string ⟨#[yoD (W.cell? ⟨b,off,none⟩)]⟩) W:=by
 obtain⟨n,hn⟩:∃n,W.cell? ⟨b,off,none⟩=some (.int .u8 n):=by
  revert h;cases hc:W.cell? ⟨b,off,none⟩with
  |none=>intro h;cases h
  |some v=>
   intro h;cases v with
   |int k n=>cases k<;>first|exact⟨n,rfl⟩|cases h
   |_=>cases h
 rw[hn];have:=run_convert_bytes_arg (P:=Tryz.prog) W 55 5 Tryz.underlying55 Tryz.underlying5 b off 1 1 [n] rfl (fun i hi=>by
  obtain rfl:i=0:=by omega
  exact hn) 9 Tryz.underlying9
 exact this
theorem yjl {n:Nat}(h:n<128):numS n=⟨#[UInt8.ofNat n]⟩:=by unfold numS;rw[yfc h]
theorem yl0 {n:Nat}(h:128<=n)(hn:n<18446744073709551616):(⟨#[UInt8.ofNat (n%128+128)]⟩++numS (n/128):ByteArray)=numS n:=by
 apply ByteArray.ext;unfold numS;rw[yil h hn,ByteArray.data_append];simp
theorem yks (n:Nat)(hn:n<128)(w:World):Calls Tryz.prog 143 #[.int .u64 n] w fun e w'=>e= .returned (.string (numS n))/\Below w w w':=by
 have C:(n:Int)<128:=by omega
 have B:IntKind.u8.wrap (n:Int)=n:=by simp[IntKind.wrap,IntKind.bits,IntKind.signed];omega
 have A:=zhd (yjl hn);go_in;go_wp2_with fail;refine zng (v:=.string ⟨#[UInt8.ofNat n]⟩) (by simp only[results,Tryz.results143];go_simp) rfl ⟨by rw[A.o],zal⟩
theorem ynf (n:Nat)(h:128<=n)(hn:n<18446744073709551616)(w:World)(IH:∀W,Calls Tryz.prog 143 #[.int .u64 (n/128:Nat)] W fun e w'=>e= .returned (.string (numS (n/128)))/\Below W W w'):Calls Tryz.prog 143 #[.int .u64 n] w fun e w'=>e= .returned (.string (numS n))/\Below w w w':=by
 have I:decide ((n:Int)<128)=false:=znd (by omega);have C:=zhd (yl0 h hn);have H:¬9223372036854775807<1+(numS (n/128)).size:=by have:=yc6 (n/128);omega
 have IH:=zhd (show∀W,Calls Tryz.prog 143 #[.int .u64 (IntKind.u64.wrap ((n:Int)/128))] W fun e w'=>e= .returned (.string (numS (n/128)))/\Below W W w' from by
  have F:IntKind.u64.wrap ((n:Int)/128)=((n/128:Nat):Int):=by simp[IntKind.wrap,IntKind.bits,IntKind.signed];omega
  rw[F];exact IH)
 have B:(n:Int).tmod 128=((n%128:Nat):Int):=rfl;obtain⟨m,hm⟩:∃m,m=n%128+128:=⟨_,rfl⟩;have E:m<256:=by omega
 rw[<-hm]at C;have K:IntKind.u64.wrap (((n:Int).tmod 128)+128)=(m:Int):=by rw[B];simp[IntKind.wrap,IntKind.bits,IntKind.signed];omega
 have J:IntKind.u8.wrap (m:Int)=m:=by simp[IntKind.wrap,IntKind.bits,IntKind.signed];omega
 clear hm hn h B;go_in;go_wp2_with fail;go_region_law ((go_simp;go_at_call 143;refine(IH.o _).mono ?_;rintro e G ⟨rfl,A⟩;have D:=ypy A;try simp only[go_sem]at D))
 all_goals
  clear D;go_wp2_with fail;refine zng (v:=.string (⟨#[UInt8.ofNat m]⟩++numS (n/128))) (by simp only[results,Tryz.results143];go_simp) rfl ⟨by rw[C.o],?_⟩
  first
  |exact((zal).drew).trans (A.mono (by simp))
  |exact((znv _ _).drew.trans (A.mono (by simp))).alloc A.size _
theorem ydO:∀(n:Nat),n<18446744073709551616->∀w:World,Calls Tryz.prog 143 #[.int .u64 n] w fun e w'=>e= .returned (.string (numS n))/\Below w w w':=fun n=>by
 induction n using Nat.strongRecOn with
 |_ n ih=>
  intro A w;by_cases h:n<128
  .exact yks n h w
  .exact ynf n (by omega) A w (fun W=>ih (n/128) (by omega) (by omega) W)
end Go.Proofs.YtpagmlndgblhhaaGreatDoor
namespace Go.Va
open Go.Own Go.RowKit
structure ELs (F:Nat->Prop)(w:World)(la:Option Addr)(ln:Nat)(l:List Val)(g off:Nat):Prop where
 len:ln=l.length
 max:ln<=maxLen
 addr:la=some ⟨g,off,none⟩\/l=[]
 at_:∀(i:Nat) (z:Val),l[i]? =some z->F g/\g<w/\∃c,CF F w c z/\
  w.cell? ⟨g,off+i*4,none⟩=some (.int .i64 c.kind)/\w.cell? ⟨g,off+i*4+1,none⟩=some (.int .i64 c.n)/\w.cell? ⟨g,off+i*4+2,none⟩=some (.string c.s)/\w.cell? ⟨g,off+i*4+3,none⟩=some (.slice c.la c.ln c.lc)
theorem VF.els {F:Nat->Prop}{w:World}{la:Option Addr}{ln lc:Nat}{l:List Val}(h:VF F w (.slice la ln lc) l):∃g off,ELs F w la ln l g off:=by
 obtain⟨E,D,A⟩:=h.elems;rcases A with A|⟨g,off,B,C,G,A⟩
 .exact⟨0,0,E,D,.inr A,fun i y hy=>by rw[A]at hy;simp at hy⟩
 .exact⟨g,off,E,D,.inl B,fun i y hy=>⟨C,G,A i y hy⟩⟩
theorem ELs.get {F:Nat->Prop}{w:World}{la:Option Addr}{ln:Nat}{l:List Val}{g off:Nat}(h:ELs F w la ln l g off){wr:World}(B:Below w w wr){i:Nat}(hi:i<ln):
  ∃z c,l[i]? =some z/\la=some ⟨g,off,none⟩/\l.drop i=z::l.drop (i+1)/\g<wr/\CF F wr c z/\
   wr.cell? ⟨g,off+i*4,none⟩=some (.int .i64 c.kind)/\wr.cell? ⟨g,off+i*4+1,none⟩=some (.int .i64 c.n)/\wr.cell? ⟨g,off+i*4+2,none⟩=some (.string c.s)/\wr.cell? ⟨g,off+i*4+3,none⟩=some (.slice c.la c.ln c.lc):=by
 obtain⟨z,A⟩:=yac (l:=l) (k:=i) (by have:=h.len;omega);obtain⟨_,H,c,I,G,E,D,C⟩:=h.at_ i z A;rw[<-B.cell (p:=⟨g,_,none⟩) H]at G E D C;exact⟨z,c,A,h.addr.resolve_right (fun e=>by rw[e]at A;simp at A),by
  rw[znr (zge A).1,(zge A).2],znj H B.size,I.keep (S:=fun _=>False) (zkb B) (fun _ _ f=>f),G,E,D,C⟩
end Go.Va
namespace Go.Proofs.YtpagmlndgblhhaaGreatDoor
open Go.RowKit Go.Own Go.Own.MapTy Go.Va Go.Sort
open Go.Own.Cells (sz enc)
def yeM (w:World)(r:Nat×Int)(e:Ending)(w':World):Prop:=e= .returned (.tuple #[.int .i64 r.2,.int .i64 r.1])/\Below w w w'
theorem yiX (x:Val)
  (d p:Nat)(hd:d<=8)(hp:p<=256)(ck cn:Int)(cs:ByteArray)(la:Option Addr)(ln lc:Nat)(F:Nat->Prop)(w:World)(C:CF F w ⟨ck,cn,cs,la,ln,lc⟩ x)
  (h:256<=p)(r:Nat×Int)(hr:r=(p+1,2)):
  Calls Tryz.prog 112 #[.agg #[ck,cn,cs,.slice la ln lc],d,p] w (yeM w r)
  :=by
 have A:=zai hd C;clear A;subst hr;obtain rfl:p=256:=by omega
 clear C;go_in;go_wp2_with fail;refine zng (v:=.tuple #[.int .i64 2,.int .i64 257]) (by simp only[results,Tryz.results112];go_simp) rfl ⟨rfl,zal⟩
theorem yj6 (x:Val)
  (d p:Nat)(hd:d<=8)(hp:p<=256)(ck cn:Int)(cs:ByteArray)(la:Option Addr)(ln lc:Nat)(F:Nat->Prop)(w:World)(C:CF F w ⟨ck,cn,cs,la,ln,lc⟩ x)
  (h:¬256<=p)(hk:ck=0\/ck=1)(r:Nat×Int)(hr:r=(p+1,0)):
  Calls Tryz.prog 112 #[.agg #[ck,cn,cs,.slice la ln lc],d,p] w (yeM w r)
  :=by
 have A:=zai hd C;clear A;subst hr;clear C;have B:¬(256:Int)<(p:Int)+1:=by omega
 rcases hk with rfl|rfl
 .go_in
  go_wp2_with fail;refine zng (v:=.tuple #[.int .i64 0,.int .i64 ((p:Int)+1)]) (by simp only[results,Tryz.results112];go_simp) rfl ⟨rfl,zal⟩
 .go_in
  go_wp2_with fail;refine zng (v:=.tuple #[.int .i64 0,.int .i64 ((p:Int)+1)]) (by simp only[results,Tryz.results112];go_simp) rfl ⟨rfl,zal⟩
theorem yiW (x:Val)
  (d p:Nat)(hd:d<=8)(hp:p<=256)(ck cn:Int)(cs:ByteArray)(la:Option Addr)(ln lc:Nat)(F:Nat->Prop)(w:World)(C:CF F w ⟨ck,cn,cs,la,ln,lc⟩ x)
  (h:¬256<=p)(hk:ck=2)(r:Nat×Int)(hr:r=(p+1,bif decide (256<cs.size)then 2 else 0)):
  Calls Tryz.prog 112 #[.agg #[ck,cn,cs,.slice la ln lc],d,p] w (yeM w r)
  :=by
 have A:=zai hd C;clear A;subst hr;subst hk;clear C;have D:¬(256:Int)<(p:Int)+1:=by omega
 cases hc:decide (256<cs.size)with
 |true=>
  have B:(256:Int)<(cs.size:Int):=by have:=znx hc;omega
  clear hc;go_in;go_wp2_with fail;refine zng (v:=.tuple #[.int .i64 2,.int .i64 ((p:Int)+1)]) (by simp only[results,Tryz.results112];go_simp) rfl ⟨rfl,zal⟩
 |false=>
  have B:¬(256:Int)<(cs.size:Int):=by have:=zny hc;omega
  clear hc;go_in;go_wp2_with fail;refine zng (v:=.tuple #[.int .i64 0,.int .i64 ((p:Int)+1)]) (by simp only[results,Tryz.results112];go_simp) rfl ⟨rfl,zal⟩
theorem yiZ (x:Val)
  (d p:Nat)(hd:d<=8)(hp:p<=256)(ck cn:Int)(cs:ByteArray)(la:Option Addr)(ln lc:Nat)(F:Nat->Prop)(w:World)(C:CF F w ⟨ck,cn,cs,la,ln,lc⟩ x)
  (h:¬256<=p)(k0:(ck==0)=false)(k1:(ck==1)=false)(k2:(ck==2)=false)(k3:(ck==3)=false)(r:Nat×Int)(hr:r=(p+1,9)):
  Calls Tryz.prog 112 #[.agg #[ck,cn,cs,.slice la ln lc],d,p] w (yeM w r)
  :=by
 have A:=zai hd C;clear A;subst hr;clear C;have B:¬(256:Int)<(p:Int)+1:=by omega
 go_in;go_wp2_with fail;refine zng (v:=.tuple #[.int .i64 9,.int .i64 ((p:Int)+1)]) (by simp only[results,Tryz.results112];go_simp) rfl ⟨rfl,zal⟩
theorem ye8 (x:Val)
  (d p:Nat)(hd:d<=8)(hp:p<=256)(ck cn:Int)(cs:ByteArray)(la:Option Addr)(ln lc:Nat)(F:Nat->Prop)(w:World)(C:CF F w ⟨ck,cn,cs,la,ln,lc⟩ x)
  (h:¬256<=p)(k3:ck=3)(h8:8<=d\/64<ln)(r:Nat×Int)(hr:r=(p+1,bif decide (8<=d)then 30 else 2)):
  Calls Tryz.prog 112 #[.agg #[ck,cn,cs,.slice la ln lc],d,p] w (yeM w r)
  :=by
 have A:=zai hd C;clear A;subst hr;subst k3;clear C;have E:¬(256:Int)<(p:Int)+1:=by omega
 cases hc:decide (8<=d)with
 |true=>
  have B:(8:Int)<=d:=by have:=znx hc;omega
  clear hc;go_in;go_wp2_with fail;refine zng (v:=.tuple #[.int .i64 30,.int .i64 ((p:Int)+1)]) (by simp only[results,Tryz.results112];go_simp) rfl ⟨rfl,zal⟩
 |false=>
  have B:¬(8:Int)<=d:=by have:=zny hc;omega
  have D:(64:Int)<ln:=by have:=zny hc;omega
  clear hc;go_in;go_wp2_with fail;refine zng (v:=.tuple #[.int .i64 2,.int .i64 ((p:Int)+1)]) (by simp only[results,Tryz.results112];go_simp) rfl ⟨rfl,zal⟩
def yp6 (n:Nat):Prop:=∀(x:Val),x.parts<=n->∀(d p:Nat),d<=8->p<=256->∀(ck cn:Int) (cs:ByteArray) (la:Option Addr) (ln lc:Nat) (F:Nat->Prop) (w:World),CF F w ⟨ck,cn,cs,la,ln,lc⟩ x->
 Calls Tryz.prog 112 #[.agg #[ck,cn,cs,.slice la ln lc],d,p] w (yeM w (yal x d (p,0)))
theorem yiY (n:Nat)(IH:yp6 n)(x:Val)(hx:x.parts<=n+1)
  (d p:Nat)(hd:d<=8)(hp:p<=256)(ck cn:Int)(cs:ByteArray)(la:Option Addr)(ln lc:Nat)(F:Nat->Prop)(w:World)(C:CF F w ⟨ck,cn,cs,la,ln,lc⟩ x)
  (h:¬256<=p)(k3:ck=3)(h8:¬8<=d)(h64:¬64<ln)(g off:Nat)(E:ELs F w la ln x.list g off)(r:Nat×Int)(hr:yal.walkL x.list (d+1) (p+1,0)=r):
  Calls Tryz.prog 112 #[.agg #[ck,cn,cs,.slice la ln lc],d,p] w (yeM w r)
  :=by
 have k:=zai hd C;clear k;subst k3;have u:=zhd E;have HI:=zhd IH;have t:=zhd hr;have Z:=zhd E.len;clear C E IH hr;have h2:¬(256:Int)<(p:Int)+1:=by omega
 have h3:¬(8:Int)<=d:=by omega
 have h4:¬(64:Int)<ln:=by omega
 have m:wrap64 ((d:Int)+1)=(d:Int)+1:=by unfold wrap64;omega
 go_in;go_wp2_with fail;obtain⟨Q,D⟩:∃Q,Q=w.alloc (.cells #[.int .i64 3,cn,cs,.slice la ln lc] 38):=⟨_,rfl⟩;have S:=zha D;have j:=zba D;rw[<-D];have R:=zh2 S j;clear D S j;go_loopg [8,2] (x.list.length) (fun gk v8 v2 wr=>∃i q:Nat,v8= .int .i64 i/\v2= .int .i64 q/\i<=x.list.length/\q<=256/\gk=x.list.length - i/\Hid (yal.walkL (x.list.drop i) (d+1) (q,0)=r/\Below Q Q wr))
 case atStart=>exact⟨0,p+1,rfl,by simp,znq _,by omega,rfl,zhd ⟨t.o,znv _ _⟩⟩
 case round=>
  obtain⟨i,q,rfl,rfl,hi,W,H,K⟩:=hrel;have P:=R.o.2.trans (K.o.2.mono R.o.2.size);have V:=(K.o.2.block _ (zlt R.o.1)).trans R.o.1;have S:=zca V 3 rfl;have s0:=zlt V;clear V;by_cases hin:i<ln
  .obtain⟨z,J,T,U,M,l,Y,q0,q1,q2,q3⟩:=u.o.get P hin
   have X:(i:Int)<ln:=by omega
   have A:=K.o.1;rw[M,yaP]at A;have f:=zhd (HI.o z (by have:=Val.parts_lt (v:=x) (zmg T);omega) (d+1) q (by omega) W J.kind J.n J.s J.la J.ln J.lc F wr Y);have I:=ycZ z (d+1) (q,0) (fun _=>W);obtain⟨G,O,hv⟩:∃(a:Nat) (b:Int),yal z (d+1) (q,0)=(a,b):=⟨_,_,rfl⟩;rw[hv]at f I A;have A:yal.walkL (x.list.drop (i+1)) (d+1) (G,O)=r:=A;have B:=zh5 I A P H (zge T).1;subst U;clear T Y M I A P hv H;go_wp2_with fail;refine f.o.mono ?_;rintro e y ⟨rfl,N⟩;have c:=zhd N;clear N;cases he:(O==0)with
   |true=>
    obtain rfl:O=0:=by simpa using he
    clear he;go_wp2_with fail;go_roundg (x.list.length - (i+1))
    case measure=>have:=B.o.2.2.2.1;have:=B.o.2.2.2.2;omega
    case rel=>exact⟨i+1,G,by simp,rfl,B.o.2.2.2.2,B.o.1 (by trivial),rfl,zhd ⟨B.o.2.1,K.o.2.trans (c.o.mono K.o.2.size)⟩⟩
   |false=>
    go_wp2_with fail;refine zng (v:=.tuple #[O,G]) (by simp only[results,Tryz.results112];go_simp) rfl ⟨?_,B.o.2.2.1.trans (c.o.mono B.o.2.2.1.size)⟩;have A:=B.o.2.1;rw[ya3 _ _ _ (by show(O !=0)=true;simpa using he)]at A;rw[<-A]
  .obtain rfl:i=ln:=by have:=Z.o;omega
   have L:x.list.drop i=[]:=zns (by have:=Z.o;omega);have A:=K.o.1;rw[L,ya2]at A;have B:=zh2 A P;clear A P H L;have e3:¬(i:Int)<i:=by omega
   go_wp2_with fail;refine zng (v:=.tuple #[.int .i64 0,q]) (by simp only[results,Tryz.results112];go_simp) rfl ⟨?_,B.o.2⟩;rw[<-B.o.1]
theorem yfW:∀n,yp6 n
 |0=>fun x h=>by have:=x.parts_pos;omega
 |n+1=>fun x hx d p hd hp ck cn cs la ln lc F w C=>by
  have G:ck=x.kind:=C.kind;have D:cs=x.txt:=C.s;obtain⟨g,B,E⟩:=C.l.els;have A:=ycc x d p 0;rw[<-G,<-D,<-E.len]at A;have A:yal x d (p,0)=bif decide (256<=p)then(p+1,2)else bif ck==0||ck==1 then(p+1,0)else bif ck==2 then(p+1,bif decide (256<cs.size)then 2 else 0)else bif ck==3 then yal.walkL x.list (d+1) (p+1,bif decide (8<=d)then 30 else bif decide (64<ln)then 2 else 0)else(p+1,9):=A;by_cases hp2:256<=p
  .rw[zno hp2]at A
   exact yiX x d p hd hp ck cn cs la ln lc F w C hp2 _ A
  .rw[znd hp2,znl]at A
   by_cases k0:ck=0\/ck=1
   .rw[show(ck==0||ck==1)=true by simpa using k0]at A
    exact yj6 x d p hd hp ck cn cs la ln lc F w C hp2 k0 _ A
   .rw[show(ck==0||ck==1)=false by simpa using k0,znl]at A
    by_cases k2:ck=2
    .rw[show(ck==2)=true by simpa using k2]at A
     exact yiW x d p hd hp ck cn cs la ln lc F w C hp2 k2 _ A
    .rw[show(ck==2)=false by simpa using k2,znl]at A
     by_cases k3:ck=3
     .rw[show(ck==3)=true by simpa using k3,znm]at A
      by_cases h8:8<=d
      .rw[zno h8,znm,ya3 _ _ _ rfl]at A
       exact ye8 x d p hd hp ck cn cs la ln lc F w C hp2 k3 (.inl h8) _ (by rw[zno h8];exact A)
      .rw[znd h8,znl]at A
       by_cases h64:64<ln
       .rw[zno h64,znm,ya3 _ _ _ rfl]at A
        exact ye8 x d p hd hp ck cn cs la ln lc F w C hp2 k3 (.inr h64) _ (by rw[znd h8];exact A)
       .rw[znd h64,znl]at A
        exact yiY n (yfW n) x hx d p hd hp ck cn cs la ln lc F w C hp2 k3 h8 h64 g B E _ A.symm
     .rw[show(ck==3)=false by simpa using k3,znl]at A
      exact yiZ x d p hd hp ck cn cs la ln lc F w C hp2 (by simpa using fun e=>k0 (.inl e)) (by simpa using fun e=>k0 (.inr e)) (by simpa using k2) (by simpa using k3) _ A
theorem ylQ (n:Int)(h0: -9223372036854775808<=n)(h1:n<=9223372036854775807)(w:World):Calls Tryz.prog 141 #[n] w fun e w'=>e= .returned (.string (numS (zigL n)))/\Below w w w':=by
 have F:=yjP h0 h1;by_cases hn:0<=n
 .have I:IntKind.u64.wrap n=n:=by simp[IntKind.wrap,IntKind.bits,IntKind.signed];omega
  have B:n*2=((zigL n:Nat):Int):=by
   unfold zigL;rw[if_pos hn];omega
  have C:=zhd (fun W=>ydO (zigL n) F W);generalize zigL n=z at*;have D:=zhd B;clear B;go_in;go_wp2_with fail;rw[D.o];refine(C.o _).mono ?_;rintro e G ⟨rfl,A⟩;have E:=zhd A;clear A;go_wp2;go_ret;exact⟨rfl,E.o⟩
 .have J:wrap64 (n+1)=n+1:=by unfold wrap64;omega
  have H:wrap64 (-(n+1))= -(n+1):=by unfold wrap64;omega
  have I:IntKind.u64.wrap (-(n+1))= -(n+1):=by simp[IntKind.wrap,IntKind.bits,IntKind.signed];omega
  have hm:IntKind.u64.wrap (-(n+1)*2)= -(n+1)*2:=by simp[IntKind.wrap,IntKind.bits,IntKind.signed];omega
  have B: -(n+1)*2+1=((zigL n:Nat):Int):=by
   unfold zigL;rw[if_neg hn];omega
  have C:=zhd (fun W=>ydO (zigL n) F W);generalize zigL n=z at*;have D:=zhd B;clear B;go_in;go_wp2_with fail;rw[D.o];refine(C.o _).mono ?_;rintro e G ⟨rfl,A⟩;have E:=zhd A;clear A;go_wp2;go_ret;exact⟨rfl,E.o⟩
def textS (s:ByteArray):ByteArray:=⟨(Go.Va.textB s.data.toList).toArray⟩
theorem ylB (s:ByteArray):numS s.size++s=textS s:=by
 apply ByteArray.ext;unfold numS textS Go.Va.textB;rw[ByteArray.data_append];simp
theorem yj9 (s:ByteArray)(hs:s.size<=1099511627776)(w:World):Calls Tryz.prog 142 #[s] w fun e w'=>e= .returned (.string (textS s))/\Below w w w':=by
 have B:=zhd (fun W=>ydO s.size (by omega) W);have G:IntKind.u64.wrap (s.size:Int)=s.size:=by simp[IntKind.wrap,IntKind.bits,IntKind.signed];omega
 have C:=zhd (ylB s);have F:=yc6 s.size;go_in;go_wp2_with fail;refine(B.o _).mono ?_;rintro e E ⟨rfl,A⟩;have D:=zhd A;clear A;generalize numS s.size=ns at*;go_wp2;go_ret;exact⟨by rw[C.o];rfl,D.o⟩
def bytesS (x:Val):ByteArray:=⟨(yah x).toArray⟩
theorem yeH (x:Val):(bytesS x).size=(yah x).length:=by
 show(yah x).toArray.size=_;simp
theorem ykH (k:Int):IntKind.u8.wrap k=k%256:=by simp[IntKind.wrap,IntKind.bits,IntKind.signed]
def BIH (n:Nat):Prop:=∀(x:Val),x.parts<=n->∀(ck cn:Int) (cs:ByteArray) (la:Option Addr) (ln lc:Nat) (F:Nat->Prop) (w:World),CF F w ⟨ck,cn,cs,la,ln,lc⟩ x->x.wf->(yah x).length<=1099511627776->
 Calls Tryz.prog 113 #[.agg #[ck,cn,cs,.slice la ln lc]] w fun e w'=>e= .returned (.string (bytesS x))/\Below w w w'
theorem yf4 (x:Val)
  (ck cn:Int)(cs:ByteArray)(la:Option Addr)(ln lc:Nat)(F:Nat->Prop)(w:World)(C:CF F w ⟨ck,cn,cs,la,ln,lc⟩ x)(hw:x.wf)(hl:(yah x).length<=1099511627776)
  (k1:(ck==1)=false)(k2:(ck==2)=false)(k3:(ck==3)=false):
  Calls Tryz.prog 113 #[.agg #[ck,cn,cs,.slice la ln lc]] w fun e w'=>e= .returned (.string (bytesS x))/\Below w w w'
  :=by
 have B:=zai hw hl;clear B;have A:ck=x.kind:=C.kind;have D:Hid (bytesS x=⟨#[UInt8.ofNat (ck%256).toNat]⟩):=zhd (by
  unfold bytesS;rw[yaY,<-A,k1,k2,k3];rfl)
 have E:=ykH ck;generalize ck%256=kb1 at*;clear C hw hl A;go_in;go_wp2;go_ret;exact⟨by rw[D.o];rfl,(zal).alloc (by simp) _⟩
theorem yja (x:Val)
  (ck cn:Int)(cs:ByteArray)(la:Option Addr)(ln lc:Nat)(F:Nat->Prop)(w:World)(C:CF F w ⟨ck,cn,cs,la,ln,lc⟩ x)(hw:x.wf)(hl:(yah x).length<=1099511627776)
  (k1:ck=1):
  Calls Tryz.prog 113 #[.agg #[ck,cn,cs,.slice la ln lc]] w fun e w'=>e= .returned (.string (bytesS x))/\Below w w w'
  :=by
 have G:=zai hw hl;clear G;have E:ck=x.kind:=C.kind;have D:cn=x.num:=C.n;have B:=((Val.wf_eq x).1 hw).2.1;rw[<-D]at B;subst k1;have I:Hid ((⟨#[UInt8.ofNat 1]⟩++numS (zigL cn):ByteArray)=bytesS x):=zhd (by
  apply ByteArray.ext;unfold bytesS numS;rw[yaY,<-E,<-D,ByteArray.data_append];simp)
 have H:=zhd (fun W=>ylQ cn B.1 B.2 W);have M:=yc6 (zigL cn);generalize numS (zigL cn)=ns at*;clear C hw hl E D B;go_in;go_wp2_with fail;refine(H.o _).mono ?_;rintro e L ⟨rfl,A⟩;have J:=zhd (((znv w.heap.size w).alloc (znc _) (.cells #[.int .i64 1,cn,cs,.slice la ln lc] 38)).trans (((znv _ _).alloc (znc _) (.cells #[.int .u8 1] 5)).trans (A.mono (by simp))|>.mono (by simp)));clear A;have K:(⟨#[UInt8.ofNat 1]⟩:ByteArray).size=1:=rfl;go_wp2;go_ret;exact⟨by rw[<-I.o];rfl,J.o⟩
theorem yhg (x:Val)
  (ck cn:Int)(cs:ByteArray)(la:Option Addr)(ln lc:Nat)(F:Nat->Prop)(w:World)(C:CF F w ⟨ck,cn,cs,la,ln,lc⟩ x)(hw:x.wf)(hl:(yah x).length<=1099511627776)
  (k2:ck=2):
  Calls Tryz.prog 113 #[.agg #[ck,cn,cs,.slice la ln lc]] w fun e w'=>e= .returned (.string (bytesS x))/\Below w w w'
  :=by
 have G:ck=x.kind:=C.kind;have E:cs=x.txt:=C.s;subst k2;have M:cs.size<=140737488355328:=by have:=((Val.wf_eq x).1 hw).2.2.1;rw[<-E]at this;exact this
 have A:(Go.Va.textB cs.data.toList).length<=1099511627776:=by
  rw[yaY,<-G,<-E]at hl;simp only[List.length_cons]at hl;have e:(bif (2:Int)==1 then ych (zigL x.num)else bif (2:Int)==2 then Go.Va.textB cs.data.toList else bif (2:Int)==3 then ych x.list.length++yah.bytesL x.list else[])=Go.Va.textB cs.data.toList:=rfl;rw[e]at hl;omega
 have N:(textS cs).size<=1099511627776:=by unfold textS;show(Go.Va.textB cs.data.toList).toArray.size<=_;simpa using A
 have B:cs.size<=1099511627776:=by
  have:cs.data.toList.length=cs.size:=by simp
  unfold Go.Va.textB at A;rw[znk]at A;omega
 have I:Hid ((⟨#[UInt8.ofNat 2]⟩++textS cs:ByteArray)=bytesS x):=zhd (by
  apply ByteArray.ext;unfold bytesS textS;rw[yaY,<-G,<-E,ByteArray.data_append];simp)
 have H:=zhd (fun W=>yj9 cs B W);generalize textS cs=ns at*;clear C hw hl G E A B;go_in;go_wp2_with fail;refine(H.o _).mono ?_;rintro e L ⟨rfl,D⟩;have J:=zhd (((znv w.heap.size w).alloc (znc _) (.cells #[.int .i64 2,cn,cs,.slice la ln lc] 38)).trans (((znv _ _).alloc (znc _) (.cells #[.int .u8 2] 5)).trans (D.mono (by simp))|>.mono (by simp)));clear D;have K:(⟨#[UInt8.ofNat 2]⟩:ByteArray).size=1:=rfl;go_wp2;go_ret;exact⟨by rw[<-I.o];rfl,J.o⟩
theorem yhh (n:Nat)(IH:BIH n)(x:Val)(hx:x.parts<=n+1)
  (ck cn:Int)(cs:ByteArray)(la:Option Addr)(ln lc:Nat)(F:Nat->Prop)(w:World)(C:CF F w ⟨ck,cn,cs,la,ln,lc⟩ x)(hw:x.wf)(hl:(yah x).length<=1099511627776)
  (k3:ck=3)(g off:Nat)(E:ELs F w la ln x.list g off):
  Calls Tryz.prog 113 #[.agg #[ck,cn,cs,.slice la ln lc]] w fun e w'=>e= .returned (.string (bytesS x))/\Below w w w'
  :=by
 have f:ck=x.kind:=C.kind;subst k3;have X:=E.max;unfold maxLen at X;have HE:=zhd E;have HI:=zhd IH;have j:=zhd E.len;have u:=zhd (Val.wfL_iff.1 ((Val.wf_eq x).1 hw).2.2.2);have Q:yah x=(3:UInt8)::(ych ln++yah.bytesL x.list):=by
  rw[yaY,<-f,E.len];rfl
 have k:=zh2 Q hl;have h:=zhd (fun W=>ydO ln (by omega) W);have N:=yc6 ln;have O:(numS ln).data.toList=ych ln:=by unfold numS;simp
 have y:=zhd O;have r:IntKind.u64.wrap (ln:Int)=ln:=by simp[IntKind.wrap,IntKind.bits,IntKind.signed];omega
 generalize numS ln=ns at*;clear C E IH hw hl f Q O;go_in;go_wp2_with fail;obtain⟨w1,B⟩:∃w1,w1=(w.alloc (.cells #[.int .i64 3,cn,cs,.slice la ln lc] 38)).alloc (.cells #[.int .u8 3] 5):=⟨_,rfl⟩;have G:w1.heap[w.heap.size]? =some (.cells #[.int .i64 3,cn,cs,.slice la ln lc] 38 (0,0)):=by rw[B];exact yaC
 have a:Below w w w1:=by rw[B];exact(zal).alloc (by simp) _
 rw[<-B];clear B;refine(h.o _).mono ?_;rintro e b ⟨rfl,J⟩;have G:=(J.block _ (zlt G)).trans G;have m:=zca G 3 rfl;have l:=zlt G;have V:=zh2 G (a.trans (J.mono a.size));clear a J G h;have zs:(⟨#[UInt8.ofNat 3]⟩:ByteArray).size=1:=rfl;go_wp2_with fail;go_loopg [4,3] (x.list.length) (fun gk v4 v3 wr=>∃(i:Nat) (S:ByteArray),v4= .int .i64 i/\v3= .string S/\i<=x.list.length/\gk=x.list.length - i/\Hid (S.data.toList++yah.bytesL (x.list.drop i)=yah x/\Below b b wr))
 case atStart=>
  refine⟨0,_,rfl,rfl,znq _,rfl,zhd ⟨?_,znv _ _⟩⟩;rw[k.o.1,ByteArray.data_append,Array.toList_append,y.o];rfl
 case round=>
  obtain⟨i,S,rfl,rfl,hi,I,K⟩:=hrel;have U:=V.o.2.trans (K.o.2.mono V.o.2.size);have Z:=(K.o.2.block _ (zlt V.o.1)).trans V.o.1;have G:=zca Z 3 rfl;have l:=zlt Z;clear Z;have D:S.data.toList.length+(yah.bytesL (x.list.drop i)).length<=1099511627776:=by
   have:=congrArg List.length K.o.1;rw[znk]at this;have:=k.o.2;omega
  have R:S.data.toList.length=S.size:=by simp
  by_cases hin:i<ln
  .obtain⟨z,L,N,Y,P,q,d,q0,q1,q2,m⟩:=HE.o.get U hin
   have c:(i:Int)<ln:=by omega
   have A:=K.o.1;rw[P,ybq]at A D;rw[znk]at D;have CA:=zhd (HI.o z (by have:=Val.parts_lt (v:=x) (zmg N);omega) L.kind L.n L.s L.la L.ln L.lc F wr d (u.o z (zmg N)) (by omega));have p:(bytesS z).size<=1099511627776:=by rw[yeH];omega
   have M:(bytesS z).data.toList=yah z:=by unfold bytesS;simp
   have t:S.size<=1099511627776:=by omega
   have H:=zh5 A U I M (zge N).1;generalize bytesS z=bz at*;subst Y;clear N d P A U I M D R;go_wp2_with fail;refine CA.o.mono ?_;rintro e w5 ⟨rfl,T⟩;have H5:=zhd T;clear T;go_wp2_with fail;go_roundg (x.list.length - (i+1))
   case measure=>have:=H.o.2.2.1;have:=H.o.2.2.2.2;omega
   case rel=>
    refine⟨i+1,_,by simp,rfl,H.o.2.2.2.2,rfl,zhd ⟨?_,K.o.2.trans (H5.o.mono K.o.2.size)⟩⟩;rw[ByteArray.data_append,Array.toList_append,H.o.2.2.2.1,List.append_assoc];exact H.o.1
  .obtain rfl:i=ln:=by have:=j.o;omega
   have A:=K.o.1;rw[zns (by have:=j.o;omega),ydu,List.append_nil]at A;have H:=zh2 A U;have e3:¬(i:Int)<i:=by omega
   clear A U I D R;go_wp2;go_ret;refine⟨?_,H.o.2⟩;rw[show S=bytesS x from ByteArray.ext (by unfold bytesS;rw[<-H.o.1])];rfl
theorem yfa:∀n,BIH n
 |0=>fun x h=>by have:=x.parts_pos;omega
 |n+1=>fun x hx ck cn cs la ln lc F w C hw hl=>by
  obtain⟨g,A,E⟩:=C.l.els;by_cases k1:ck=1
  .exact yja x ck cn cs la ln lc F w C hw hl k1
  .by_cases k2:ck=2
   .exact yhg x ck cn cs la ln lc F w C hw hl k2
   .by_cases k3:ck=3
    .exact yhh n (yfa n) x hx ck cn cs la ln lc F w C hw hl k3 g A E
    .exact yf4 x ck cn cs la ln lc F w C hw hl (by simpa using k1) (by simpa using k2) (by simpa using k3)
def yoQ (w:World)(r:Int)(e:Ending)(w':World):Prop:=∃n:Int,e= .returned (.tuple #[r,n])/\Below w w w'
theorem yi9 (x:Val)(ck cn:Int)(cs:ByteArray)(la:Option Addr)(ln lc:Nat)(F:Nat->Prop)(w:World)(C:CF F w ⟨ck,cn,cs,la,ln,lc⟩ x)(hw:x.wf):
  Calls Tryz.prog 78 #[.agg #[ck,cn,cs,.slice la ln lc],.int .i64 0,.int .i64 0] w (yoQ w (checkL x)):=by
 have O:=zhd (fun W (hW:Below w w W)=>yfW _ x (znc _) 0 0 (by decide) (by decide) ck cn cs la ln lc F W (C.keep (S:=fun _=>False) (zkb hW) (fun _ _ f=>f)));have X:=zhd (fun(h:(yah x).length<=1099511627776) W (hW:Below w w W)=>yfa _ x (znc _) ck cn cs la ln lc F W (C.keep (S:=fun _=>False) (zkb hW) (fun _ _ f=>f)) hw h);have P:=zhd (fun(h:(yal x 0 (0,0)).2=0)=>yeF h);have E:checkL x=bif (yal x 0 (0,0)).2 !=0 then(yal x 0 (0,0)).2 else bif decide (512<(yah x).length)then 2 else 0:=rfl;obtain⟨⟨N,K⟩,hv⟩:∃r,yal x 0 (0,0)=r:=⟨_,rfl⟩;rw[hv]at O P E;dsimp only at P E;have J:=zhd E;clear C hw hv E;go_in;go_wp2_with fail;obtain⟨R,D⟩:∃R,R=w.alloc (.cells #[ck,cn,cs,.slice la ln lc] 38):=⟨_,rfl⟩;have L:=zba D;have M:=zha D;rw[<-D];clear D;refine(O.o _ L).mono ?_;rintro e a ⟨rfl,G⟩;have T:=(G.block _ (zlt M)).trans M;obtain⟨c0,c1,c2,c3,b⟩:=zq4 T;have H:=zhd (L.trans (G.mono L.size));clear L G M T O;cases he:(K==0)with
 |false=>
  have A:=J.o;rw[show(K !=0)=true by simpa using he]at A;have I:=zhd A;clear A;go_wp2_with fail;refine zng (v:=.tuple #[K,N]) (by simp only[results,Tryz.results78];go_simp) rfl ⟨_,by rw[I.o];rfl,H.o⟩
 |true=>
  obtain rfl:K=0:=by simpa using he
  have V:=P.o rfl;have Y:=zhd (X.o (by omega) a H.o);have U:=yeH x;clear he X;cases hc:decide (512<(yah x).length)with
  |true=>
   have A:=J.o;rw[hc]at A;have I:=zhd A;have c:(512:Int)<(bytesS x).size:=by have:=znx hc;omega
   clear A hc U V J;generalize bytesS x=bs at*;go_wp2_with fail;refine Y.o.mono ?_;rintro e Z ⟨rfl,B⟩;have Q:=zhd (H.o.trans (B.mono H.o.size));clear B;go_wp2_with fail;refine zng (v:=.tuple #[.int .i64 2,N]) (by simp only[results,Tryz.results78];go_simp) rfl ⟨_,by rw[I.o];rfl,Q.o⟩
  |false=>
   have A:=J.o;rw[hc]at A;have I:=zhd A;have c:¬(512:Int)<(bytesS x).size:=by have:=zny hc;omega
   clear A hc U V J;generalize bytesS x=bs at*;go_wp2_with fail;refine Y.o.mono ?_;rintro e Z ⟨rfl,B⟩;have Q:=zhd (H.o.trans (B.mono H.o.size));clear B;go_wp2_with fail;refine zng (v:=.tuple #[.int .i64 0,N]) (by simp only[results,Tryz.results78];go_simp) rfl ⟨_,by rw[I.o];rfl,Q.o⟩
theorem ylX {op:Int}(h0:0<=op)(h1:op<33):op=0\/op=1\/op=2\/op=3\/op=4\/op=5\/op=6\/op=7\/op=8\/op=9\/op=10\/op=11\/op=12\/op=13\/op=14\/op=15\/op=16\/op=17\/op=18\/op=19\/op=20\/op=21\/op=22\/op=23\/op=24\/op=25\/op=26\/op=27\/op=28\/op=29\/op=30\/op=31\/op=32:=by omega
end Go.Proofs.YtpagmlndgblhhaaGreatDoor
namespace Go.Va
open Go.Own Go.RowKit Go.Own.MapTy
mutual
theorem ye0:∀(x:Val) (d p:Nat) (e:Int),yal (yab x) d (p,e)=yal x d (p,e)
 | .mk k n s l,d,p,e=>by
   have h:=yd0 l;rw[ycc,ycc (.mk k n s l),yaL,ybe,clone_list];show(bif e !=0 then(p,e)else bif decide (256<=p)then(p+1,2)else bif k==0||k==1 then(p+1,0)else bif k==2 then(p+1,bif decide (256<(bif k==2 then s else(⟨#[]⟩:ByteArray)).size)then 2 else 0)else bif k==3 then yal.walkL (bif k==3 then l.map yab else[]) (d+1) (p+1,bif decide (8<=d)then 30 else bif decide (64<(bif k==3 then l.map yab else[]).length)then 2 else 0)else(p+1,9))=(bif e !=0 then(p,e)else bif decide (256<=p)then(p+1,2)else bif k==0||k==1 then(p+1,0)else bif k==2 then(p+1,bif decide (256<s.size)then 2 else 0)else bif k==3 then yal.walkL l (d+1) (p+1,bif decide (8<=d)then 30 else bif decide (64<l.length)then 2 else 0)else(p+1,9));cases(e !=0)
   .cases decide (256<=p)
    .cases(k==0||k==1)
     .cases(k==2)
      .cases(k==3)
       .rfl
       .simp only[znm,znl,zmd]
        exact h _ _
      .rfl
     .rfl
    .rfl
   .rfl
theorem yd0:∀(l:List Val) (d:Nat) (c:Nat×Int),yal.walkL (l.map yab) d c=yal.walkL l d c
 |[],d,c=>rfl
 |x::r,d,(p,e)=>by
  have h1:=ye0 x d p e;have A:=yd0 r;rw[List.map_cons,yaP,yaP,h1,A]
end
theorem yaJ (x:Val):checkL (yab x)=checkL x:=by
 unfold checkL;rw[ye0,yeG]
end Go.Va
namespace Go.Proofs.YtpagmlndgblhhaaGreatDoor
open Go.RowKit Go.Own Go.Own.MapTy Go.Va Go.Sort
def yqm (p:Img)(c:In):Arg:=
 bif (ofL c.op).1.operand==1 then .val (yab (p.consts[c.a.toNat]?.getD ymB))else
 bif (ofL c.op).1.operand==2 then .name (p.names[c.a.toNat]?.getD ⟨#[]⟩)else
 bif (ofL c.op).1.operand==3 then .place c.a else .int c.a
structure PutOk (l:List (Int×Arg))(n:Nat):Prop where
 fit:∀m∈l,yqg m
 op:∀m∈l,(ofL m.1).2=true
 val:∀op x,(op,Arg.val x)∈l->checkL x=0
 int:∀op k,(op,Arg.int k)∈l->0<=k/\k<(if(ofL op).1.operand=4 then(n:Int)else if(ofL op).1.operand=5 then 17 else 1)
def yp5 (p q:Img)(c d:In):Prop:=
 c.op=d.op/\((ofL c.op).1.operand=1->∃(i j:Nat) (x y:Val),c.a=i/\d.a=j/\p.consts[i]? =some x/\q.consts[j]? =some y/\yab x=yab y)/\
 ((ofL c.op).1.operand=2->∃(i j:Nat) (s:ByteArray),c.a=i/\d.a=j/\p.names[i]? =some s/\q.names[j]? =some s)/\
 ((ofL c.op).1.operand≠0->(ofL c.op).1.operand≠1->(ofL c.op).1.operand≠2->c.a=d.a)
end Go.Proofs.YtpagmlndgblhhaaGreatDoor
namespace Go.Va
open Go.Own Go.RowKit
open Go.Proofs.YtpagmlndgblhhaaGreatDoor
theorem ybp {x:Val}:checkL x=0↔(yal x 0 (0,0)).2=0/\(yah x).length<=512:=by
 unfold checkL;cases h:((yal x 0 (0,0)).2 !=0)with
 |true=>
  simp only[znm];have A:(yal x 0 (0,0)).2≠0:=by simpa using h
  exact⟨fun e=>absurd e A,fun e=>absurd e.1 A⟩
 |false=>
  simp only[znl];have A:(yal x 0 (0,0)).2=0:=by simpa using h
  cases h3:decide (512<(yah x).length)with
  |true=>exact⟨(fun e=>by cases e),fun e=>by have:=znx h3;omega⟩
  |false=>exact⟨fun _=>⟨A,by have:=zny h3;omega⟩,fun _=>rfl⟩
mutual
theorem ylv:∀(x:Val) (d p:Nat),(yal x d (p,0)).2=0->p<=(yal x d (p,0)).1/\∀(d' q:Nat),d'<=d->q<=p->yal x d' (q,0)=(q+((yal x d (p,0)).1 - p),0)
 | .mk k n s l,d,p,h=>by
   rw[yal]at h|-;have e0:((0:Int)!=0)=false:=rfl;rw[e0]at h|-;simp only[znl]at h|-;cases h1:decide (256<=p)with
   |true=>rw[h1]at h;cases h
   |false=>
    have D:=zny h1;rw[h1]at h;simp only[znl]at h|-;have A:∀q:Nat,q<=p->decide (256<=q)=false:=fun q A=>znd (by omega);cases h2:(k==0||k==1)with
    |true=>
     simp only[znm];refine⟨Nat.le_succ _,fun d' q _ hq'=> ?_⟩;rw[yal,e0,A q hq',h2];show(q+1,(0:Int))=_
     congr 1
     omega
    |false=>
     rw[h2]at h;simp only[znl]at h|-;cases h3:(k==2)with
     |true=>
      rw[h3]at h;simp only[znm]at h|-;refine⟨Nat.le_succ _,fun d' q _ hq'=> ?_⟩;rw[yal,e0,A q hq',h2,h3];show(q+1,_)=_;rw[h]
      congr 1
      omega
     |false=>
      rw[h3]at h;simp only[znl]at h|-;cases h4:(k==3)with
      |false=>rw[h4]at h;cases h
      |true=>
       rw[h4]at h;simp only[znm]at h|-;cases h5:decide (8<=d)with
       |true=>
        rw[h5]at h;simp only[znm]at h;rw[ya3 l (d+1) (p+1,30) rfl]at h;cases h
       |false=>
        rw[h5]at h;simp only[znl]at h|-;cases h6:decide (64<l.length)with
        |true=>
         rw[h6]at h;simp only[znm]at h;rw[ya3 l (d+1) (p+1,2) rfl]at h;cases h
        |false=>
         rw[h6]at h;simp only[znl]at h|-;obtain⟨E,C⟩:=yd1 l (d+1) (p+1) h;refine⟨by omega,fun d' q hd' hq'=> ?_⟩;have B:decide (8<=d')=false:=znd (by have:=zny h5;omega);rw[yal,e0,A q hq',h2,h3,h4,B,h6];show yal.walkL l (d'+1) (q+1,0)=_;rw[(C (d'+1) (q+1) (by omega) (by omega)).1]
         congr 1
         omega
theorem yd1:∀(l:List Val) (d p:Nat),(yal.walkL l d (p,0)).2=0->p<=(yal.walkL l d (p,0)).1/\∀(d' q:Nat),d'<=d->q<=p->yal.walkL l d' (q,0)=(q+((yal.walkL l d (p,0)).1 - p),0)/\∀x∈l,(yal x d' (q,0)).2=0
 |[],d,p,h=>by
  rw[ya2]at h|-;refine⟨znc _,fun d' q _ _=>⟨?_,fun x hx=>by cases hx⟩⟩;rw[ya2];show(q,(0:Int))=(q+(p - p),0);rw[Nat.sub_self];rfl
 |x::r,d,p,h=>by
  have e0:(((p,(0:Int)):Nat×Int).2 !=0)=false:=rfl;rw[yaP,e0]at h|-;simp only[znl]at h|-;have A:(yal x d (p,0)).2=0:=by
   cases hc:((yal x d (p,0)).2 !=0)with
   |true=>rw[ya3 r d _ hc]at h;exact h
   |false=>simpa using hc
  obtain⟨m,hm⟩:∃m,yal x d (p,0)=(m,0):=⟨_,Prod.ext rfl A⟩;obtain⟨C,F⟩:=ylv x d p A;rw[hm]at h C F|-;obtain⟨G,D⟩:=yd1 r d m h;have C:p<=m:=C;refine⟨by omega,fun d' q hd hq=> ?_⟩;have E:yal x d' (q,0)=(q+(m - p),0):=F d' q hd hq;obtain⟨c1,_⟩:=D d' (q+(m - p)) hd (by omega);refine⟨?_,fun y B=> ?_⟩
  .rw[yaP]
   show yal.walkL r d' (yal x d' (q,0))=_;rw[E,c1]
   congr 1
   omega
  .rcases List.mem_cons.1 B with rfl|B
   .rw[E]
   .exact(D d' q hd (by omega)).2 y B
end
theorem yjC {n:Int}{s:ByteArray}{l:List Val}(h:checkL (.mk 3 n s l)=0){x:Val}(hx:x∈l):checkL x=0:=by
 obtain⟨A,B⟩:=ybp.1 h;rw[yal]at A;have A:(yal.walkL l 1 (1,bif decide (64<l.length)then 2 else 0)).2=0:=A;have C:¬64<l.length:=by
  intro e;rw[zno e]at A;rw[show(bif true then(2:Int)else 0)=2 from rfl,ya3 l 1 (1,2) rfl]at A;cases A
 rw[znd C]at A;refine ybp.2 ⟨((yd1 l 1 1 A).2 0 0 (by omega) (by omega)).2 x hx,?_⟩;rw[yah]at B;have B:(UInt8.ofNat _::(ych l.length++yah.bytesL l)).length<=512:=B;rw[List.length_cons,znk]at B;have:=yfk hx;omega
theorem ybP:checkL yag=0:=by kernel_rfl
theorem yle (n:Int):checkL (ybB n)=0:=by
 refine ybp.2 ⟨rfl,?_⟩;rw[ybB,yah];have:=ybF (zigL n);show(UInt8.ofNat _::ych (zigL n)).length<=512;rw[List.length_cons];omega
theorem yjz {s:ByteArray}(h:s.size<=64):checkL (ybX s)=0:=by
 refine ybp.2 ⟨?_,?_⟩
 .rw[ybX,yal]
  show(bif decide (256<s.size)then(2:Int)else 0)=0;rw[znd (by omega)];rfl
 .rw[ybX,yah]
  show(UInt8.ofNat _::textB s.data.toList).length<=512;rw[List.length_cons];unfold textB;have:=ybF s.data.toList.length;have A:s.data.toList.length=s.size:=by simp
  rw[znk];omega
def Okv (x:Val):Prop:=checkL x=0/\x.wf
end Go.Va
namespace Go.Va
open Go.Own Go.RowKit Go.Own.MapTy Go.Sort
open Go.Own.Cells (sz enc)
theorem IAt.below {F:Nat->Prop}{w w':World}{i:IC}{p:Img}(h:IAt F w i p)(B:Below w w w'):IAt F w' i p:=h.keep (S:=fun _=>False) (zkb B) (fun _ _ f=>f)
theorem IAt.code_at {F:Nat->Prop}{w wr:World}{i:IC}{p:Img}(h:IAt F w i p)(B:Below w w wr){k:Nat}{c:In}(hx:p.code[k]? =some c):∃g off,i.ca=some ⟨g,off,none⟩/\F g/\g<w.heap.size/\g<wr.heap.size/\wr.cell? ⟨g,off+k*2,none⟩=some (.int .i64 c.op)/\wr.cell? ⟨g,off+k*2+1,none⟩=some (.int .i64 c.a):=by
 obtain⟨_,_,g,off,E,D⟩:=h.code.elems;obtain⟨I,C,A⟩:=D k c hx;have E:=E.resolve_right (fun e=>by rw[e]at hx;simp at hx);have H:=A 0 _ rfl;have G:=A 1 _ rfl;rw[show off+(k*sz In+0)=off+k*2 from rfl,<-B.cell (p:=⟨g,_,none⟩) C]at H;rw[show off+(k*sz In+1)=off+k*2+1 from rfl,<-B.cell (p:=⟨g,_,none⟩) C]at G;exact⟨g,off,E,I,C,znj C B.size,H,G⟩
theorem IAt.name_at {F:Nat->Prop}{w wr:World}{i:IC}{p:Img}(h:IAt F w i p)(B:Below w w wr){k:Nat}{c:ByteArray}(hx:p.names[k]? =some c):∃g off,i.na=some ⟨g,off,none⟩/\F g/\g<w.heap.size/\g<wr.heap.size/\wr.cell? ⟨g,off+k,none⟩=some (.string c):=by
 obtain⟨_,_,g,off,E,C⟩:=h.names.elems;obtain⟨H,A,D⟩:=C k c hx;have E:=E.resolve_right (fun e=>by rw[e]at hx;simp at hx);have G:=D 0 _ rfl;rw[show off+(k*sz ByteArray+0)=off+k from by simp[Cells.sz],<-B.cell (p:=⟨g,_,none⟩) A]at G;exact⟨g,off,E,H,A,znj A B.size,G⟩
theorem IAt.const_at {F:Nat->Prop}{w wr:World}{i:IC}{p:Img}(h:IAt F w i p)(B:Below w w wr){k:Nat}{x:Val}(hx:p.consts[k]? =some x):∃g off c,i.ka=some ⟨g,off,none⟩/\F g/\g<w.heap.size/\g<wr.heap.size/\CF F wr c x/\
  wr.cell? ⟨g,off+k*4,none⟩=some (.int .i64 c.kind)/\wr.cell? ⟨g,off+k*4+1,none⟩=some (.int .i64 c.n)/\wr.cell? ⟨g,off+k*4+2,none⟩=some (.string c.s)/\wr.cell? ⟨g,off+k*4+3,none⟩=some (.slice c.la c.ln c.lc):=by
 obtain⟨_,_,A⟩:=h.consts.elems;obtain⟨g,off,I,J,C,A⟩:=A.resolve_left (fun e=>by rw[e]at hx;simp at hx);obtain⟨c,K,H,G,E,D⟩:=A k x hx;rw[<-B.cell (p:=⟨g,_,none⟩) C]at H G E D;exact⟨g,off,c,I,J,C,znj C B.size,K.keep (S:=fun _=>False) (zkb B) (fun _ _ f=>f),H,G,E,D⟩
end Go.Va
namespace Go.Proofs.YtpagmlndgblhhaaGreatDoor
open Go.RowKit Go.Own Go.Own.MapTy Go.Va Go.Sort
open Go.Own.Cells (sz enc)
def BoxI (w:World)(b:Nat)(i:IC):Prop:=w.heap[b]? =some (.cells #[.slice i.ca i.cn i.cc,.slice i.ka i.kn i.kc,.slice i.na i.nn i.nc,i.pl] 28 (0,0))
theorem BoxI.c0 {w:World}{b:Nat}{i:IC}(h:BoxI w b i):w.cell? ⟨b,0,none⟩=some (.slice i.ca i.cn i.cc):=by rw[zch h];rfl
theorem BoxI.c1 {w:World}{b:Nat}{i:IC}(h:BoxI w b i):w.cell? ⟨b,1,none⟩=some (.slice i.ka i.kn i.kc):=by rw[zch h];rfl
theorem BoxI.c2 {w:World}{b:Nat}{i:IC}(h:BoxI w b i):w.cell? ⟨b,2,none⟩=some (.slice i.na i.nn i.nc):=by rw[zch h];rfl
theorem BoxI.c3 {w:World}{b:Nat}{i:IC}(h:BoxI w b i):w.cell? ⟨b,3,none⟩=some (.int .i64 i.pl):=by rw[zch h];rfl
theorem BoxI.lt {w:World}{b:Nat}{i:IC}(h:BoxI w b i):b<w:=zlt h
theorem BoxI.below {w w':World}{b:Nat}{i:IC}(h:BoxI w b i)(B:Below w w w'):BoxI w' b i:=(B.block b h.lt).trans h
theorem yc9 {α:Type}{l:List α}{i:Nat}{x:α}(h:l[i]? =some x):l.drop i=x::l.drop (i+1):=by
 rw[znr (zge h).1,(zge h).2]
end Go.Proofs.YtpagmlndgblhhaaGreatDoor
namespace Go.Va
open Go.Own Go.RowKit
def cmpR:Val->Val->Int
 | .mk k n s l,y=>
   bif k !=y.kind then wrap64 (k - y.kind)else
   bif k==1 then(bif decide (n<y.num)then -1 else bif decide (y.num<n)then 1 else 0)else
   bif k==2 then(bif Op.bytesLess s.toList y.txt.toList then -1 else bif !(Op.bytesLess s.toList y.txt.toList||s.toList==y.txt.toList)then 1 else 0)else
   bif k !=3 then 0 else cmpRs l y.list ((l.length:Int) - y.list.length)
where cmpRs:List Val->List Val->Int->Int
 |[],_,d=>d
 |_::_,[],d=>d
 |x::r,y::s,d=>bif cmpR x y !=0 then cmpR x y else cmpRs r s d
theorem yds (x y:Val):cmpR x y=
  bif x.kind !=y.kind then wrap64 (x.kind - y.kind)else
  bif x.kind==1 then(bif decide (x.num<y.num)then -1 else bif decide (y.num<x.num)then 1 else 0)else
  bif x.kind==2 then(bif Op.bytesLess x.txt.toList y.txt.toList then -1 else bif !(Op.bytesLess x.txt.toList y.txt.toList||x.txt.toList==y.txt.toList)then 1 else 0)else
  bif x.kind !=3 then 0 else cmpR.cmpRs x.list y.list ((x.list.length:Int) - y.list.length):=by
 cases x;rw[cmpR];rfl
theorem yeD (ys:List Val)(d:Int):cmpR.cmpRs [] ys d=d:=by cases ys<;>rw[cmpR.cmpRs]
theorem ygs (xs:List Val)(d:Int):cmpR.cmpRs xs [] d=d:=by cases xs<;>rw[cmpR.cmpRs]
theorem yfj (x y:Val)(r s:List Val)(d:Int):cmpR.cmpRs (x::r) (y::s) d=bif cmpR x y !=0 then cmpR x y else cmpR.cmpRs r s d:=by rw[cmpR.cmpRs]
theorem ydc:∀l:List UInt8,Op.bytesLess l l=false
 |[]=>rfl
 |a::r=>by
  rw[Op.bytesLess,ydc r];simp
mutual
theorem ygt:∀x y:Val,x.wf->y.wf->(cmpR x y=0↔yab x=yab y)
 | .mk k n s l,y,hx,hy=>by
   have hx2:=(Val.wf_eq _).1 hx;have A:=(Val.wf_eq _).1 hy;have I: -9223372036854775808<=k/\k<=9223372036854775807:=hx2.1;have H:=A.1;rw[yds,Val.ext4,yaL,yaL,yby,yby,ybe,ybe,clone_list,clone_list];show(bif k !=y.kind then wrap64 (k - y.kind)else bif k==1 then(bif decide (n<y.num)then -1 else bif decide (y.num<n)then 1 else 0)else bif k==2 then(bif Op.bytesLess s.toList y.txt.toList then -1 else bif !(Op.bytesLess s.toList y.txt.toList||s.toList==y.txt.toList)then 1 else 0)else bif k !=3 then 0 else cmpR.cmpRs l y.list ((l.length:Int) - y.list.length))=0↔k=y.kind/\(bif k==1 then n else 0)=_/\(bif k==2 then s else _)=_/\(bif k==3 then l.map yab else _)=_;by_cases hk:k=y.kind
   .rw[<-hk]
    have C:(k !=k)=false:=by simp
    rw[C];by_cases h1:k=1
    .subst h1
     simp only[beq_self_eq_true,znm,znl,true_and,show((1:Int)==2)=false from rfl,show((1:Int)==3)=false from rfl,and_true];by_cases n1:n<y.num
     .rw[zno n1];simp;omega
     .rw[znd n1]
      by_cases n2:y.num<n
      .rw[zno n2];simp;omega
      .rw[znd n2];simp;omega
    .have G:(k==1)=false:=by simpa using h1
     by_cases h2:k=2
     .subst h2
      simp only[beq_self_eq_true,znm,znl,true_and,show((2:Int)==1)=false from rfl,show((2:Int)==3)=false from rfl,and_true];by_cases hs:s=y.txt
      .rw[hs,ydc];simp
      .have B:(s.toList==y.txt.toList)=false:=by
        rw[zna];intro e;rw[zml,zml]at e;exact hs (yb9.1 e)
       rw[B];cases Op.bytesLess s.toList y.txt.toList<;>simp[hs]
     .have F:(k==2)=false:=by simpa using h2
      by_cases h3:k=3
      .subst h3
       simp only[beq_self_eq_true,znm,znl,true_and,show((3:Int)==1)=false from rfl,show((3:Int)==2)=false from rfl,show((3:Int)!=3)=false from rfl];exact yfi l y.list (Val.wfL_iff.1 hx2.2.2.2) (Val.wfL_iff.1 A.2.2.2)
      .have E:(k==3)=false:=by simpa using h3
       have D:(k !=3)=true:=by simpa using h3
       simp[G,F,E,D]
   .have C:(k !=y.kind)=true:=by simpa using hk
    rw[C];simp only[znm,hk,false_and,iff_false];intro h;unfold wrap64 at h;omega
theorem yfi:∀xs ys:List Val,(∀x∈xs,x.wf)->(∀y∈ys,y.wf)->(cmpR.cmpRs xs ys ((xs.length:Int) - ys.length)=0↔xs.map yab=ys.map yab)
 |[],[],_,_=>by rw[yeD];simp
 |[],y::s,_,_=>by rw[yeD];simp;omega
 |x::r,[],_,_=>by rw[ygs];simp;omega
 |x::r,y::s,hx,hy=>by
  have h1:=ygt x y (hx x zmf) (hy y zmf);have B:=yfi r s (fun z hz=>hx z (zme _ hz)) (fun z hz=>hy z (zme _ hz));rw[yfj,List.map_cons,List.map_cons];have A:(((x::r).length:Nat):Int) - ((y::s).length:Nat)=(r.length:Int) - s.length:=by simp only[List.length_cons];omega
  rw[A];by_cases h:cmpR x y=0
  .have e:(cmpR x y !=0)=false:=by simpa using h
   rw[e,znl,B,h1.1 h];simp
  .have e:(cmpR x y !=0)=true:=by simpa using h
   rw[e,znm];refine⟨fun hh=>absurd hh h,fun hh=>absurd (h1.2 ?_) h⟩;exact(List.cons.inj hh).1
end
end Go.Va
namespace Go.Proofs.YtpagmlndgblhhaaGreatDoor
open Go.RowKit Go.Own Go.Own.MapTy Go.Va Go.Sort
open Go.Own.Cells (sz enc)
theorem ykg (x y:Val)
  (ck cn:Int)(cs:ByteArray)(la:Option Addr)(ln lc:Nat)(dk dn:Int)(ds:ByteArray)(ma:Option Addr)(mn mc:Nat)(F F':Nat->Prop)(w:World)(C:CF F w ⟨ck,cn,cs,la,ln,lc⟩ x)(D:CF F' w ⟨dk,dn,ds,ma,mn,mc⟩ y)(r:Int)(hr:cmpR x y=r)
  (hk:(ck !=dk)=true):
  Calls Tryz.prog 69 #[.agg #[ck,cn,cs,.slice la ln lc],.agg #[dk,dn,ds,.slice ma mn mc]] w fun e w'=>e= .returned (.int .i64 r)/\Below w w w'
  :=by
 rw[yds]at hr;have E:ck=x.kind:=C.kind;have B:cn=x.num:=C.n;have A:cs=x.txt:=C.s;have I:dk=y.kind:=D.kind;have H:dn=y.num:=D.n;have G:ds=y.txt:=D.s;rw[<-E,<-B,<-A,<-I,<-H,<-G]at hr;clear E B A I H G;have M:=zh2 C D;clear C D;rw[hk]at hr;simp only[znm]at hr;have J:(ck==dk)=false:=by simpa using hk
 have K:=zhd hr;clear hr;have L:=zhd ((((znv w.heap.size w).alloc (znc _) (.cells #[ck,cn,cs,.slice la ln lc] 38)).alloc (by simp) (.cells #[dk,dn,ds,.slice ma mn mc] 38)));go_in;go_wp2;go_ret;exact⟨by rw[<-K.o];rfl,L.o⟩
theorem ylS (x y:Val)
  (ck cn:Int)(cs:ByteArray)(la:Option Addr)(ln lc:Nat)(dk dn:Int)(ds:ByteArray)(ma:Option Addr)(mn mc:Nat)(F F':Nat->Prop)(w:World)(C:CF F w ⟨ck,cn,cs,la,ln,lc⟩ x)(D:CF F' w ⟨dk,dn,ds,ma,mn,mc⟩ y)(r:Int)(hr:cmpR x y=r)
  (hk:ck=dk)(h1:ck=1):
  Calls Tryz.prog 69 #[.agg #[ck,cn,cs,.slice la ln lc],.agg #[dk,dn,ds,.slice ma mn mc]] w fun e w'=>e= .returned (.int .i64 r)/\Below w w w'
  :=by
 rw[yds]at hr;have h1:ck=x.kind:=C.kind;have J:cn=x.num:=C.n;have I:cs=x.txt:=C.s;have M:dk=y.kind:=D.kind;have L:dn=y.num:=D.n;have K:ds=y.txt:=D.s;rw[<-h1,<-J,<-I,<-M,<-L,<-K]at hr;clear h1 J I M L K;have N:=zh2 C D;clear C D;have A:(ck !=dk)=false:=by rw[hk];simp
 rw[A]at hr;simp only[znl]at hr;subst hk;have H:=zhd ((((znv w.heap.size w).alloc (znc _) (.cells #[ck,cn,cs,.slice la ln lc] 38)).alloc (by simp) (.cells #[ck,dn,ds,.slice ma mn mc] 38)));clear A;subst h1;simp only[beq_self_eq_true,znm]at hr;cases n1:decide (cn<dn)with
 |true=>
  rw[n1]at hr;simp only[znm]at hr;have G:=znx n1;have B:=zhd hr;clear hr;go_in;go_wp2;go_ret;exact⟨by rw[<-B.o];rfl,H.o⟩
 |false=>
  rw[n1]at hr;simp only[znl]at hr;have G:=zny n1;cases n2:decide (dn<cn)with
  |true=>
   rw[n2]at hr;simp only[znm]at hr;have E:=znx n2;have B:=zhd hr;clear hr;go_in;go_wp2;go_ret;exact⟨by rw[<-B.o];rfl,H.o⟩
  |false=>
   rw[n2]at hr;simp only[znl]at hr;have E:=zny n2;have B:=zhd hr;clear hr;go_in;go_wp2;go_ret;exact⟨by rw[<-B.o];rfl,H.o⟩
theorem yke (x y:Val)
  (ck cn:Int)(cs:ByteArray)(la:Option Addr)(ln lc:Nat)(dk dn:Int)(ds:ByteArray)(ma:Option Addr)(mn mc:Nat)(F F':Nat->Prop)(w:World)(C:CF F w ⟨ck,cn,cs,la,ln,lc⟩ x)(D:CF F' w ⟨dk,dn,ds,ma,mn,mc⟩ y)(r:Int)(hr:cmpR x y=r)
  (hk:ck=dk)(h1:ck=2):
  Calls Tryz.prog 69 #[.agg #[ck,cn,cs,.slice la ln lc],.agg #[dk,dn,ds,.slice ma mn mc]] w fun e w'=>e= .returned (.int .i64 r)/\Below w w w'
  :=by
 rw[yds]at hr;have h1:ck=x.kind:=C.kind;have H:cn=x.num:=C.n;have G:cs=x.txt:=C.s;have K:dk=y.kind:=D.kind;have J:dn=y.num:=D.n;have I:ds=y.txt:=D.s;rw[<-h1,<-H,<-G,<-K,<-J,<-I]at hr;clear h1 H G K J I;have M:=zh2 C D;clear C D;have A:(ck !=dk)=false:=by rw[hk];simp
 rw[A]at hr;simp only[znl]at hr;subst hk;have E:=zhd ((((znv w.heap.size w).alloc (znc _) (.cells #[ck,cn,cs,.slice la ln lc] 38)).alloc (by simp) (.cells #[ck,dn,ds,.slice ma mn mc] 38)));clear A;subst h1;have L:((2:Int)==1)=false:=rfl;rw[L]at hr;simp only[beq_self_eq_true,znm,znl]at hr;clear L;cases n1:Op.bytesLess cs.toList ds.toList with
 |true=>
  rw[n1]at hr;simp only[znm]at hr;have B:=zhd hr;clear hr;go_in;go_wp2;go_ret;exact⟨by rw[<-B.o];rfl,E.o⟩
 |false=>
  rw[n1]at hr;simp only[znl,Bool.false_or]at hr;cases n2:(cs.toList==ds.toList)with
  |true=>
   rw[n2]at hr;have B:=zhd hr;clear hr;go_in;go_wp2;go_ret;exact⟨by rw[<-B.o];rfl,E.o⟩
  |false=>
   rw[n2]at hr;have B:=zhd hr;clear hr;go_in;go_wp2;go_ret;exact⟨by rw[<-B.o];rfl,E.o⟩
theorem yi8 (x y:Val)
  (ck cn:Int)(cs:ByteArray)(la:Option Addr)(ln lc:Nat)(dk dn:Int)(ds:ByteArray)(ma:Option Addr)(mn mc:Nat)(F F':Nat->Prop)(w:World)(C:CF F w ⟨ck,cn,cs,la,ln,lc⟩ x)(D:CF F' w ⟨dk,dn,ds,ma,mn,mc⟩ y)(r:Int)(hr:cmpR x y=r)
  (hk:ck=dk)(h1:(ck==1)=false)(h2:(ck==2)=false)(h3:(ck==3)=false):
  Calls Tryz.prog 69 #[.agg #[ck,cn,cs,.slice la ln lc],.agg #[dk,dn,ds,.slice ma mn mc]] w fun e w'=>e= .returned (.int .i64 r)/\Below w w w'
  :=by
 rw[yds]at hr;have h1:ck=x.kind:=C.kind;have h2:cn=x.num:=C.n;have h3:cs=x.txt:=C.s;have G:dk=y.kind:=D.kind;have E:dn=y.num:=D.n;have B:ds=y.txt:=D.s;rw[<-h1,<-h2,<-h3,<-G,<-E,<-B]at hr;clear h1 h2 h3 G E B;have K:=zh2 C D;clear C D;have A:(ck !=dk)=false:=by rw[hk];simp
 rw[A]at hr;simp only[znl]at hr;subst hk;have J:=zhd ((((znv w.heap.size w).alloc (znc _) (.cells #[ck,cn,cs,.slice la ln lc] 38)).alloc (by simp) (.cells #[ck,dn,ds,.slice ma mn mc] 38)));clear A;have H:(ck !=3)=true:=by simpa using h3
 rw[h1,h2,H]at hr;simp only[znl,znm]at hr;have I:=zhd hr;clear hr;go_in;go_wp2;go_ret;exact⟨by rw[<-I.o];rfl,J.o⟩
def ypJ (w2:World)(x y:Val)(r:Int)(gk:Nat)(v46:Value)(wr:World):Prop:=
 ∃i:Nat,v46= .int .i64 i/\i<=x.list.length/\i<=y.list.length/\gk=x.list.length - i/\cmpR.cmpRs (x.list.drop i) (y.list.drop i) ((x.list.length:Int) - y.list.length)=r/\Below w2 w2 wr
theorem ykf (n:Nat)(IH:∀(x:Val),x.parts<=n->∀(y:Val) (c d:VC) (F F':Nat->Prop) (w:World),CF F w c x->CF F' w d y->
   Calls Tryz.prog 69 #[.agg #[c.kind,c.n,c.s,.slice c.la c.ln c.lc],.agg #[d.kind,d.n,d.s,.slice d.la d.ln d.lc]] w fun e w'=>e= .returned (.int .i64 (cmpR x y))/\Below w w w')
  (x y:Val)
  (ck cn:Int)(cs:ByteArray)(la:Option Addr)(ln lc:Nat)(dk dn:Int)(ds:ByteArray)(ma:Option Addr)(mn mc:Nat)(F F':Nat->Prop)(w:World)(C:CF F w ⟨ck,cn,cs,la,ln,lc⟩ x)(D:CF F' w ⟨dk,dn,ds,ma,mn,mc⟩ y)(r:Int)(hr:cmpR x y=r)
  (hk:ck=dk)(h1:ck=3)(hx:x.parts<=n+1)(g off g' off':Nat)
  (hel:ln=x.list.length/\ln<=maxLen/\(∀(i:Nat) (z:Val),x.list[i]? =some z->F g/\g<w/\∃c,CF F w c z/\
    w.cell? ⟨g,off+i*4,none⟩=some (.int .i64 c.kind)/\w.cell? ⟨g,off+i*4+1,none⟩=some (.int .i64 c.n)/\w.cell? ⟨g,off+i*4+2,none⟩=some (.string c.s)/\w.cell? ⟨g,off+i*4+3,none⟩=some (.slice c.la c.ln c.lc)))(hla:la=some ⟨g,off,none⟩\/x.list=[])
  (hem:mn=y.list.length/\mn<=maxLen/\(∀(i:Nat) (z:Val),y.list[i]? =some z->F' g'/\g'<w.heap.size/\∃c,CF F' w c z/\
    w.cell? ⟨g',off'+i*4,none⟩=some (.int .i64 c.kind)/\w.cell? ⟨g',off'+i*4+1,none⟩=some (.int .i64 c.n)/\w.cell? ⟨g',off'+i*4+2,none⟩=some (.string c.s)/\w.cell? ⟨g',off'+i*4+3,none⟩=some (.slice c.la c.ln c.lc)))(hma:ma=some ⟨g',off',none⟩\/y.list=[]):
  Calls Tryz.prog 69 #[.agg #[ck,cn,cs,.slice la ln lc],.agg #[dk,dn,ds,.slice ma mn mc]] w fun e w'=>e= .returned (.int .i64 r)/\Below w w w'
  :=by
 rw[yds]at hr;have h1:ck=x.kind:=C.kind;have h2:cn=x.num:=C.n;have h3:cs=x.txt:=C.s;have g1:dk=y.kind:=D.kind;have g2:dn=y.num:=D.n;have g3:ds=y.txt:=D.s;rw[<-h1,<-h2,<-h3,<-g1,<-g2,<-g3]at hr;clear h1 h2 h3 g1 g2 g3;have HC:=zh2 C D;clear C D;have T:(ck !=dk)=false:=by rw[hk];simp
 rw[T]at hr;simp only[znl]at hr;subst hk;have HB:=zhd ((((znv w.heap.size w).alloc (znc _) (.cells #[ck,cn,cs,.slice la ln lc] 38)).alloc (by simp) (.cells #[ck,dn,ds,.slice ma mn mc] 38)));clear T;subst h1;have e1:((3:Int)==1)=false:=rfl;have e2:((3:Int)==2)=false:=rfl;have e3:((3:Int)!=3)=false:=rfl;rw[e1,e2,e3]at hr;simp only[znl]at hr;obtain⟨R,t,hel⟩:=hel;obtain⟨Q,q,hem⟩:=hem;have HR:=zhd hr;have HE:=zh2 hel hem;have I:=zh2 R Q;have Y:=zh2 hla hma;have HI:=zhd IH;unfold maxLen at t q;clear hr e1 e2 e3 hel hem R Q hla hma IH;go_in;go_wp2_with fail;obtain⟨J,H⟩:∃J,J=(w.alloc (.cells #[.int .i64 3,cn,cs,.slice la ln lc] 38)).alloc (.cells #[.int .i64 3,dn,ds,.slice ma mn mc] 38):=⟨_,rfl⟩;have b:J.cell? ⟨w,3,none⟩=some (.slice la ln lc):=by rw[H,zch yaC];rfl
 have a:J.cell? ⟨w.heap.size+1,3,none⟩=some (.slice ma mn mc):=by rw[H,zch yan];rfl
 have P:J.heap.size=w.heap.size+2:=by rw[H];simp
 rw[<-H]at HB|-;have O:=zh3 b a P;clear H b a P;go_loopg [5] (x.list.length) (fun gk v5 wr=>ypJ J x y r gk v5 wr)
 case atStart=>exact⟨0,rfl,znq _,znq _,rfl,HR.o,znv _ _⟩
 case round=>
  obtain⟨i,rfl,hi,hj,K,A,L⟩:=hrel;have b1:=L.size;have s1:w.heap.size+1<wr.heap.size:=by have:=O.o.2.2;omega
  have s0:w<wr.heap.size:=by omega
  have b:wr.cell? ⟨w,3,none⟩=some (.slice la ln lc):=by rw[L.cell (p:=⟨w,3,none⟩) (show w<J.heap.size by have:=O.o.2.2;omega)];exact O.o.1
  have a:wr.cell? ⟨w.heap.size+1,3,none⟩=some (.slice ma mn mc):=by rw[L.cell (p:=⟨w.heap.size+1,3,none⟩) (show w.heap.size+1<J.heap.size by have:=O.o.2.2;omega)];exact O.o.2.1
  have G:=HB.o.trans (L.mono (show w<=J.heap.size by have:=O.o.2.2;omega));by_cases hin:i<ln
  .obtain⟨z,E⟩:=yac (l:=x.list) (k:=i) (by have:=I.o.1;omega)
   obtain⟨Af,hg,c',hC,q0,q1,q2,q3⟩:=HE.o.1 i z E;have Ab:(i:Int)<ln:=by omega
   have hla:la=some ⟨g,off,none⟩:=Y.o.1.resolve_right (fun e=>by rw[e]at E;simp at E);rw[<-G.cell (p:=⟨g,_,none⟩) hg]at q0 q1 q2 q3;have N:x.list.drop i=z::x.list.drop (i+1):=by
    rw[znr (zge E).1,(zge E).2]
   have Ad:g<wr:=by omega
   subst hla;by_cases hjn:i<mn
   .obtain⟨u,M⟩:=yac (l:=y.list) (k:=i) (by have:=I.o.2;omega)
    obtain⟨Ae,hm,d',hD,m0,m1,m2,m3⟩:=HE.o.2 i u M;have Aa:((i:Int)==mn)=false:=by rw[zna];omega
    have U:(i:Int)<mn:=by omega
    have hma:ma=some ⟨g',off',none⟩:=Y.o.2.resolve_right (fun e=>by rw[e]at M;simp at M);rw[<-G.cell (p:=⟨g',_,none⟩) hm]at m0 m1 m2 m3;have V:y.list.drop i=u::y.list.drop (i+1):=by
     rw[znr (zge M).1,(zge M).2]
    have Ac:g'<wr.heap.size:=by omega
    rw[N,V,yfj]at A;have CW:=zhd (fun W (hW:Below wr wr W)=>HI.o z (by have:=Val.parts_lt (v:=x) (zmg E);omega) u c' d' _ _ W (hC.keep (S:=fun _=>False) (zkb (G.trans (hW.mono G.size))) (fun _ _ f=>f)) (hD.keep (S:=fun _=>False) (zkb (G.trans (hW.mono G.size))) (fun _ _ f=>f)));generalize cmpR z u=cv at*;have B:=zh8 A L K G hj hi (zge E).1 (zge M).1;subst hma;clear A L K G E M hC hD N V;go_wp2_with fail;refine yaB (by kernel_rfl) (by kernel_rfl) ?_
    repeat(go_big_quiet_step ((go_at_call 69;exact yc8 (CW.o _ (Subtype.property _)))))
    refine wpQuiet_nil ?_;intro w7 X;have Z:=zhd X;clear X CW;cases E:(cv !=0)with
    |true=>
     have A:=B.o.1;rw[E]at A;simp only[znm]at A;have HM:=zhd A;clear A;go_wp2;go_ret;exact⟨by rw[<-HM.o];rfl,B.o.2.2.2.1.trans (Z.o.mono B.o.2.2.2.1.size)⟩
    |false=>
     have A:=B.o.1;rw[E]at A;simp only[znl]at A;have HM:=zhd A;clear A;go_wp2_with fail;go_roundg (x.list.length - (i+1))
     case measure=>have:=B.o.2.2.1;have:=B.o.2.2.2.2.2.2.1;omega
     case rel=>exact⟨i+1,by simp,B.o.2.2.2.2.2.2.1,B.o.2.2.2.2.2.2.2,rfl,HM.o,B.o.2.1.trans (Z.o.mono B.o.2.1.size)⟩
   .obtain rfl:i=mn:=by have:=I.o.2;omega
    have h:y.list.drop i=[]:=zns (by have:=I.o.2;omega);rw[h,ygs]at A;have U:¬(i:Int)<i:=by omega
    have m:wrap64 ((ln:Int) - i)=(ln:Int) - i:=by unfold wrap64;omega
    have B:=zh2 A G;clear A L K G E hC N;go_wp2;go_ret;exact⟨by rw[<-B.o.1,<-I.o.1,<-I.o.2];rfl,B.o.2⟩
  .obtain rfl:i=ln:=by have:=I.o.1;omega
   have j:x.list.drop i=[]:=zns (by have:=I.o.1;omega);rw[j,yeD]at A;have e3:¬(i:Int)<i:=by omega
   have m:wrap64 ((i:Int) - mn)=(i:Int) - mn:=by unfold wrap64;omega
   have B:=zh2 A G;clear A L K G;go_wp2;go_ret;exact⟨by rw[<-B.o.1,<-I.o.1,<-I.o.2];rfl,B.o.2⟩
theorem ydz:∀(n:Nat) (x:Val),x.parts<=n->∀(y:Val) (c d:VC) (F F':Nat->Prop) (w:World),CF F w c x->CF F' w d y->
   Calls Tryz.prog 69 #[.agg #[c.kind,c.n,c.s,.slice c.la c.ln c.lc],.agg #[d.kind,d.n,d.s,.slice d.la d.ln d.lc]] w fun e w'=>e= .returned (.int .i64 (cmpR x y))/\Below w w w'
 |0,x,hx,_,_,_,_,_,_,_,_=>by have:=x.parts_pos;omega
 |n+1,x,hx,y,⟨ck,cn,cs,la,ln,lc⟩,⟨dk,dn,ds,ma,mn,mc⟩,F,F',w,C,D=>by
  by_cases hk:ck=dk
  .by_cases k1:ck=1
   .exact ylS x y ck cn cs la ln lc dk dn ds ma mn mc F F' w C D _ rfl hk k1
   .by_cases k2:ck=2
    .exact yke x y ck cn cs la ln lc dk dn ds ma mn mc F F' w C D _ rfl hk k2
    .by_cases k3:ck=3
     .obtain⟨M,L,B⟩:=C.l.elems
      obtain⟨P,O,N⟩:=D.l.elems;have K:∃g A,(la=some ⟨g,A,none⟩\/x.list=[])/\(∀(i:Nat) (z:Val),x.list[i]? =some z->F g/\g<w.heap.size/\∃c,CF F w c z/\
        w.cell? ⟨g,A+i*4,none⟩=some (.int .i64 c.kind)/\w.cell? ⟨g,A+i*4+1,none⟩=some (.int .i64 c.n)/\w.cell? ⟨g,A+i*4+2,none⟩=some (.string c.s)/\w.cell? ⟨g,A+i*4+3,none⟩=some (.slice c.la c.ln c.lc)):=by
       rcases B with B|⟨g,A,E,G,I,B⟩
       .exact⟨0,0,.inr B,fun i y hy=>by rw[B]at hy;simp at hy⟩
       .exact⟨g,A,.inl E,fun i y hy=>⟨G,I,B i y hy⟩⟩
      have J:∃g A,(ma=some ⟨g,A,none⟩\/y.list=[])/\(∀(i:Nat) (z:Val),y.list[i]? =some z->F' g/\g<w.heap.size/\∃c,CF F' w c z/\
        w.cell? ⟨g,A+i*4,none⟩=some (.int .i64 c.kind)/\w.cell? ⟨g,A+i*4+1,none⟩=some (.int .i64 c.n)/\w.cell? ⟨g,A+i*4+2,none⟩=some (.string c.s)/\w.cell? ⟨g,A+i*4+3,none⟩=some (.slice c.la c.ln c.lc)):=by
       rcases N with B|⟨g,A,E,G,I,B⟩
       .exact⟨0,0,.inr B,fun i y hy=>by rw[B]at hy;simp at hy⟩
       .exact⟨g,A,.inl E,fun i y hy=>⟨G,I,B i y hy⟩⟩
      obtain⟨g,A,U,T⟩:=K;obtain⟨Q,H,S,R⟩:=J;exact ykf n (fun y hy=>ydz n y hy) x y ck cn cs la ln lc dk dn ds ma mn mc F F' w C D _ rfl hk k3 hx g A Q H ⟨M,L,T⟩ U ⟨P,O,R⟩ S
     .exact yi8 x y ck cn cs la ln lc dk dn ds ma mn mc F F' w C D _ rfl hk (beq_eq_false_iff_ne.2 k1) (beq_eq_false_iff_ne.2 k2) (beq_eq_false_iff_ne.2 k3)
  .exact ykg x y ck cn cs la ln lc dk dn ds ma mn mc F F' w C D _ rfl (by simpa using hk)
end Go.Proofs.YtpagmlndgblhhaaGreatDoor
namespace Go.Va
open Go.Own Go.RowKit
mutual
theorem ybd:∀x:Val,x.wf->(yab x).wf
 | .mk k n s l,h=>by
   have h2:=(Val.wf_eq _).1 h;have A:=ygw l (Val.wfL_iff.1 h2.2.2.2);rw[Val.wf_eq,yaL,yby,ybe,clone_list];refine⟨h2.1,?_,?_,?_⟩
   .have:=h2.2.1
    show _<=(bif k==1 then n else 0)/\(bif k==1 then n else 0)<=_;cases(k==1)
    .simp
    .exact this
   .have:=h2.2.2.1
    show(bif k==2 then s else(⟨#[]⟩:ByteArray)).size<=_;cases(k==2)
    .exact znq _
    .exact this
   .show Val.wf.wfL (bif k==3 then l.map yab else[])
    rw[Val.wfL_iff];cases(k==3)
    .intro x B;cases B
    .exact A
theorem ygw:∀l:List Val,(∀x∈l,x.wf)->∀x∈l.map yab,x.wf
 |[],_,x,h=>by cases h
 |y::r,hw,x,h=>by
  have h1:=ybd y (hw y zmf);have A:=ygw r (fun z hz=>hw z (zme _ hz));rw[List.map_cons]at h;rcases List.mem_cons.1 h with rfl|h
  .exact h1
  .exact A x h
end
end Go.Va
namespace Go.Proofs.YtpagmlndgblhhaaGreatDoor
open Go.RowKit Go.Own Go.Own.MapTy Go.Va Go.Sort
open Go.Own.Cells (sz enc)
def yqd (c:In):List UInt8:=UInt8.ofNat (c.op%256).toNat::(bif (ofL c.op).1.operand==0 then[]else ych c.a.toNat)
def yqe (p:Img):List UInt8:=
 ych p.places.toNat++ych p.consts.length++p.consts.flatMap yah++ych p.names.length++p.names.flatMap (fun s=>Go.Va.textB s.data.toList)++ych p.code.length++p.code.flatMap yqd
structure Sofar (p:Img)(S:ByteArray)(rest:List UInt8):Prop where
 e:S.data.toList++rest=yqe p
 le:S.size<=1000000
end Go.Proofs.YtpagmlndgblhhaaGreatDoor
namespace Go.Va
open Go.Own Go.RowKit
open Go.Proofs.YtpagmlndgblhhaaGreatDoor
def ylb (k:Int):Option (Bool×Bool×Bool×Bool):=
 if k=1 then some (true,true,false,false)else if k=2 then some (true,false,false,false)else if k=3 then some (true,true,true,true)else if k=4\/k=6 then some (false,false,false,true)else if k=5 then some (false,false,true,false)else none
def yaV (c:Cm):Int:=
 match ylb c.kind with
 |none=>9
 |some (fa,fb,fn,fv)=>
  if c.time<0\/4611686018427387903<c.time\/c.a<0\/c.b<0\/(fa=false/\c.a≠0)\/(fb=false/\c.b≠0)then 1 else
  if 64<c.name.size then 2 else
  if(fn=false/\c.name.size≠0)\/(fv=false/\c.v.kind≠0)then 8 else checkL c.v
theorem ycY:yag.wf:=by
 rw[yag,Val.wf,Val.wf.wfL];exact⟨⟨by decide,by decide⟩,⟨by decide,by decide⟩,znq _,trivial⟩
theorem yb4:Okv yag:=⟨ybP,ycY⟩
theorem yc5 {n:Int}(h: -9223372036854775808<=n/\n<=9223372036854775807):Okv (ybB n):=by
 refine⟨yle n,?_⟩;rw[ybB,Val.wf,Val.wf.wfL];exact⟨⟨by decide,by decide⟩,h,znq _,trivial⟩
theorem ybZ (b:Bool):Okv (yaM b):=yc5 (by cases b<;>decide)
theorem ync {s:ByteArray}(h:s.size<=64):Okv (ybX s):=by
 refine⟨yjz h,?_⟩;rw[ybX,Val.wf,Val.wf.wfL];exact⟨⟨by decide,by decide⟩,⟨by decide,by decide⟩,by omega,trivial⟩
theorem ybb {x:Val}(h:Okv x):Okv (yab x):=⟨by rw[yaJ];exact h.1,ybd x h.2⟩
theorem yfn {l:List Val}(h:∀x∈l,x.wf):(Val.mk 3 0 ⟨#[]⟩ l).wf:=by
 rw[Val.wf];exact⟨⟨by decide,by decide⟩,⟨by decide,by decide⟩,znq _,Val.wfL_iff.2 h⟩
theorem ykr {x y:Val}(h:Okv x)(hk:x.kind=3)(hy:y∈x.list):Okv y:=by
 cases x with
 |mk k n s l=>
  have hk:k=3:=hk;subst hk;exact⟨yjC h.1 hy,Val.wfL_mem ((Val.wf_eq _).1 h.2).2.2.2 hy⟩
structure Pk (p:Img):Prop where
 consts:∀x∈p.consts,Okv x
 names:∀x∈p.names,x.size<=64
structure Vs (s:MS):Prop where
 stk:∀x∈s.stk,Okv x
 pls:∀x∈s.places,Okv x
 inp:Okv s.input
 tms:∀x∈s.timers.list,Okv x.result/\ -1<=x.how/\x.how<=1/\1<=x.id/\x.id<=s.timers.next
 acs:∀x∈s.acts.list,Okv x.result/\ -1<=x.how/\x.how<=1/\1<=x.id/\x.id<=s.acts.next
 lts:∀x∈s.letters,Okv x.v/\x.name.size<=64
 mds:∀c∈s.made,yaV c=0/\c.v.wf
 now:0<=s.now/\s.now<=4611686018427387903
 nt:0<=s.timers.next/\s.timers.next<=s.made.length
 na:0<=s.acts.next/\s.acts.next<=s.made.length
theorem Vs.push {s:MS}(V:Vs s){x:Val}(h:Okv x):Vs (s.push x):=⟨fun y hy=>(List.mem_append.1 hy).elim (V.stk y) (fun e=>by rw[List.mem_singleton.1 e];exact h),V.pls,V.inp,V.tms,V.acs,V.lts,V.mds,V.now,V.nt,V.na⟩
theorem ydB {α:Type}{x:α}:∀{l:List α},x∈l.dropLast->x∈l:=fun h=>List.dropLast_subset _ h
theorem Vs.pop {s:MS}(V:Vs s):Vs s.pop:=⟨fun y hy=>V.stk y (ydB hy),V.pls,V.inp,V.tms,V.acs,V.lts,V.mds,V.now,V.nt,V.na⟩
theorem Vs.nxt {s:MS}(V:Vs s):Vs s.nxt:=⟨V.stk,V.pls,V.inp,V.tms,V.acs,V.lts,V.mds,V.now,V.nt,V.na⟩
theorem Vs.jump {s:MS}(V:Vs s)(k:Nat):Vs {s with at_:=k}:=⟨V.stk,V.pls,V.inp,V.tms,V.acs,V.lts,V.mds,V.now,V.nt,V.na⟩
theorem Vs.top {s:MS}(V:Vs s):Okv s.top:=by
 unfold MS.top;cases h:s.stk.getLast? with
 |none=>exact yb4
 |some x=>exact V.stk x (List.mem_of_getLast? h)
theorem Vs.openL {s:MS}(V:Vs s)(i:Nat):Vs (s.openL i):=⟨V.stk,V.pls,V.inp,V.tms,V.acs,fun y hy=>V.lts y (List.mem_of_mem_eraseIdx hy),V.mds,V.now,V.nt,V.na⟩
theorem Vs.letV {s:MS}(V:Vs s)(i:Nat):Okv (s.letV i):=by
 unfold MS.letV;cases h:s.letters[i]? with
 |none=>exact yb4
 |some x=>exact(V.lts x (zmg h)).1
theorem Vs.want {s:MS}(V:Vs s){c:Cm}(h:yaV {c with time:=s.now,v:=yab c.v}=0)(hw:c.v.wf):Vs (s.want c):=
 ⟨V.stk,V.pls,V.inp,V.tms,V.acs,V.lts,fun y hy=>(List.mem_append.1 hy).elim (V.mds y) (fun e=>by rw[List.mem_singleton.1 e];exact⟨h,ybd _ hw⟩),V.now,
   ⟨V.nt.1,by have:=V.nt.2;show _<=(((s.made++[_]).length:Nat):Int);rw[znk];show s.timers.next<=((s.made.length+1:Nat):Int);omega⟩,⟨V.na.1,by have:=V.na.2;show _<=(((s.made++[_]).length:Nat):Int);rw[znk];show s.acts.next<=((s.made.length+1:Nat):Int);omega⟩⟩
theorem ycW {c:Cm}{fa fb fn fv:Bool}(hh:ylb c.kind=some (fa,fb,fn,fv))(ht:0<=c.time/\c.time<=4611686018427387903)(ha:0<=c.a/\(fa=false->c.a=0))(hb:0<=c.b/\(fb=false->c.b=0))(hn:c.name.size<=64/\(fn=false->c.name.size=0))(hv:checkL c.v=0/\(fv=false->c.v.kind=0)):yaV c=0:=by
 unfold yaV;rw[hh];dsimp only;rw[if_neg,if_neg (by omega),if_neg]
 .exact hv.1
 .rintro(⟨B,A⟩|⟨B,A⟩)
  .exact A (hn.2 B)
  .exact A (hv.2 B)
 .rintro(h|h|h|h|⟨B,A⟩|⟨B,A⟩)
  .omega
  .omega
  .omega
  .omega
  .exact A (ha.2 B)
  .exact A (hb.2 B)
theorem Vs.fall {s:MS}(V:Vs s){why:ByteArray}(h:why.size<=59):Vs (s.fall why):=by
 have A:Vs {s with trap:=why}:=⟨V.stk,V.pls,V.inp,V.tms,V.acs,V.lts,V.mds,V.now,V.nt,V.na⟩;refine A.want (ycW (fa:=false) (fb:=false) (fn:=true) (fv:=false) rfl V.now ⟨Int.le_refl _,fun _=>rfl⟩ ⟨Int.le_refl _,fun _=>rfl⟩ ⟨?_,fun e=>by cases e⟩ ⟨by rw[yaJ];exact ybP,fun _=>rfl⟩) ycY;show(⟨#[116,114,97,112,32]⟩++why:ByteArray).size<=64;rw[ByteArray.size_append];show 5+why.size<=64;omega
theorem Vs.put {s:MS}(V:Vs s){x:Val}(h:checkL x=0->x.wf):Vs (s.put x):=by
 unfold MS.put;split
 .exact V.fall (by decide)
 .rename_i A
  have A:checkL x=0:=by simpa using A
  exact V.push ⟨A,h A⟩
theorem ymV (n:Int): -9223372036854775808<=wrap64 n/\wrap64 n<=9223372036854775807:=by unfold wrap64;omega
theorem Vs.arith {s:MS}(V:Vs s)(op:Int)(a b:Val):Vs (s.arith op a b):=by
 unfold MS.arith;split
 .exact V.fall (by decide)
 .exact V.push (yc5 (ymV _))
theorem ymY {s:ByteArray}(h:checkL (ybX s)=0):(ybX s).wf:=by
 have A:=(ybp.1 h).1;rw[ybX,yal]at A;have A:(bif decide (256<s.size)then(2:Int)else 0)=0:=A;have B:s.size<=256:=by
  by_cases e:256<s.size
  .rw[zno e]at A;cases A
  .omega
 rw[ybX,Val.wf,Val.wf.wfL];exact⟨⟨by decide,by decide⟩,⟨by decide,by decide⟩,by omega,trivial⟩
theorem Vs.two {s:MS}(V:Vs s)(op:Int){a b:Val}(ha:Okv a)(hb:Okv b):Vs (s.two op a b):=by
 unfold MS.two;split
 .exact V.push (ybZ _)
 .split
  .exact V.push (ybZ _)
  .split
   .split
    .exact V.fall (by decide)
    .rename_i hk
     refine V.push (ybb ?_);split
     .cases h:a.list[b.num.toNat]? with
      |none=>exact yb4
      |some x=>exact ykr ha (by omega) (zmg h)
     .exact yb4
   .split
    .split
     .exact V.put ymY
     .split
      .refine V.put (fun _=>ybd _ (yfn fun x A=> ?_))
       rcases List.mem_append.1 A with A|A
       .exact Val.wfL_mem ((Val.wf_eq _).1 ha.2).2.2.2 A
       .exact Val.wfL_mem ((Val.wf_eq _).1 hb.2).2.2.2 A
      .exact V.fall (by decide)
    .exact V.arith op a b
theorem yok {x:Val}(h:Okv x)(hk:x.kind=3):x.list.length<=64:=by
 cases x with
 |mk k n s l=>
  have hk:k=3:=hk;subst hk;have A:=(ybp.1 h.1).1;rw[yal]at A;have A:(yal.walkL l 1 (1,bif decide (64<l.length)then 2 else 0)).2=0:=A;show l.length<=64;by_cases e:64<l.length
  .rw[zno e,show(bif true then(2:Int)else 0)=2 from rfl,ya3 l 1 (1,2) rfl]at A
   cases A
  .omega
theorem Vs.reckon {s:MS}(V:Vs s)(op:Int)(k:Nat):Vs (s.reckon op k):=by
 unfold MS.reckon;split
 .have A:Vs {s with stk:=s.stk.take (s.stk.length - k)}:=⟨fun y hy=>V.stk y (List.mem_of_mem_take hy),V.pls,V.inp,V.tms,V.acs,V.lts,V.mds,V.now,V.nt,V.na⟩
  exact A.put (fun _=>yfn fun x hx=>(V.stk x (List.mem_of_mem_drop hx)).2)
 .split
  .exact V.pop.push (ybZ _)
  .split
   .split
    .rename_i hk
     have:=yok V.top hk;exact V.pop.push (yc5 (by omega))
    .split
     .have h:=((Val.wf_eq _).1 V.top.2).2.2.1
      exact V.pop.push (yc5 (by omega))
     .exact V.pop.fall (by decide)
   .exact V.pop.pop.two op V.pop.top V.top
theorem Vs.begin_ {s:MS}(V:Vs s)(op:Int){name:ByteArray}(hn:name.size<=64)(hm:s.made.length<4611686018427387904):Vs (s.begin_ op name):=by
 have G:=V.nt;have I:=V.na;unfold MS.begin_;dsimp only;split
 .split
  .exact V.pop.fall (by decide)
  .rename_i i C
   have hk:s.top.kind=1/\yav s.top.num s.timers.list=some i:=by
    split at C
    .rename_i hk;exact⟨hk,C⟩
    .cases C
   obtain⟨x,D,H⟩:=Go.Va.findT_some hk.2;have F:Vs {s.pop with timers:=⟨s.timers.list.eraseIdx i,s.timers.next⟩}:=⟨V.pop.stk,V.pls,V.inp,fun y B=>V.tms y (List.mem_of_mem_eraseIdx B),V.acs,V.lts,V.mds,V.now,V.nt,V.na⟩;rw[D];dsimp only[Option.getD];cases x.over with
   |true=>exact F.push (ybZ _)
   |false=>
    have K:=V.tms x (zmg D);refine Vs.push (F.want (ycW (fa:=true) (fb:=false) (fn:=false) (fv:=false) rfl V.now ⟨?_,fun e=>by cases e⟩ ⟨Int.le_refl _,fun _=>rfl⟩ ⟨znq _,fun _=>rfl⟩ ⟨by rw[yaJ];exact ybP,fun _=>rfl⟩) ycY) (ybZ _);show 0<=s.top.num;omega
 .split
  .exact V.pop.fall (by decide)
  .rename_i J
   split
   .exact V.pop.fall (by decide)
   .have hv:0<=s.top.num:=by omega
    split
    .refine Vs.push ?_ (yc5 (by omega))
     have E:=V.pop.top;refine⟨V.pop.pop.stk,V.pls,V.inp,V.tms,fun y B=> ?_,V.lts,fun c A=> ?_,V.now,⟨G.1,?_⟩,⟨?_,?_⟩⟩
     .rcases List.mem_append.1 B with B|B
      .have:=V.acs y B
       exact⟨this.1,this.2.1,this.2.2.1,this.2.2.2.1,by show y.id<=s.acts.next+1;omega⟩
      .rw[List.mem_singleton.1 B]
       exact⟨yb4,by show(-1:Int)<=0;decide,by show(0:Int)<=1;decide,by show 1<=s.acts.next+1;omega,Int.le_refl _⟩
     .rcases List.mem_append.1 A with A|A
      .exact V.mds c A
      .rw[List.mem_singleton.1 A]
       exact⟨ycW (fa:=true) (fb:=true) (fn:=true) (fv:=true) rfl V.now ⟨by show 0<=s.acts.next+1;omega,fun e=>by cases e⟩ ⟨hv,fun e=>by cases e⟩ ⟨hn,fun e=>by cases e⟩ ⟨by rw[yaJ];exact E.1,fun e=>by cases e⟩,ybd _ E.2⟩
     .show s.timers.next<=(((s.made++[_]).length:Nat):Int)
      rw[znk];show s.timers.next<=((s.made.length+1:Nat):Int);omega
     .show 0<=s.acts.next+1
      omega
     .show s.acts.next+1<=(((s.made++[_]).length:Nat):Int)
      rw[znk];show s.acts.next+1<=((s.made.length+1:Nat):Int);omega
    .refine Vs.push ?_ (yc5 (by omega))
     refine⟨V.pop.stk,V.pls,V.inp,fun y B=> ?_,V.acs,V.lts,fun c A=> ?_,V.now,⟨?_,?_⟩,⟨I.1,?_⟩⟩
     .rcases List.mem_append.1 B with B|B
      .have:=V.tms y B
       exact⟨this.1,this.2.1,this.2.2.1,this.2.2.2.1,by show y.id<=s.timers.next+1;omega⟩
      .rw[List.mem_singleton.1 B]
       exact⟨yb4,by show(-1:Int)<=0;decide,by show(0:Int)<=1;decide,by show 1<=s.timers.next+1;omega,Int.le_refl _⟩
     .rcases List.mem_append.1 A with A|A
      .exact V.mds c A
      .rw[List.mem_singleton.1 A]
       exact⟨ycW (fa:=true) (fb:=true) (fn:=false) (fv:=false) rfl V.now ⟨by show 0<=s.timers.next+1;omega,fun e=>by cases e⟩ ⟨hv,fun e=>by cases e⟩ ⟨znq _,fun _=>rfl⟩ ⟨by rw[yaJ];exact ybP,fun _=>rfl⟩,ybd _ ycY⟩
     .show 0<=s.timers.next+1
      omega
     .show s.timers.next+1<=(((s.made++[_]).length:Nat):Int)
      rw[znk];show s.timers.next+1<=((s.made.length+1:Nat):Int);omega
     .show s.acts.next<=(((s.made++[_]).length:Nat):Int)
      rw[znk];show s.acts.next<=((s.made.length+1:Nat):Int);omega
theorem ya4 {a b:MS}{c:Prop}[Decidable c](ha:c->Vs a)(hb:¬c->Vs b):Vs (if c then a else b):=by
 split
 .rename_i h;exact ha h
 .rename_i h;exact hb h
theorem Vs.wait {s s':MS}(V:Vs s){op:Int}{name:ByteArray}(h:s.wait op name=some s'):Vs s':=by
 unfold MS.wait at h;split at h
 .cases A:yaq name s.letters with
  |none=>rw[A]at h;cases h
  |some i=>rw[A]at h;cases h;exact((V.openL i).push (V.letV i)).nxt
 .dsimp only at h
  split at h
  .cases h;exact V.fall (by decide)
  .rename_i i A
   have C:yav s.top.num (if op=21 then s.acts.list else s.timers.list)=some i:=by
    split at A
    .exact A
    .cases A
   obtain⟨x,E,G⟩:=Go.Va.findT_some C;split at h
   .rename_i k _
    cases h;exact(((V.pop.openL k).push (V.letV k)).push (ybZ _)).nxt
   .rw[E]at h
    dsimp only[Option.getD]at h;have B:Okv x.result/\ -1<=x.how/\x.how<=1:=by
     have hm:=zmg E;split at hm
     .have:=V.acs x hm;exact⟨this.1,this.2.1,this.2.2.1⟩
     .have:=V.tms x hm;exact⟨this.1,this.2.1,this.2.2.1⟩
    cases hov:x.over with
    |false=>rw[hov]at h;cases h
    |true=>
     rw[hov]at h;simp only[Bool.not_true,znl,Option.some.injEq]at h;have D:Vs (if op=21 then{s.pop with acts:=⟨(if op=21 then s.acts.list else s.timers.list).eraseIdx i,s.acts.next⟩}else{s.pop with timers:=⟨(if op=21 then s.acts.list else s.timers.list).eraseIdx i,s.timers.next⟩}):=by
      by_cases h21:op=21
      .rw[if_pos h21,if_pos h21]
       exact⟨V.pop.stk,V.pls,V.inp,V.tms,fun y hy=>V.acs y (List.mem_of_mem_eraseIdx hy),V.lts,V.mds,V.now,V.nt,V.na⟩
      .rw[if_neg h21,if_neg h21]
       exact⟨V.pop.stk,V.pls,V.inp,fun y hy=>V.tms y (List.mem_of_mem_eraseIdx hy),V.acs,V.lts,V.mds,V.now,V.nt,V.na⟩
     have F:=V.now;rw[<-h];refine Vs.nxt ?_;exact ya4 (fun _=>D.push (yc5 (n:=s.now) (by omega))) (fun _=>ya4 (fun _=>(D.push B.1).push (yc5 (n:=x.how) (by omega))) (fun _=>(D.push yb4).push (ybZ _)))
theorem Vs.end_ {s:MS}(V:Vs s)(op:Int){name:ByteArray}(hn:name.size<=64):Vs (s.end_ op name):=by
 unfold MS.end_;split
 .exact V.pop.want (ycW (fa:=false) (fb:=false) (fn:=false) (fv:=true) rfl V.now ⟨Int.le_refl _,fun _=>rfl⟩ ⟨Int.le_refl _,fun _=>rfl⟩ ⟨znq _,fun _=>rfl⟩ ⟨by rw[yaJ];exact V.top.1,fun e=>by cases e⟩) V.top.2
 .split
  .exact V.pop.want (ycW (fa:=false) (fb:=false) (fn:=false) (fv:=true) rfl V.now ⟨Int.le_refl _,fun _=>rfl⟩ ⟨Int.le_refl _,fun _=>rfl⟩ ⟨znq _,fun _=>rfl⟩ ⟨by rw[yaJ];exact V.top.1,fun e=>by cases e⟩) V.top.2
  .exact V.want (ycW (fa:=false) (fb:=false) (fn:=true) (fv:=false) rfl V.now ⟨Int.le_refl _,fun _=>rfl⟩ ⟨Int.le_refl _,fun _=>rfl⟩ ⟨hn,fun e=>by cases e⟩ ⟨by rw[yaJ];exact ybP,fun _=>rfl⟩) ycY
theorem Pk.name {p:Img}(P:Pk p)(k:Nat):(p.names[k]?.getD ⟨#[]⟩).size<=64:=by
 cases h:p.names[k]? with
 |none=>exact znq _
 |some x=>exact P.names x (zmg h)
theorem Vs.go {p:Img}(P:Pk p){s:MS}(V:Vs s)(op:Int)(k:Nat)(hm:s.made.length<4611686018427387904):Vs (s.go p op k):=by
 have A:∀(l:List Val),(∀x∈l,Okv x)->Okv (l[k]?.getD yag):=fun l hl=>by
  cases h:l[k]? with
  |none=>exact yb4
  |some x=>exact hl x (zmg h)
 have C:=V.now;unfold MS.go;dsimp only;refine ya4 (fun _=>V.push (ybb (A _ P.consts))) (fun _=>ya4 (fun _=>V.pop) (fun _=>ya4 (fun _=>V.push (ybb V.top)) (fun _=>ya4 (fun _=>(V.pop.pop.push V.top).push V.pop.top) (fun _=>ya4 (fun _=>V.push (ybb (A _ V.pls))) (fun _=>ya4 (fun _=> ?_) (fun _=>ya4 (fun _=>V.push (ybb V.inp)) (fun _=>ya4 (fun _=>V.push (yc5 (by omega))) (fun _=>ya4 (fun _=>V.push (ybZ _)) (fun _=>ya4 (fun _=> ?_) (fun _=>ya4 (fun _=>V.begin_ op (P.name k) hm) (fun _=>ya4 (fun _=>V) (fun _=>V.reckon op k))))))))))))
 .refine⟨V.pop.stk,fun y B=> ?_,V.inp,V.tms,V.acs,V.lts,V.mds,V.now,V.nt,V.na⟩
  rcases List.mem_or_eq_of_mem_set B with B|rfl
  .exact V.pls y B
  .exact V.top
 .cases yaq (p.names[k]?.getD ⟨#[]⟩) s.letters with
  |none=>exact(V.push yb4).push (ybZ _)
  |some i=>exact((V.openL i).push (V.letV i)).push (ybZ _)
theorem Vs.step {p:Img}(P:Pk p){s s':MS}(V:Vs s)(hm:s.made.length<4611686018427387904)(h:yak p s=some s'):Vs s':=by
 unfold yak at h;dsimp only at h;cases hb:(ofL (p.code[s.at_]?.getD ⟨0,0⟩).op).1.blocks with
 |true=>rw[hb]at h;exact V.wait h
 |false=>
  rw[hb]at h;simp only[znl]at h;cases he:(ofL (p.code[s.at_]?.getD ⟨0,0⟩).op).1.ends with
  |true=>rw[he]at h;cases h;exact V.end_ _ (P.name _)
  |false=>
   rw[he]at h;simp only[znl]at h;cases hf:(ofL (p.code[s.at_]?.getD ⟨0,0⟩).op).1.flow with
   |true=>
    rw[hf]at h;cases h;cases((p.code[s.at_]?.getD ⟨0,0⟩).op==11)
    .cases ycN s.top
     .exact V.pop.jump _
     .exact V.pop.nxt
    .exact V.jump _
   |false=>
    rw[hf]at h;cases h;exact V.nxt.go P _ _ hm
end Go.Va
