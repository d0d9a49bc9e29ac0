/- Parts of the proof: what the functions and the plain laws give that later parts lean on. Conditions: none beyond those that each theorem names. -/
import Derived.Test.YtpagmlndgblhhaaGreatDoorR10
set_option maxRecDepth 100000
set_option maxHeartbeats 8000000
namespace Go.Proofs.YtpagmlndgblhhaaGreatDoor
open Go.RowKit Go.Own Go.Own.MapTy Go.Va Go.Sort
open Go.Own.Cells (sz enc)
def numS (n:Nat):ByteArray:=⟨(ybX n).toArray⟩
theorem ycG (n:Nat):(numS n).size≤11:=by
 have:=ybu n;show(ybX n).toArray.size≤11;simpa using this
def ylF:Option Value→Bool
 |some (.int .u8 _)=>true
 |_=>false
def ynv:Option Value→UInt8
 |some (.int .u8 n)=>UInt8.ofNat n.toNat
 |_=>0
@[go_sem] theorem ynS (x:UInt8):(⟨#[x]⟩:ByteArray).size=1:=rfl
@[go_sem] theorem ymk (n:Int):ylF (some (.int .u8 n))=true:=rfl
@[go_sem] theorem ymR (n:Int):ynv (some (.int .u8 n))=UInt8.ofNat n.toNat:=rfl
@[go_sem] theorem ynZ (W:World) (b off:Nat) (h:ylF (W.cell? ⟨b,off,none⟩)=true):(convert 55 9 (.slice (some ⟨b,off,none⟩) 1 1)).run Tryz.prog W= .ok (.string ⟨#[ynv (W.cell? ⟨b,off,none⟩)]⟩) W:=by
 obtain⟨n,hn⟩:∃n,W.cell? ⟨b,off,none⟩=some (.int .u8 n):=by
  revert h;cases hc:W.cell? ⟨b,off,none⟩with
  |none=>intro h;cases h
  |some v=>
   intro h;cases v with
   |int k n=>cases k<;>first|exact⟨n,rfl⟩|cases h
   |_=>cases h
 rw[hn];have:=run_convert_bytes_arg (P:=Tryz.prog) W 55 5 Tryz.underlying55 Tryz.underlying5 b off 1 1 [n] rfl (fun i hi=>by
  obtain rfl:i=0:=by omega
  exact hn) 9 Tryz.underlying9
 exact this
theorem yiu {n:Nat}(h:n<128):numS n=⟨#[UInt8.ofNat n]⟩:=by unfold numS;rw[yeI h]
theorem ykX {n:Nat}(h:128≤n)(hn:n<18446744073709551616):(⟨#[UInt8.ofNat (n%128+128)]⟩++numS (n/128):ByteArray)=numS n:=by
 apply ByteArray.ext;unfold numS;rw[yhu h hn,ByteArray.data_append];simp
theorem yju (n:Nat)(hn:n<128)(w:World):Calls Tryz.prog 143 #[.int .u64 n] w fun e w'=>e= .returned (.string (numS n))∧Below w.heap.size w w':=by
 have h1:(n:Int)<128:=by omega
 have hc:IntKind.u8.wrap (n:Int)=n:=by simp[IntKind.wrap,IntKind.bits,IntKind.signed];omega
 have HN:=zhd (yiu hn);go_enter Tryz.func143,Tryz.ntmps143;go_wp2_with fail;refine zng (v:=.string ⟨#[UInt8.ofNat n]⟩) (by simp only[results,Tryz.results143];go_simp) rfl ⟨by rw[HN.o],zal⟩
theorem yma (n:Nat)(h:128≤n)(hn:n<18446744073709551616)(w:World)(IH:∀W,Calls Tryz.prog 143 #[.int .u64 (n/128:Nat)] W fun e w'=>e= .returned (.string (numS (n/128)))∧Below W.heap.size W w'):Calls Tryz.prog 143 #[.int .u64 n] w fun e w'=>e= .returned (.string (numS n))∧Below w.heap.size w w':=by
 have h1:decide ((n:Int)<128)=false:=znd (by omega);have HN:=zhd (ykX h hn);have hz:¬9223372036854775807<1+(numS (n/128)).size:=by have:=ycG (n/128);omega
 have IH:=zhd (show∀W,Calls Tryz.prog 143 #[.int .u64 (IntKind.u64.wrap ((n:Int)/128))] W fun e w'=>e= .returned (.string (numS (n/128)))∧Below W.heap.size W w' from by
  have e3:IntKind.u64.wrap ((n:Int)/128)=((n/128:Nat):Int):=by simp[IntKind.wrap,IntKind.bits,IntKind.signed];omega
  rw[e3];exact IH)
 have ht:(n:Int).tmod 128=((n%128:Nat):Int):=rfl;obtain⟨m,hm⟩:∃m,m=n%128+128:=⟨_,rfl⟩;have hm2:m<256:=by omega
 rw[←hm]at HN;have e1:IntKind.u64.wrap (((n:Int).tmod 128)+128)=(m:Int):=by rw[ht];simp[IntKind.wrap,IntKind.bits,IntKind.signed];omega
 have e2:IntKind.u8.wrap (m:Int)=m:=by simp[IntKind.wrap,IntKind.bits,IntKind.signed];omega
 clear hm hn h ht;go_enter Tryz.func143,Tryz.ntmps143;go_wp2_with fail;go_region_law ((go_simp;go_at_call 143;refine(IH.o _).mono ?_;rintro e w5 ⟨rfl,hB5⟩;have C5:=yoq hB5;try simp only[go_sem]at C5))
 all_goals
  clear C5;go_wp2_with fail;refine zng (v:=.string (⟨#[UInt8.ofNat m]⟩++numS (n/128))) (by simp only[results,Tryz.results143];go_simp) rfl ⟨by rw[HN.o],?_⟩
  first
  |exact((zal).drew).trans (hB5.mono (by simp))
  |exact((znv _ _).drew.trans (hB5.mono (by simp))).alloc hB5.size _
theorem ydl:∀(n:Nat),n<18446744073709551616→∀w:World,Calls Tryz.prog 143 #[.int .u64 n] w fun e w'=>e= .returned (.string (numS n))∧Below w.heap.size w w':=fun n=>by
 induction n using Nat.strongRecOn with
 |_ n ih=>
  intro hn w;by_cases h:n<128
  ·exact yju n h w
  ·exact yma n (by omega) hn w (fun W=>ih (n/128) (by omega) (by omega) W)
end Go.Proofs.YtpagmlndgblhhaaGreatDoor
namespace Go.Va
open Go.Own Go.RowKit
structure ELs (F:Nat→Prop)(w:World)(la:Option Addr)(ln:Nat)(l:List Val)(g off:Nat):Prop where
 len:ln=l.length
 max:ln≤maxLen
 addr:la=some ⟨g,off,none⟩∨l=[]
 at_:∀(i:Nat) (z:Val),l[i]? =some z→F g∧g<w.heap.size∧∃c,CF F w c z∧
  w.cell? ⟨g,off+i*4,none⟩=some (.int .i64 c.kind)∧w.cell? ⟨g,off+i*4+1,none⟩=some (.int .i64 c.n)∧w.cell? ⟨g,off+i*4+2,none⟩=some (.string c.s)∧w.cell? ⟨g,off+i*4+3,none⟩=some (.slice c.la c.ln c.lc)
theorem VF.els {F:Nat→Prop}{w:World}{la:Option Addr}{ln lc:Nat}{l:List Val}(h:VF F w (.slice la ln lc) l):∃g off,ELs F w la ln l g off:=by
 obtain⟨h4,h5,h6⟩:=h.elems;rcases h6 with h6|⟨g,off,hla,hFg,hg,h6⟩
 ·exact⟨0,0,h4,h5,.inr h6,fun i y hy=>by rw[h6]at hy;simp at hy⟩
 ·exact⟨g,off,h4,h5,.inl hla,fun i y hy=>⟨hFg,hg,h6 i y hy⟩⟩
theorem ELs.get {F:Nat→Prop}{w:World}{la:Option Addr}{ln:Nat}{l:List Val}{g off:Nat}(h:ELs F w la ln l g off){wr:World}(B:Below w.heap.size w wr){i:Nat}(hi:i<ln):
  ∃z c,l[i]? =some z∧la=some ⟨g,off,none⟩∧l.drop i=z::l.drop (i+1)∧g<wr.heap.size∧CF F wr c z∧
   wr.cell? ⟨g,off+i*4,none⟩=some (.int .i64 c.kind)∧wr.cell? ⟨g,off+i*4+1,none⟩=some (.int .i64 c.n)∧wr.cell? ⟨g,off+i*4+2,none⟩=some (.string c.s)∧wr.cell? ⟨g,off+i*4+3,none⟩=some (.slice c.la c.ln c.lc):=by
 obtain⟨z,hz⟩:=yad (l:=l) (k:=i) (by have:=h.len;omega);obtain⟨_,hg,c,hC,q0,q1,q2,q3⟩:=h.at_ i z hz;rw[←B.cell (p:=⟨g,_,none⟩) hg]at q0 q1 q2 q3;exact⟨z,c,hz,h.addr.resolve_right (fun e=>by rw[e]at hz;simp at hz),by
  rw[znr (zge hz).1,(zge hz).2],znj hg B.size,hC.keep (S:=fun _=>False) (zkb B) (fun _ _ f=>f),q0,q1,q2,q3⟩
end Go.Va
namespace Go.Proofs.YtpagmlndgblhhaaGreatDoor
open Go.RowKit Go.Own Go.Own.MapTy Go.Va Go.Sort
open Go.Own.Cells (sz enc)
def yej (w:World)(r:Nat×Int)(e:Ending)(w':World):Prop:=e= .returned (.tuple #[.int .i64 r.2,.int .i64 r.1])∧Below w.heap.size w w'
theorem yh8 (x:Val)
  (d p:Nat)(hd:d≤8)(hp:p≤256)(ck cn:Int)(cs:ByteArray)(la:Option Addr)(ln lc:Nat)(F:Nat→Prop)(w:World)(C:CF F w ⟨ck,cn,cs,la,ln,lc⟩ x)
  (h:256≤p)(r:Nat×Int)(hr:r=(p+1,2)):
  Calls Tryz.prog 112 #[.agg #[.int .i64 ck,.int .i64 cn,.string cs,.slice la ln lc],.int .i64 d,.int .i64 p] w (yej w r)
  :=by
 have hh:=zai hd C;clear hh;subst hr;obtain rfl:p=256:=by omega
 clear C;go_enter Tryz.func112,Tryz.ntmps112;go_wp2_with fail;refine zng (v:=.tuple #[.int .i64 2,.int .i64 257]) (by simp only[results,Tryz.results112];go_simp) rfl ⟨rfl,zal⟩
theorem yjc (x:Val)
  (d p:Nat)(hd:d≤8)(hp:p≤256)(ck cn:Int)(cs:ByteArray)(la:Option Addr)(ln lc:Nat)(F:Nat→Prop)(w:World)(C:CF F w ⟨ck,cn,cs,la,ln,lc⟩ x)
  (h:¬256≤p)(hk:ck=0∨ck=1)(r:Nat×Int)(hr:r=(p+1,0)):
  Calls Tryz.prog 112 #[.agg #[.int .i64 ck,.int .i64 cn,.string cs,.slice la ln lc],.int .i64 d,.int .i64 p] w (yej w r)
  :=by
 have hh:=zai hd C;clear hh;subst hr;clear C;have h2:¬(256:Int)<(p:Int)+1:=by omega
 rcases hk with rfl|rfl
 ·go_enter Tryz.func112,Tryz.ntmps112
  go_wp2_with fail;refine zng (v:=.tuple #[.int .i64 0,.int .i64 ((p:Int)+1)]) (by simp only[results,Tryz.results112];go_simp) rfl ⟨rfl,zal⟩
 ·go_enter Tryz.func112,Tryz.ntmps112
  go_wp2_with fail;refine zng (v:=.tuple #[.int .i64 0,.int .i64 ((p:Int)+1)]) (by simp only[results,Tryz.results112];go_simp) rfl ⟨rfl,zal⟩
theorem yh7 (x:Val)
  (d p:Nat)(hd:d≤8)(hp:p≤256)(ck cn:Int)(cs:ByteArray)(la:Option Addr)(ln lc:Nat)(F:Nat→Prop)(w:World)(C:CF F w ⟨ck,cn,cs,la,ln,lc⟩ x)
  (h:¬256≤p)(hk:ck=2)(r:Nat×Int)(hr:r=(p+1,bif decide (256<cs.size)then 2 else 0)):
  Calls Tryz.prog 112 #[.agg #[.int .i64 ck,.int .i64 cn,.string cs,.slice la ln lc],.int .i64 d,.int .i64 p] w (yej w r)
  :=by
 have hh:=zai hd C;clear hh;subst hr;subst hk;clear C;have h2:¬(256:Int)<(p:Int)+1:=by omega
 cases hc:decide (256<cs.size)with
 |true=>
  have h3:(256:Int)<(cs.size:Int):=by have:=znx hc;omega
  clear hc;go_enter Tryz.func112,Tryz.ntmps112;go_wp2_with fail;refine zng (v:=.tuple #[.int .i64 2,.int .i64 ((p:Int)+1)]) (by simp only[results,Tryz.results112];go_simp) rfl ⟨rfl,zal⟩
 |false=>
  have h3:¬(256:Int)<(cs.size:Int):=by have:=zny hc;omega
  clear hc;go_enter Tryz.func112,Tryz.ntmps112;go_wp2_with fail;refine zng (v:=.tuple #[.int .i64 0,.int .i64 ((p:Int)+1)]) (by simp only[results,Tryz.results112];go_simp) rfl ⟨rfl,zal⟩
theorem yia (x:Val)
  (d p:Nat)(hd:d≤8)(hp:p≤256)(ck cn:Int)(cs:ByteArray)(la:Option Addr)(ln lc:Nat)(F:Nat→Prop)(w:World)(C:CF F w ⟨ck,cn,cs,la,ln,lc⟩ x)
  (h:¬256≤p)(k0:(ck==0)=false)(k1:(ck==1)=false)(k2:(ck==2)=false)(k3:(ck==3)=false)(r:Nat×Int)(hr:r=(p+1,9)):
  Calls Tryz.prog 112 #[.agg #[.int .i64 ck,.int .i64 cn,.string cs,.slice la ln lc],.int .i64 d,.int .i64 p] w (yej w r)
  :=by
 have hh:=zai hd C;clear hh;subst hr;clear C;have h2:¬(256:Int)<(p:Int)+1:=by omega
 go_enter Tryz.func112,Tryz.ntmps112;go_wp2_with fail;refine zng (v:=.tuple #[.int .i64 9,.int .i64 ((p:Int)+1)]) (by simp only[results,Tryz.results112];go_simp) rfl ⟨rfl,zal⟩
theorem yeE (x:Val)
  (d p:Nat)(hd:d≤8)(hp:p≤256)(ck cn:Int)(cs:ByteArray)(la:Option Addr)(ln lc:Nat)(F:Nat→Prop)(w:World)(C:CF F w ⟨ck,cn,cs,la,ln,lc⟩ x)
  (h:¬256≤p)(k3:ck=3)(h8:8≤d∨64<ln)(r:Nat×Int)(hr:r=(p+1,bif decide (8≤d)then 30 else 2)):
  Calls Tryz.prog 112 #[.agg #[.int .i64 ck,.int .i64 cn,.string cs,.slice la ln lc],.int .i64 d,.int .i64 p] w (yej w r)
  :=by
 have hh:=zai hd C;clear hh;subst hr;subst k3;clear C;have h2:¬(256:Int)<(p:Int)+1:=by omega
 cases hc:decide (8≤d)with
 |true=>
  have h3:(8:Int)≤d:=by have:=znx hc;omega
  clear hc;go_enter Tryz.func112,Tryz.ntmps112;go_wp2_with fail;refine zng (v:=.tuple #[.int .i64 30,.int .i64 ((p:Int)+1)]) (by simp only[results,Tryz.results112];go_simp) rfl ⟨rfl,zal⟩
 |false=>
  have h3:¬(8:Int)≤d:=by have:=zny hc;omega
  have h4:(64:Int)<ln:=by have:=zny hc;omega
  clear hc;go_enter Tryz.func112,Tryz.ntmps112;go_wp2_with fail;refine zng (v:=.tuple #[.int .i64 2,.int .i64 ((p:Int)+1)]) (by simp only[results,Tryz.results112];go_simp) rfl ⟨rfl,zal⟩
def yoW (n:Nat):Prop:=∀(x:Val),x.parts≤n→∀(d p:Nat),d≤8→p≤256→∀(ck cn:Int) (cs:ByteArray) (la:Option Addr) (ln lc:Nat) (F:Nat→Prop) (w:World),CF F w ⟨ck,cn,cs,la,ln,lc⟩ x→
 Calls Tryz.prog 112 #[.agg #[.int .i64 ck,.int .i64 cn,.string cs,.slice la ln lc],.int .i64 d,.int .i64 p] w (yej w (yal x d (p,0)))
theorem yh9 (n:Nat)(IH:yoW n)(x:Val)(hx:x.parts≤n+1)
  (d p:Nat)(hd:d≤8)(hp:p≤256)(ck cn:Int)(cs:ByteArray)(la:Option Addr)(ln lc:Nat)(F:Nat→Prop)(w:World)(C:CF F w ⟨ck,cn,cs,la,ln,lc⟩ x)
  (h:¬256≤p)(k3:ck=3)(h8:¬8≤d)(h64:¬64<ln)(g off:Nat)(E:ELs F w la ln x.list g off)(r:Nat×Int)(hr:yal.walkL x.list (d+1) (p+1,0)=r):
  Calls Tryz.prog 112 #[.agg #[.int .i64 ck,.int .i64 cn,.string cs,.slice la ln lc],.int .i64 d,.int .i64 p] w (yej w r)
  :=by
 have hh:=zai hd C;clear hh;subst k3;have HE:=zhd E;have HI:=zhd IH;have HR:=zhd hr;have HL:=zhd E.len;clear C E IH hr;have h2:¬(256:Int)<(p:Int)+1:=by omega
 have h3:¬(8:Int)≤d:=by omega
 have h4:¬(64:Int)<ln:=by omega
 have hdw:wrap64 ((d:Int)+1)=(d:Int)+1:=by unfold wrap64;omega
 go_enter Tryz.func112,Tryz.ntmps112;go_wp2_with fail;obtain⟨w1,hw1⟩:∃w1,w1=w.alloc (.cells #[.int .i64 3,.int .i64 cn,.string cs,.slice la ln lc] 38):=⟨_,rfl⟩;have p3:=zha hw1;have B1:=zba hw1;rw[←hw1];have H1:=zh2 p3 B1;clear hw1 p3 B1;go_loopg [8,2] (x.list.length) (fun gk v8 v2 wr=>∃i q:Nat,v8= .int .i64 i∧v2= .int .i64 q∧i≤x.list.length∧q≤256∧gk=x.list.length - i∧Hid (yal.walkL (x.list.drop i) (d+1) (q,0)=r∧Below w1.heap.size w1 wr))
 case atStart=>exact⟨0,p+1,rfl,by simp,znq _,by omega,rfl,zhd ⟨HR.o,znv _ _⟩⟩
 case round=>
  obtain⟨i,q,rfl,rfl,hi,hq,hgk,HX⟩:=hrel;have BW:=H1.o.2.trans (HX.o.2.mono H1.o.2.size);have b3:=(HX.o.2.block _ (zlt H1.o.1)).trans H1.o.1;have p3:=zca b3 3 rfl;have s0:=zlt b3;clear b3;by_cases hin:i<ln
  ·obtain⟨z,c',hz,hla,hdr,hgl,hC,q0,q1,q2,q3⟩:=HE.o.get BW hin
   have hin':(i:Int)<ln:=by omega
   have hw:=HX.o.1;rw[hdr,yaL]at hw;have CA:=zhd (HI.o z (by have:=Val.parts_lt (v:=x) (zmg hz);omega) (d+1) q (by omega) hq c'.kind c'.n c'.s c'.la c'.ln c'.lc F wr hC);have hbd:=ycA z (d+1) (q,0) (fun _=>hq);obtain⟨q1',e1,hv⟩:∃(a:Nat) (b:Int),yal z (d+1) (q,0)=(a,b):=⟨_,_,rfl⟩;rw[hv]at CA hbd hw;have hw:yal.walkL (x.list.drop (i+1)) (d+1) (q1',e1)=r:=hw;have HH:=zh5 hbd hw BW hgk (zge hz).1;subst hla;clear hz hC hdr hbd hw BW hv hgk;go_wp2_with fail;refine CA.o.mono ?_;rintro e w5 ⟨rfl,hB5⟩;have H5:=zhd hB5;clear hB5;cases he:(e1==0)with
   |true=>
    obtain rfl:e1=0:=by simpa using he
    clear he;go_wp2_with fail;go_roundg (x.list.length - (i+1))
    case measure=>have:=HH.o.2.2.2.1;have:=HH.o.2.2.2.2;omega
    case rel=>exact⟨i+1,q1',by simp,rfl,HH.o.2.2.2.2,HH.o.1 (by trivial),rfl,zhd ⟨HH.o.2.1,HX.o.2.trans (H5.o.mono HX.o.2.size)⟩⟩
   |false=>
    go_wp2_with fail;refine zng (v:=.tuple #[.int .i64 e1,.int .i64 q1']) (by simp only[results,Tryz.results112];go_simp) rfl ⟨?_,HH.o.2.2.1.trans (H5.o.mono HH.o.2.2.1.size)⟩;have hw:=HH.o.2.1;rw[yaV _ _ _ (by show(e1 !=0)=true;simpa using he)]at hw;rw[←hw]
  ·obtain rfl:i=ln:=by have:=HL.o;omega
   have hxn:x.list.drop i=[]:=zns (by have:=HL.o;omega);have hw:=HX.o.1;rw[hxn,yaU]at hw;have HH:=zh2 hw BW;clear hw BW hgk hxn;have e3:¬(i:Int)<i:=by omega
   go_wp2_with fail;refine zng (v:=.tuple #[.int .i64 0,.int .i64 q]) (by simp only[results,Tryz.results112];go_simp) rfl ⟨?_,HH.o.2⟩;rw[←HH.o.1]
theorem yfn:∀n,yoW n
 |0=>fun x h=>by have:=x.parts_pos;omega
 |n+1=>fun x hx d p hd hp ck cn cs la ln lc F w C=>by
  have h1:ck=x.kind:=C.kind;have h3:cs=x.txt:=C.s;obtain⟨g,off,E⟩:=C.l.els;have hr:=ybT x d p 0;rw[←h1,←h3,←E.len]at hr;have hr:yal x d (p,0)=bif decide (256≤p)then(p+1,2)else bif ck==0||ck==1 then(p+1,0)else bif ck==2 then(p+1,bif decide (256<cs.size)then 2 else 0)else bif ck==3 then yal.walkL x.list (d+1) (p+1,bif decide (8≤d)then 30 else bif decide (64<ln)then 2 else 0)else(p+1,9):=hr;by_cases hp2:256≤p
  ·rw[zno hp2]at hr
   exact yh8 x d p hd hp ck cn cs la ln lc F w C hp2 _ hr
  ·rw[znd hp2,znl]at hr
   by_cases k0:ck=0∨ck=1
   ·rw[show(ck==0||ck==1)=true by simpa using k0]at hr
    exact yjc x d p hd hp ck cn cs la ln lc F w C hp2 k0 _ hr
   ·rw[show(ck==0||ck==1)=false by simpa using k0,znl]at hr
    by_cases k2:ck=2
    ·rw[show(ck==2)=true by simpa using k2]at hr
     exact yh7 x d p hd hp ck cn cs la ln lc F w C hp2 k2 _ hr
    ·rw[show(ck==2)=false by simpa using k2,znl]at hr
     by_cases k3:ck=3
     ·rw[show(ck==3)=true by simpa using k3,znm]at hr
      by_cases h8:8≤d
      ·rw[zno h8,znm,yaV _ _ _ rfl]at hr
       exact yeE x d p hd hp ck cn cs la ln lc F w C hp2 k3 (.inl h8) _ (by rw[zno h8];exact hr)
      ·rw[znd h8,znl]at hr
       by_cases h64:64<ln
       ·rw[zno h64,znm,yaV _ _ _ rfl]at hr
        exact yeE x d p hd hp ck cn cs la ln lc F w C hp2 k3 (.inr h64) _ (by rw[znd h8];exact hr)
       ·rw[znd h64,znl]at hr
        exact yh9 n (yfn n) x hx d p hd hp ck cn cs la ln lc F w C hp2 k3 h8 h64 g off E _ hr.symm
     ·rw[show(ck==3)=false by simpa using k3,znl]at hr
      exact yia x d p hd hp ck cn cs la ln lc F w C hp2 (by simpa using fun e=>k0 (.inl e)) (by simpa using fun e=>k0 (.inr e)) (by simpa using k2) (by simpa using k3) _ hr
theorem ykM (n:Int)(h0: -9223372036854775808≤n)(h1:n≤9223372036854775807)(w:World):Calls Tryz.prog 141 #[.int .i64 n] w fun e w'=>e= .returned (.string (numS (zigL n)))∧Below w.heap.size w w':=by
 have hz:=yiV h0 h1;by_cases hn:0≤n
 ·have hc:IntKind.u64.wrap n=n:=by simp[IntKind.wrap,IntKind.bits,IntKind.signed];omega
  have hd:n*2=((zigL n:Nat):Int):=by
   unfold zigL;rw[if_pos hn];omega
  have NA:=zhd (fun W=>ydl (zigL n) hz W);generalize zigL n=z at*;have HD:=zhd hd;clear hd;go_enter Tryz.func141,Tryz.ntmps141;go_wp2_with fail;rw[HD.o];refine(NA.o _).mono ?_;rintro e w1 ⟨rfl,hB1⟩;have H1:=zhd hB1;clear hB1;go_wp2_with fail;go_ret;exact⟨rfl,H1.o⟩
 ·have hw:wrap64 (n+1)=n+1:=by unfold wrap64;omega
  have hw2:wrap64 (-(n+1))= -(n+1):=by unfold wrap64;omega
  have hc:IntKind.u64.wrap (-(n+1))= -(n+1):=by simp[IntKind.wrap,IntKind.bits,IntKind.signed];omega
  have hm:IntKind.u64.wrap (-(n+1)*2)= -(n+1)*2:=by simp[IntKind.wrap,IntKind.bits,IntKind.signed];omega
  have hd: -(n+1)*2+1=((zigL n:Nat):Int):=by
   unfold zigL;rw[if_neg hn];omega
  have NA:=zhd (fun W=>ydl (zigL n) hz W);generalize zigL n=z at*;have HD:=zhd hd;clear hd;go_enter Tryz.func141,Tryz.ntmps141;go_wp2_with fail;rw[HD.o];refine(NA.o _).mono ?_;rintro e w1 ⟨rfl,hB1⟩;have H1:=zhd hB1;clear hB1;go_wp2_with fail;go_ret;exact⟨rfl,H1.o⟩
def textS (s:ByteArray):ByteArray:=⟨(Go.Va.textB s.data.toList).toArray⟩
theorem ykz (s:ByteArray):numS s.size++s=textS s:=by
 apply ByteArray.ext;unfold numS textS Go.Va.textB;rw[ByteArray.data_append];simp
theorem yjf (s:ByteArray)(hs:s.size≤1099511627776)(w:World):Calls Tryz.prog 142 #[.string s] w fun e w'=>e= .returned (.string (textS s))∧Below w.heap.size w w':=by
 have NA:=zhd (fun W=>ydl s.size (by omega) W);have hc:IntKind.u64.wrap (s.size:Int)=s.size:=by simp[IntKind.wrap,IntKind.bits,IntKind.signed];omega
 have HT:=zhd (ykz s);have hz:=ycG s.size;go_enter Tryz.func142,Tryz.ntmps142;go_wp2_with fail;refine(NA.o _).mono ?_;rintro e w1 ⟨rfl,hB1⟩;have H1:=zhd hB1;clear hB1;generalize numS s.size=ns at*;go_wp2_with fail;go_ret;exact⟨by rw[HT.o];rfl,H1.o⟩
def bytesS (x:Val):ByteArray:=⟨(yaf x).toArray⟩
theorem yee (x:Val):(bytesS x).size=(yaf x).length:=by
 show(yaf x).toArray.size=_;simp
theorem yjI (k:Int):IntKind.u8.wrap k=k%256:=by simp[IntKind.wrap,IntKind.bits,IntKind.signed]
def BIH (n:Nat):Prop:=∀(x:Val),x.parts≤n→∀(ck cn:Int) (cs:ByteArray) (la:Option Addr) (ln lc:Nat) (F:Nat→Prop) (w:World),CF F w ⟨ck,cn,cs,la,ln,lc⟩ x→x.wf→(yaf x).length≤1099511627776→
 Calls Tryz.prog 113 #[.agg #[.int .i64 ck,.int .i64 cn,.string cs,.slice la ln lc]] w fun e w'=>e= .returned (.string (bytesS x))∧Below w.heap.size w w'
theorem yfw (x:Val)
  (ck cn:Int)(cs:ByteArray)(la:Option Addr)(ln lc:Nat)(F:Nat→Prop)(w:World)(C:CF F w ⟨ck,cn,cs,la,ln,lc⟩ x)(hw:x.wf)(hl:(yaf x).length≤1099511627776)
  (k1:(ck==1)=false)(k2:(ck==2)=false)(k3:(ck==3)=false):
  Calls Tryz.prog 113 #[.agg #[.int .i64 ck,.int .i64 cn,.string cs,.slice la ln lc]] w fun e w'=>e= .returned (.string (bytesS x))∧Below w.heap.size w w'
  :=by
 have hh:=zai hw hl;clear hh;have h1:ck=x.kind:=C.kind;have HB:Hid (bytesS x=⟨#[UInt8.ofNat (ck%256).toNat]⟩):=zhd (by
  unfold bytesS;rw[yaR,←h1,k1,k2,k3];rfl)
 have kb:=yjI ck;generalize ck%256=kb1 at*;clear C hw hl h1;go_enter Tryz.func113,Tryz.ntmps113;go_wp2_with fail;go_ret;exact⟨by rw[HB.o];rfl,(zal).alloc (by simp) _⟩
theorem yik (x:Val)
  (ck cn:Int)(cs:ByteArray)(la:Option Addr)(ln lc:Nat)(F:Nat→Prop)(w:World)(C:CF F w ⟨ck,cn,cs,la,ln,lc⟩ x)(hw:x.wf)(hl:(yaf x).length≤1099511627776)
  (k1:ck=1):
  Calls Tryz.prog 113 #[.agg #[.int .i64 ck,.int .i64 cn,.string cs,.slice la ln lc]] w fun e w'=>e= .returned (.string (bytesS x))∧Below w.heap.size w w'
  :=by
 have hh:=zai hw hl;clear hh;have h1:ck=x.kind:=C.kind;have h2:cn=x.num:=C.n;have hb:=((Val.wf_eq x).1 hw).2.1;rw[←h2]at hb;subst k1;have HB:Hid ((⟨#[UInt8.ofNat 1]⟩++numS (zigL cn):ByteArray)=bytesS x):=zhd (by
  apply ByteArray.ext;unfold bytesS numS;rw[yaR,←h1,←h2,ByteArray.data_append];simp)
 have IA:=zhd (fun W=>ykM cn hb.1 hb.2 W);have hz:=ycG (zigL cn);generalize numS (zigL cn)=ns at*;clear C hw hl h1 h2 hb;go_enter Tryz.func113,Tryz.ntmps113;go_wp2_with fail;refine(IA.o _).mono ?_;rintro e w5 ⟨rfl,hB5⟩;have H5:=zhd (((znv w.heap.size w).alloc (znc _) (.cells #[.int .i64 1,.int .i64 cn,.string cs,.slice la ln lc] 38)).trans (((znv _ _).alloc (znc _) (.cells #[.int .u8 1] 5)).trans (hB5.mono (by simp))|>.mono (by simp)));clear hB5;have zs:(⟨#[UInt8.ofNat 1]⟩:ByteArray).size=1:=rfl;go_wp2_with fail;go_ret;exact⟨by rw[←HB.o];rfl,H5.o⟩
theorem ygw (x:Val)
  (ck cn:Int)(cs:ByteArray)(la:Option Addr)(ln lc:Nat)(F:Nat→Prop)(w:World)(C:CF F w ⟨ck,cn,cs,la,ln,lc⟩ x)(hw:x.wf)(hl:(yaf x).length≤1099511627776)
  (k2:ck=2):
  Calls Tryz.prog 113 #[.agg #[.int .i64 ck,.int .i64 cn,.string cs,.slice la ln lc]] w fun e w'=>e= .returned (.string (bytesS x))∧Below w.heap.size w w'
  :=by
 have h1:ck=x.kind:=C.kind;have h3:cs=x.txt:=C.s;subst k2;have hz:cs.size≤140737488355328:=by have:=((Val.wf_eq x).1 hw).2.2.1;rw[←h3]at this;exact this
 have hl2:(Go.Va.textB cs.data.toList).length≤1099511627776:=by
  rw[yaR,←h1,←h3]at hl;simp only[List.length_cons]at hl;have e:(bif (2:Int)==1 then ybX (zigL x.num)else bif (2:Int)==2 then Go.Va.textB cs.data.toList else bif (2:Int)==3 then ybX x.list.length++yaf.bytesL x.list else[])=Go.Va.textB cs.data.toList:=rfl;rw[e]at hl;omega
 have hs:(textS cs).size≤1099511627776:=by unfold textS;show(Go.Va.textB cs.data.toList).toArray.size≤_;simpa using hl2
 have hcs:cs.size≤1099511627776:=by
  have:cs.data.toList.length=cs.size:=by simp
  unfold Go.Va.textB at hl2;rw[znk]at hl2;omega
 have HB:Hid ((⟨#[UInt8.ofNat 2]⟩++textS cs:ByteArray)=bytesS x):=zhd (by
  apply ByteArray.ext;unfold bytesS textS;rw[yaR,←h1,←h3,ByteArray.data_append];simp)
 have IA:=zhd (fun W=>yjf cs hcs W);generalize textS cs=ns at*;clear C hw hl h1 h3 hl2 hcs;go_enter Tryz.func113,Tryz.ntmps113;go_wp2_with fail;refine(IA.o _).mono ?_;rintro e w5 ⟨rfl,hB5⟩;have H5:=zhd (((znv w.heap.size w).alloc (znc _) (.cells #[.int .i64 2,.int .i64 cn,.string cs,.slice la ln lc] 38)).trans (((znv _ _).alloc (znc _) (.cells #[.int .u8 2] 5)).trans (hB5.mono (by simp))|>.mono (by simp)));clear hB5;have zs:(⟨#[UInt8.ofNat 2]⟩:ByteArray).size=1:=rfl;go_wp2_with fail;go_ret;exact⟨by rw[←HB.o];rfl,H5.o⟩
theorem ygx (n:Nat)(IH:BIH n)(x:Val)(hx:x.parts≤n+1)
  (ck cn:Int)(cs:ByteArray)(la:Option Addr)(ln lc:Nat)(F:Nat→Prop)(w:World)(C:CF F w ⟨ck,cn,cs,la,ln,lc⟩ x)(hw:x.wf)(hl:(yaf x).length≤1099511627776)
  (k3:ck=3)(g off:Nat)(E:ELs F w la ln x.list g off):
  Calls Tryz.prog 113 #[.agg #[.int .i64 ck,.int .i64 cn,.string cs,.slice la ln lc]] w fun e w'=>e= .returned (.string (bytesS x))∧Below w.heap.size w w'
  :=by
 have h1:ck=x.kind:=C.kind;subst k3;have hlm:=E.max;unfold maxLen at hlm;have HE:=zhd E;have HI:=zhd IH;have HL:=zhd E.len;have HW:=zhd (Val.wfL_iff.1 ((Val.wf_eq x).1 hw).2.2.2);have hbv:yaf x=(3:UInt8)::(ybX ln++yaf.bytesL x.list):=by
  rw[yaR,←h1,E.len];rfl
 have HB:=zh2 hbv hl;have NA:=zhd (fun W=>ydl ln (by omega) W);have hz:=ycG ln;have hns:(numS ln).data.toList=ybX ln:=by unfold numS;simp
 have HN:=zhd hns;have hcw:IntKind.u64.wrap (ln:Int)=ln:=by simp[IntKind.wrap,IntKind.bits,IntKind.signed];omega
 generalize numS ln=ns at*;clear C E IH hw hl h1 hbv hns;go_enter Tryz.func113,Tryz.ntmps113;go_wp2_with fail;obtain⟨w1,hw1⟩:∃w1,w1=(w.alloc (.cells #[.int .i64 3,.int .i64 cn,.string cs,.slice la ln lc] 38)).alloc (.cells #[.int .u8 3] 5):=⟨_,rfl⟩;have p3:w1.heap[w.heap.size]? =some (.cells #[.int .i64 3,.int .i64 cn,.string cs,.slice la ln lc] 38 (0,0)):=by rw[hw1];exact yaE
 have B1:Below w.heap.size w w1:=by rw[hw1];exact(zal).alloc (by simp) _
 rw[←hw1];clear hw1;refine(NA.o _).mono ?_;rintro e w2 ⟨rfl,hB2⟩;have p3:=(hB2.block _ (zlt p3)).trans p3;have q3:=zca p3 3 rfl;have s0:=zlt p3;have H1:=zh2 p3 (B1.trans (hB2.mono B1.size));clear B1 hB2 p3 NA;have zs:(⟨#[UInt8.ofNat 3]⟩:ByteArray).size=1:=rfl;go_wp2_with fail;go_loopg [4,3] (x.list.length) (fun gk v4 v3 wr=>∃(i:Nat) (S:ByteArray),v4= .int .i64 i∧v3= .string S∧i≤x.list.length∧gk=x.list.length - i∧Hid (S.data.toList++yaf.bytesL (x.list.drop i)=yaf x∧Below w2.heap.size w2 wr))
 case atStart=>
  refine⟨0,_,rfl,rfl,znq _,rfl,zhd ⟨?_,znv _ _⟩⟩;rw[HB.o.1,ByteArray.data_append,Array.toList_append,HN.o];rfl
 case round=>
  obtain⟨i,S,rfl,rfl,hi,hgk,HX⟩:=hrel;have BW:=H1.o.2.trans (HX.o.2.mono H1.o.2.size);have b3:=(HX.o.2.block _ (zlt H1.o.1)).trans H1.o.1;have p3:=zca b3 3 rfl;have s0:=zlt b3;clear b3;have hSz:S.data.toList.length+(yaf.bytesL (x.list.drop i)).length≤1099511627776:=by
   have:=congrArg List.length HX.o.1;rw[znk]at this;have:=HB.o.2;omega
  have hSs:S.data.toList.length=S.size:=by simp
  by_cases hin:i<ln
  ·obtain⟨z,c',hz,hla,hdr,hgl,hC,q0,q1,q2,q3⟩:=HE.o.get BW hin
   have hin':(i:Int)<ln:=by omega
   have hbs:=HX.o.1;rw[hdr,ybc]at hbs hSz;rw[znk]at hSz;have CA:=zhd (HI.o z (by have:=Val.parts_lt (v:=x) (zmg hz);omega) c'.kind c'.n c'.s c'.la c'.ln c'.lc F wr hC (HW.o z (zmg hz)) (by omega));have hzs:(bytesS z).size≤1099511627776:=by rw[yee];omega
   have hze:(bytesS z).data.toList=yaf z:=by unfold bytesS;simp
   have hSb:S.size≤1099511627776:=by omega
   have HH:=zh5 hbs BW hgk hze (zge hz).1;generalize bytesS z=bz at*;subst hla;clear hz hC hdr hbs BW hgk hze hSz hSs;go_wp2_with fail;refine CA.o.mono ?_;rintro e w5 ⟨rfl,hB5⟩;have H5:=zhd hB5;clear hB5;go_wp2_with fail;go_roundg (x.list.length - (i+1))
   case measure=>have:=HH.o.2.2.1;have:=HH.o.2.2.2.2;omega
   case rel=>
    refine⟨i+1,_,by simp,rfl,HH.o.2.2.2.2,rfl,zhd ⟨?_,HX.o.2.trans (H5.o.mono HX.o.2.size)⟩⟩;rw[ByteArray.data_append,Array.toList_append,HH.o.2.2.2.1,List.append_assoc];exact HH.o.1
  ·obtain rfl:i=ln:=by have:=HL.o;omega
   have hbs:=HX.o.1;rw[zns (by have:=HL.o;omega),yc3,List.append_nil]at hbs;have HH:=zh2 hbs BW;have e3:¬(i:Int)<i:=by omega
   clear hbs BW hgk hSz hSs;go_wp2_with fail;go_ret;refine⟨?_,HH.o.2⟩;rw[show S=bytesS x from ByteArray.ext (by unfold bytesS;rw[←HH.o.1])];rfl
theorem yeH:∀n,BIH n
 |0=>fun x h=>by have:=x.parts_pos;omega
 |n+1=>fun x hx ck cn cs la ln lc F w C hw hl=>by
  obtain⟨g,off,E⟩:=C.l.els;by_cases k1:ck=1
  ·exact yik x ck cn cs la ln lc F w C hw hl k1
  ·by_cases k2:ck=2
   ·exact ygw x ck cn cs la ln lc F w C hw hl k2
   ·by_cases k3:ck=3
    ·exact ygx n (yeH n) x hx ck cn cs la ln lc F w C hw hl k3 g off E
    ·exact yfw x ck cn cs la ln lc F w C hw hl (by simpa using k1) (by simpa using k2) (by simpa using k3)
def ynG (w:World)(r:Int)(e:Ending)(w':World):Prop:=∃n:Int,e= .returned (.tuple #[.int .i64 r,.int .i64 n])∧Below w.heap.size w w'
theorem yij (x:Val)(ck cn:Int)(cs:ByteArray)(la:Option Addr)(ln lc:Nat)(F:Nat→Prop)(w:World)(C:CF F w ⟨ck,cn,cs,la,ln,lc⟩ x)(hw:x.wf):
  Calls Tryz.prog 78 #[.agg #[.int .i64 ck,.int .i64 cn,.string cs,.slice la ln lc],.int .i64 0,.int .i64 0] w (ynG w (checkL x)):=by
 have KA:=zhd (fun W (hW:Below w.heap.size w W)=>yfn _ x (znc _) 0 0 (by decide) (by decide) ck cn cs la ln lc F W (C.keep (S:=fun _=>False) (zkb hW) (fun _ _ f=>f)));have KB:=zhd (fun(h:(yaf x).length≤1099511627776) W (hW:Below w.heap.size w W)=>yeH _ x (znc _) ck cn cs la ln lc F W (C.keep (S:=fun _=>False) (zkb hW) (fun _ _ f=>f)) hw h);have HS:=zhd (fun(h:(yal x 0 (0,0)).2=0)=>yec h);have hck:checkL x=bif (yal x 0 (0,0)).2 !=0 then(yal x 0 (0,0)).2 else bif decide (512<(yaf x).length)then 2 else 0:=rfl;obtain⟨⟨np,er⟩,hv⟩:∃r,yal x 0 (0,0)=r:=⟨_,rfl⟩;rw[hv]at KA HS hck;dsimp only at HS hck;have HC:=zhd hck;clear C hw hv hck;go_enter Tryz.func78,Tryz.ntmps78;go_wp2_with fail;obtain⟨w1,hw1⟩:∃w1,w1=w.alloc (.cells #[.int .i64 ck,.int .i64 cn,.string cs,.slice la ln lc] 38):=⟨_,rfl⟩;have B1:=zba hw1;have p1:=zha hw1;rw[←hw1];clear hw1;refine(KA.o _ B1).mono ?_;rintro e w2 ⟨rfl,hB2⟩;have p2:=(hB2.block _ (zlt p1)).trans p1;have c0:=zca p2 0 rfl;have c1:=zca p2 1 rfl;have c2:=zca p2 2 rfl;have c3:=zca p2 3 rfl;have lt2:=zlt p2;have H2:=zhd (B1.trans (hB2.mono B1.size));clear B1 hB2 p1 p2 KA;cases he:(er==0)with
 |false=>
  have hr:=HC.o;rw[show(er !=0)=true by simpa using he]at hr;have HR:=zhd hr;clear hr;go_wp2_with fail;refine zng (v:=.tuple #[.int .i64 er,.int .i64 np]) (by simp only[results,Tryz.results78];go_simp) rfl ⟨_,by rw[HR.o];rfl,H2.o⟩
 |true=>
  obtain rfl:er=0:=by simpa using he
  have hb:=HS.o rfl;have CB:=zhd (KB.o (by omega) w2 H2.o);have hz:=yee x;clear he KB;cases hc:decide (512<(yaf x).length)with
  |true=>
   have hr:=HC.o;rw[hc]at hr;have HR:=zhd hr;have h5:(512:Int)<(bytesS x).size:=by have:=znx hc;omega
   clear hr hc hz hb HC;generalize bytesS x=bs at*;go_wp2_with fail;refine CB.o.mono ?_;rintro e w5 ⟨rfl,hB5⟩;have H5:=zhd (H2.o.trans (hB5.mono H2.o.size));clear hB5;go_wp2_with fail;refine zng (v:=.tuple #[.int .i64 2,.int .i64 np]) (by simp only[results,Tryz.results78];go_simp) rfl ⟨_,by rw[HR.o];rfl,H5.o⟩
  |false=>
   have hr:=HC.o;rw[hc]at hr;have HR:=zhd hr;have h5:¬(512:Int)<(bytesS x).size:=by have:=zny hc;omega
   clear hr hc hz hb HC;generalize bytesS x=bs at*;go_wp2_with fail;refine CB.o.mono ?_;rintro e w5 ⟨rfl,hB5⟩;have H5:=zhd (H2.o.trans (hB5.mono H2.o.size));clear hB5;go_wp2_with fail;refine zng (v:=.tuple #[.int .i64 0,.int .i64 np]) (by simp only[results,Tryz.results78];go_simp) rfl ⟨_,by rw[HR.o];rfl,H5.o⟩
theorem ykU {op:Int}(h0:0≤op)(h1:op<33):op=0∨op=1∨op=2∨op=3∨op=4∨op=5∨op=6∨op=7∨op=8∨op=9∨op=10∨op=11∨op=12∨op=13∨op=14∨op=15∨op=16∨op=17∨op=18∨op=19∨op=20∨op=21∨op=22∨op=23∨op=24∨op=25∨op=26∨op=27∨op=28∨op=29∨op=30∨op=31∨op=32:=by omega
end Go.Proofs.YtpagmlndgblhhaaGreatDoor
namespace Go.Va
open Go.Own Go.RowKit Go.Own.MapTy
mutual
theorem yex:∀(x:Val) (d p:Nat) (e:Int),yal (yab x) d (p,e)=yal x d (p,e)
 | .mk k n s l,d,p,e=>by
   have h:=ydu l;rw[ybT,ybT (.mk k n s l),ybz,yca,clone_list];show(bif e !=0 then(p,e)else bif decide (256≤p)then(p+1,2)else bif k==0||k==1 then(p+1,0)else bif k==2 then(p+1,bif decide (256<(bif k==2 then s else(⟨#[]⟩:ByteArray)).size)then 2 else 0)else bif k==3 then yal.walkL (bif k==3 then l.map yab else[]) (d+1) (p+1,bif decide (8≤d)then 30 else bif decide (64<(bif k==3 then l.map yab else[]).length)then 2 else 0)else(p+1,9))=(bif e !=0 then(p,e)else bif decide (256≤p)then(p+1,2)else bif k==0||k==1 then(p+1,0)else bif k==2 then(p+1,bif decide (256<s.size)then 2 else 0)else bif k==3 then yal.walkL l (d+1) (p+1,bif decide (8≤d)then 30 else bif decide (64<l.length)then 2 else 0)else(p+1,9));cases(e !=0)
   ·cases decide (256≤p)
    ·cases(k==0||k==1)
     ·cases(k==2)
      ·cases(k==3)
       ·rfl
       ·simp only[znm,znl,zmd]
        exact h _ _
      ·rfl
     ·rfl
    ·rfl
   ·rfl
theorem ydu:∀(l:List Val) (d:Nat) (c:Nat×Int),yal.walkL (l.map yab) d c=yal.walkL l d c
 |[],d,c=>rfl
 |x::r,d,(p,e)=>by
  have h1:=yex x d p e;have h2:=ydu r;rw[List.map_cons,yaL,yaL,h1,h2]
end
theorem yaO (x:Val):checkL (yab x)=checkL x:=by
 unfold checkL;rw[yex,yed]
end Go.Va
namespace Go.Proofs.YtpagmlndgblhhaaGreatDoor
open Go.RowKit Go.Own Go.Own.MapTy Go.Va Go.Sort
def ypg (p:Img)(c:In):Arg:=
 bif (ofL c.op).1.operand==1 then .val (yab (p.consts[c.a.toNat]?.getD ylx))else
 bif (ofL c.op).1.operand==2 then .name (p.names[c.a.toNat]?.getD ⟨#[]⟩)else
 bif (ofL c.op).1.operand==3 then .place c.a else .int c.a
structure PutOk (l:List (Int×Arg))(n:Nat):Prop where
 fit:∀m∈l,ypa m
 op:∀m∈l,(ofL m.1).2=true
 val:∀op x,(op,Arg.val x)∈l→checkL x=0
 int:∀op k,(op,Arg.int k)∈l→0≤k∧k<(if(ofL op).1.operand=4 then(n:Int)else if(ofL op).1.operand=5 then 17 else 1)
def yoV (p q:Img)(c d:In):Prop:=
 c.op=d.op∧((ofL c.op).1.operand=1→∃(i j:Nat) (x y:Val),c.a=i∧d.a=j∧p.consts[i]? =some x∧q.consts[j]? =some y∧yab x=yab y)∧
 ((ofL c.op).1.operand=2→∃(i j:Nat) (s:ByteArray),c.a=i∧d.a=j∧p.names[i]? =some s∧q.names[j]? =some s)∧
 ((ofL c.op).1.operand≠0→(ofL c.op).1.operand≠1→(ofL c.op).1.operand≠2→c.a=d.a)
end Go.Proofs.YtpagmlndgblhhaaGreatDoor
namespace Go.Va
open Go.Own Go.RowKit
open Go.Proofs.YtpagmlndgblhhaaGreatDoor
theorem ybb {x:Val}:checkL x=0↔(yal x 0 (0,0)).2=0∧(yaf x).length≤512:=by
 unfold checkL;cases h:((yal x 0 (0,0)).2 !=0)with
 |true=>
  simp only[znm];have h2:(yal x 0 (0,0)).2≠0:=by simpa using h
  exact⟨fun e=>absurd e h2,fun e=>absurd e.1 h2⟩
 |false=>
  simp only[znl];have h2:(yal x 0 (0,0)).2=0:=by simpa using h
  cases h3:decide (512<(yaf x).length)with
  |true=>exact⟨(fun e=>by cases e),fun e=>by have:=znx h3;omega⟩
  |false=>exact⟨fun _=>⟨h2,by have:=zny h3;omega⟩,fun _=>rfl⟩
mutual
theorem ykt:∀(x:Val) (d p:Nat),(yal x d (p,0)).2=0→p≤(yal x d (p,0)).1∧∀(d' q:Nat),d'≤d→q≤p→yal x d' (q,0)=(q+((yal x d (p,0)).1 - p),0)
 | .mk k n s l,d,p,h=>by
   rw[yal]at h⊢;have e0:((0:Int)!=0)=false:=rfl;rw[e0]at h⊢;simp only[znl]at h⊢;cases h1:decide (256≤p)with
   |true=>rw[h1]at h;cases h
   |false=>
    have hp:=zny h1;rw[h1]at h;simp only[znl]at h⊢;have hq:∀q:Nat,q≤p→decide (256≤q)=false:=fun q hq=>znd (by omega);cases h2:(k==0||k==1)with
    |true=>
     simp only[znm];refine⟨Nat.le_succ _,fun d' q _ hq'=> ?_⟩;rw[yal,e0,hq q hq',h2];show(q+1,(0:Int))=_
     congr 1
     omega
    |false=>
     rw[h2]at h;simp only[znl]at h⊢;cases h3:(k==2)with
     |true=>
      rw[h3]at h;simp only[znm]at h⊢;refine⟨Nat.le_succ _,fun d' q _ hq'=> ?_⟩;rw[yal,e0,hq q hq',h2,h3];show(q+1,_)=_;rw[h]
      congr 1
      omega
     |false=>
      rw[h3]at h;simp only[znl]at h⊢;cases h4:(k==3)with
      |false=>rw[h4]at h;cases h
      |true=>
       rw[h4]at h;simp only[znm]at h⊢;cases h5:decide (8≤d)with
       |true=>
        rw[h5]at h;simp only[znm]at h;rw[yaV l (d+1) (p+1,30) rfl]at h;cases h
       |false=>
        rw[h5]at h;simp only[znl]at h⊢;cases h6:decide (64<l.length)with
        |true=>
         rw[h6]at h;simp only[znm]at h;rw[yaV l (d+1) (p+1,2) rfl]at h;cases h
        |false=>
         rw[h6]at h;simp only[znl]at h⊢;obtain⟨g1,g2⟩:=ydv l (d+1) (p+1) h;refine⟨by omega,fun d' q hd' hq'=> ?_⟩;have hd:decide (8≤d')=false:=znd (by have:=zny h5;omega);rw[yal,e0,hq q hq',h2,h3,h4,hd,h6];show yal.walkL l (d'+1) (q+1,0)=_;rw[(g2 (d'+1) (q+1) (by omega) (by omega)).1]
         congr 1
         omega
theorem ydv:∀(l:List Val) (d p:Nat),(yal.walkL l d (p,0)).2=0→p≤(yal.walkL l d (p,0)).1∧∀(d' q:Nat),d'≤d→q≤p→yal.walkL l d' (q,0)=(q+((yal.walkL l d (p,0)).1 - p),0)∧∀x∈l,(yal x d' (q,0)).2=0
 |[],d,p,h=>by
  rw[yaU]at h⊢;refine⟨znc _,fun d' q _ _=>⟨?_,fun x hx=>by cases hx⟩⟩;rw[yaU];show(q,(0:Int))=(q+(p - p),0);rw[Nat.sub_self];rfl
 |x::r,d,p,h=>by
  have e0:(((p,(0:Int)):Nat×Int).2 !=0)=false:=rfl;rw[yaL,e0]at h⊢;simp only[znl]at h⊢;have hx0:(yal x d (p,0)).2=0:=by
   cases hc:((yal x d (p,0)).2 !=0)with
   |true=>rw[yaV r d _ hc]at h;exact h
   |false=>simpa using hc
  obtain⟨m,hm⟩:∃m,yal x d (p,0)=(m,0):=⟨_,Prod.ext rfl hx0⟩;obtain⟨a1,a2⟩:=ykt x d p hx0;rw[hm]at h a1 a2⊢;obtain⟨b1,b2⟩:=ydv r d m h;have a1:p≤m:=a1;refine⟨by omega,fun d' q hd hq=> ?_⟩;have a3:yal x d' (q,0)=(q+(m - p),0):=a2 d' q hd hq;obtain⟨c1,_⟩:=b2 d' (q+(m - p)) hd (by omega);refine⟨?_,fun y hy=> ?_⟩
  ·rw[yaL]
   show yal.walkL r d' (yal x d' (q,0))=_;rw[a3,c1]
   congr 1
   omega
  ·rcases List.mem_cons.1 hy with rfl|hy
   ·rw[a3]
   ·exact(b2 d' q hd (by omega)).2 y hy
end
theorem yiJ {n:Int}{s:ByteArray}{l:List Val}(h:checkL (.mk 3 n s l)=0){x:Val}(hx:x∈l):checkL x=0:=by
 obtain⟨h1,h2⟩:=ybb.1 h;rw[yal]at h1;have h1:(yal.walkL l 1 (1,bif decide (64<l.length)then 2 else 0)).2=0:=h1;have hl:¬64<l.length:=by
  intro e;rw[zno e]at h1;rw[show(bif true then(2:Int)else 0)=2 from rfl,yaV l 1 (1,2) rfl]at h1;cases h1
 rw[znd hl]at h1;refine ybb.2 ⟨((ydv l 1 1 h1).2 0 0 (by omega) (by omega)).2 x hx,?_⟩;rw[yaf]at h2;have h2:(UInt8.ofNat _::(ybX l.length++yaf.bytesL l)).length≤512:=h2;rw[List.length_cons,znk]at h2;have:=yeO hx;omega
theorem ycb:checkL yai=0:=by kernel_rfl
theorem ykd (n:Int):checkL (ybn n)=0:=by
 refine ybb.2 ⟨rfl,?_⟩;rw[ybn,yaf];have:=ybu (zigL n);show(UInt8.ofNat _::ybX (zigL n)).length≤512;rw[List.length_cons];omega
theorem yiG {s:ByteArray}(h:s.size≤64):checkL (ybH s)=0:=by
 refine ybb.2 ⟨?_,?_⟩
 ·rw[ybH,yal]
  show(bif decide (256<s.size)then(2:Int)else 0)=0;rw[znd (by omega)];rfl
 ·rw[ybH,yaf]
  show(UInt8.ofNat _::textB s.data.toList).length≤512;rw[List.length_cons];unfold textB;have:=ybu s.data.toList.length;have hl:s.data.toList.length=s.size:=by simp
  rw[znk];omega
def Okv (x:Val):Prop:=checkL x=0∧x.wf
end Go.Va
namespace Go.Va
open Go.Own Go.RowKit Go.Own.MapTy Go.Sort
open Go.Own.Cells (sz enc)
theorem IAt.below {F:Nat→Prop}{w w':World}{i:IC}{p:Img}(h:IAt F w i p)(B:Below w.heap.size w w'):IAt F w' i p:=h.keep (S:=fun _=>False) (zkb B) (fun _ _ f=>f)
theorem IAt.code_at {F:Nat→Prop}{w wr:World}{i:IC}{p:Img}(h:IAt F w i p)(B:Below w.heap.size w wr){k:Nat}{c:In}(hx:p.code[k]? =some c):∃g off,i.ca=some ⟨g,off,none⟩∧F g∧g<w.heap.size∧g<wr.heap.size∧wr.cell? ⟨g,off+k*2,none⟩=some (.int .i64 c.op)∧wr.cell? ⟨g,off+k*2+1,none⟩=some (.int .i64 c.a):=by
 obtain⟨_,_,g,off,ha,hel⟩:=h.code.elems;obtain⟨hF,hg,hcs⟩:=hel k c hx;have ha:=ha.resolve_right (fun e=>by rw[e]at hx;simp at hx);have m0:=hcs 0 _ rfl;have m1:=hcs 1 _ rfl;rw[show off+(k*sz In+0)=off+k*2 from rfl,←B.cell (p:=⟨g,_,none⟩) hg]at m0;rw[show off+(k*sz In+1)=off+k*2+1 from rfl,←B.cell (p:=⟨g,_,none⟩) hg]at m1;exact⟨g,off,ha,hF,hg,znj hg B.size,m0,m1⟩
theorem IAt.name_at {F:Nat→Prop}{w wr:World}{i:IC}{p:Img}(h:IAt F w i p)(B:Below w.heap.size w wr){k:Nat}{c:ByteArray}(hx:p.names[k]? =some c):∃g off,i.na=some ⟨g,off,none⟩∧F g∧g<w.heap.size∧g<wr.heap.size∧wr.cell? ⟨g,off+k,none⟩=some (.string c):=by
 obtain⟨_,_,g,off,ha,hel⟩:=h.names.elems;obtain⟨hF,hg,hcs⟩:=hel k c hx;have ha:=ha.resolve_right (fun e=>by rw[e]at hx;simp at hx);have m0:=hcs 0 _ rfl;rw[show off+(k*sz ByteArray+0)=off+k from by simp[Cells.sz],←B.cell (p:=⟨g,_,none⟩) hg]at m0;exact⟨g,off,ha,hF,hg,znj hg B.size,m0⟩
theorem IAt.const_at {F:Nat→Prop}{w wr:World}{i:IC}{p:Img}(h:IAt F w i p)(B:Below w.heap.size w wr){k:Nat}{x:Val}(hx:p.consts[k]? =some x):∃g off c,i.ka=some ⟨g,off,none⟩∧F g∧g<w.heap.size∧g<wr.heap.size∧CF F wr c x∧
  wr.cell? ⟨g,off+k*4,none⟩=some (.int .i64 c.kind)∧wr.cell? ⟨g,off+k*4+1,none⟩=some (.int .i64 c.n)∧wr.cell? ⟨g,off+k*4+2,none⟩=some (.string c.s)∧wr.cell? ⟨g,off+k*4+3,none⟩=some (.slice c.la c.ln c.lc):=by
 obtain⟨_,_,hel⟩:=h.consts.elems;obtain⟨g,off,ha,hF,hg,hel⟩:=hel.resolve_left (fun e=>by rw[e]at hx;simp at hx);obtain⟨c,hC,m0,m1,m2,m3⟩:=hel k x hx;rw[←B.cell (p:=⟨g,_,none⟩) hg]at m0 m1 m2 m3;exact⟨g,off,c,ha,hF,hg,znj hg B.size,hC.keep (S:=fun _=>False) (zkb B) (fun _ _ f=>f),m0,m1,m2,m3⟩
end Go.Va
namespace Go.Proofs.YtpagmlndgblhhaaGreatDoor
open Go.RowKit Go.Own Go.Own.MapTy Go.Va Go.Sort
open Go.Own.Cells (sz enc)
def BoxI (w:World)(b:Nat)(i:IC):Prop:=w.heap[b]? =some (.cells #[.slice i.ca i.cn i.cc,.slice i.ka i.kn i.kc,.slice i.na i.nn i.nc,.int .i64 i.pl] 28 (0,0))
theorem BoxI.c0 {w:World}{b:Nat}{i:IC}(h:BoxI w b i):w.cell? ⟨b,0,none⟩=some (.slice i.ca i.cn i.cc):=by rw[zch h];rfl
theorem BoxI.c1 {w:World}{b:Nat}{i:IC}(h:BoxI w b i):w.cell? ⟨b,1,none⟩=some (.slice i.ka i.kn i.kc):=by rw[zch h];rfl
theorem BoxI.c2 {w:World}{b:Nat}{i:IC}(h:BoxI w b i):w.cell? ⟨b,2,none⟩=some (.slice i.na i.nn i.nc):=by rw[zch h];rfl
theorem BoxI.c3 {w:World}{b:Nat}{i:IC}(h:BoxI w b i):w.cell? ⟨b,3,none⟩=some (.int .i64 i.pl):=by rw[zch h];rfl
theorem BoxI.lt {w:World}{b:Nat}{i:IC}(h:BoxI w b i):b<w.heap.size:=zlt h
theorem BoxI.below {w w':World}{b:Nat}{i:IC}(h:BoxI w b i)(B:Below w.heap.size w w'):BoxI w' b i:=(B.block b h.lt).trans h
theorem ycK {α:Type}{l:List α}{i:Nat}{x:α}(h:l[i]? =some x):l.drop i=x::l.drop (i+1):=by
 rw[znr (zge h).1,(zge h).2]
end Go.Proofs.YtpagmlndgblhhaaGreatDoor
namespace Go.Va
open Go.Own Go.RowKit
def yoS:Val→Val→Int
 | .mk k n s l,y=>
   bif k !=y.kind then wrap64 (k - y.kind)else
   bif k==1 then(bif decide (n<y.num)then -1 else bif decide (y.num<n)then 1 else 0)else
   bif k==2 then(bif Op.bytesLess s.toList y.txt.toList then -1 else bif !(Op.bytesLess s.toList y.txt.toList||s.toList==y.txt.toList)then 1 else 0)else
   bif k !=3 then 0 else cmpRs l y.list ((l.length:Int) - y.list.length)
where cmpRs:List Val→List Val→Int→Int
 |[],_,d=>d
 |_::_,[],d=>d
 |x::r,y::s,d=>bif yoS x y !=0 then yoS x y else cmpRs r s d
mutual
theorem yb1:∀x:Val,x.wf→(yab x).wf
 | .mk k n s l,h=>by
   have h2:=(Val.wf_eq _).1 h;have ih:=yfQ l (Val.wfL_iff.1 h2.2.2.2);rw[Val.wf_eq,ybz,ycO,yca,clone_list];refine⟨h2.1,?_,?_,?_⟩
   ·have:=h2.2.1
    show _≤(bif k==1 then n else 0)∧(bif k==1 then n else 0)≤_;cases(k==1)
    ·simp
    ·exact this
   ·have:=h2.2.2.1
    show(bif k==2 then s else(⟨#[]⟩:ByteArray)).size≤_;cases(k==2)
    ·exact znq _
    ·exact this
   ·show Val.wf.wfL (bif k==3 then l.map yab else[])
    rw[Val.wfL_iff];cases(k==3)
    ·intro x hx;cases hx
    ·exact ih
theorem yfQ:∀l:List Val,(∀x∈l,x.wf)→∀x∈l.map yab,x.wf
 |[],_,x,h=>by cases h
 |y::r,hw,x,h=>by
  have h1:=yb1 y (hw y zmf);have h2:=yfQ r (fun z hz=>hw z (zme _ hz));rw[List.map_cons]at h;rcases List.mem_cons.1 h with rfl|h
  ·exact h1
  ·exact h2 x h
end
end Go.Va
namespace Go.Proofs.YtpagmlndgblhhaaGreatDoor
open Go.RowKit Go.Own Go.Own.MapTy Go.Va Go.Sort
open Go.Own.Cells (sz enc)
def yo6 (c:In):List UInt8:=UInt8.ofNat (c.op%256).toNat::(bif (ofL c.op).1.operand==0 then[]else ybX c.a.toNat)
def yo7 (p:Img):List UInt8:=
 ybX p.places.toNat++ybX p.consts.length++p.consts.flatMap yaf++ybX p.names.length++p.names.flatMap (fun s=>Go.Va.textB s.data.toList)++ybX p.code.length++p.code.flatMap yo6
structure Sofar (p:Img)(S:ByteArray)(rest:List UInt8):Prop where
 e:S.data.toList++rest=yo7 p
 le:S.size≤1000000
end Go.Proofs.YtpagmlndgblhhaaGreatDoor
