/- Parts of the proof: what the functions and the plain laws give that later parts lean on. Conditions: none beyond those that each theorem names. -/
import Derived.Test.YtakljipkaoahnaaGreatDoorB3
set_option maxRecDepth 100000
set_option maxHeartbeats 8000000
namespace Go.Va
open Go.Own Go.RowKit
def cmpV:Val→Val→Int
 | .mk k n s l,y=>
   bif k !=y.kind then(bif decide (k<y.kind)then -1 else 1)else
   bif k==1 then(bif n !=y.num then(bif decide (n<y.num)then -1 else 1)else 0)else
   bif k==2 then Lib.compareBytes s.data.toList y.txt.data.toList else
   bif k==3 then cmpLs l y.list else 0
where cmpLs:List Val→List Val→Int
 |[],ys=>bif decide (0<ys.length)then -1 else 0
 |_::_,[]=>1
 |x::r,y::s=>bif cmpV x y !=0 then cmpV x y else cmpLs r s
theorem cmpV_eq (x y:Val):cmpV x y=
 bif x.kind !=y.kind then(bif decide (x.kind<y.kind)then -1 else 1)else
 bif x.kind==1 then(bif x.num !=y.num then(bif decide (x.num<y.num)then -1 else 1)else 0)else
 bif x.kind==2 then Lib.compareBytes x.txt.data.toList y.txt.data.toList else
 bif x.kind==3 then cmpV.cmpLs x.list y.list else 0:=by
 cases x
 rw[cmpV]
 rfl
theorem cmpL_nil (ys:List Val):cmpV.cmpLs [] ys=bif decide (0<ys.length)then -1 else 0:=by rw[cmpV.cmpLs]
theorem cmpL_one (x:Val)(r:List Val):cmpV.cmpLs (x::r) []=1:=by rw[cmpV.cmpLs]
theorem cmpL_cons (x y:Val)(r s:List Val):cmpV.cmpLs (x::r) (y::s)=bif cmpV x y !=0 then cmpV x y else cmpV.cmpLs r s:=by rw[cmpV.cmpLs]
end Go.Va
namespace Go.Proofs.YtakljipkaoahnaaGreatDoor
open Go.RowKit Go.Own Go.Own.MapTy Go.Va Go.Sort
open Go.Own.Cells (sz enc)
theorem cmp_kind (x y:Val)
 (ck cn:Int)(cs:ByteArray)(la:Option Addr)(ln lc:Nat)(dk dn:Int)(ds:ByteArray)(ma:Option Addr)(mn mc:Nat)(F F':Nat→Prop)(w:World)(C:CF F w ⟨ck,cn,cs,la,ln,lc⟩ x)(D:CF F' w ⟨dk,dn,ds,ma,mn,mc⟩ y)(r:Int)(hr:cmpV x y=r)
 (hk:(ck !=dk)=true):
 Calls Tryz.prog 46 #[.agg #[.int .i64 ck,.int .i64 cn,.string cs,.slice la ln lc],.agg #[.int .i64 dk,.int .i64 dn,.string ds,.slice ma mn mc]] w fun e w'=>e= .returned (.int .i64 r)∧Below w.heap.size w w'
 :=by
 rw[cmpV_eq]at hr
 have h1:ck=x.kind:=C.kind
 have h2:cn=x.num:=C.n
 have h3:cs=x.txt:=C.s
 have g1:dk=y.kind:=D.kind
 have g2:dn=y.num:=D.n
 have g3:ds=y.txt:=D.s
 rw[←h1,←h2,←h3,←g1,←g2,←g3]at hr
 clear h1 h2 h3 g1 g2 g3
 have HC:=zh2 C D
 clear C D
 rw[hk]at hr
 simp only[cond_true]at hr
 have hk2:(ck==dk)=false:=by simpa using hk
 have HR:=zhd hr
 clear hr
 have CS:=zhd (fun W=>sign_any (decide (ck<dk)) W)
 have HB:=zhd ((((Below.refl w.heap.size w).alloc (Nat.le_refl _) (.cells #[.int .i64 ck,.int .i64 cn,.string cs,.slice la ln lc] 39)).alloc (by simp) (.cells #[.int .i64 dk,.int .i64 dn,.string ds,.slice ma mn mc] 39)))
 generalize hd:decide (ck<dk)=b at*
 go_enter Tryz.func46,Tryz.ntmps46
 go_wp2_with fail
 refine(CS.out _).mono ?_
 rintro e w1 ⟨rfl,rfl⟩
 go_wp2_with fail
 go_ret
 exact⟨by rw[←HR.out];rfl,HB.out⟩
theorem cmp_int (x y:Val)
 (ck cn:Int)(cs:ByteArray)(la:Option Addr)(ln lc:Nat)(dk dn:Int)(ds:ByteArray)(ma:Option Addr)(mn mc:Nat)(F F':Nat→Prop)(w:World)(C:CF F w ⟨ck,cn,cs,la,ln,lc⟩ x)(D:CF F' w ⟨dk,dn,ds,ma,mn,mc⟩ y)(r:Int)(hr:cmpV x y=r)
 (hk:ck=dk)(h1:ck=1):
 Calls Tryz.prog 46 #[.agg #[.int .i64 ck,.int .i64 cn,.string cs,.slice la ln lc],.agg #[.int .i64 dk,.int .i64 dn,.string ds,.slice ma mn mc]] w fun e w'=>e= .returned (.int .i64 r)∧Below w.heap.size w w'
 :=by
 rw[cmpV_eq]at hr
 have h1:ck=x.kind:=C.kind
 have h2:cn=x.num:=C.n
 have h3:cs=x.txt:=C.s
 have g1:dk=y.kind:=D.kind
 have g2:dn=y.num:=D.n
 have g3:ds=y.txt:=D.s
 rw[←h1,←h2,←h3,←g1,←g2,←g3]at hr
 clear h1 h2 h3 g1 g2 g3
 have HC:=zh2 C D
 clear C D
 have hk1:(ck !=dk)=false:=by rw[hk];simp
 rw[hk1]at hr
 simp only[cond_false]at hr
 subst hk
 have HB:=zhd ((((Below.refl w.heap.size w).alloc (Nat.le_refl _) (.cells #[.int .i64 ck,.int .i64 cn,.string cs,.slice la ln lc] 39)).alloc (by simp) (.cells #[.int .i64 ck,.int .i64 dn,.string ds,.slice ma mn mc] 39)))
 clear hk1
 subst h1
 simp only[beq_self_eq_true,cond_true]at hr
 cases hn:(cn !=dn)with
 |true=>
  rw[hn]at hr
  simp only[cond_true]at hr
  have hn2:(cn==dn)=false:=by simpa using hn
  have HR:=zhd hr
  clear hr
  have CS:=zhd (fun W=>sign_any (decide (cn<dn)) W)
  generalize hd:decide (cn<dn)=b at*
  go_enter Tryz.func46,Tryz.ntmps46
  go_wp2_with fail
  refine(CS.out _).mono ?_
  rintro e w1 ⟨rfl,rfl⟩
  go_wp2_with fail
  go_ret
  exact⟨by rw[←HR.out];rfl,HB.out⟩
 |false=>
  rw[hn]at hr
  simp only[cond_false]at hr
  obtain rfl:cn=dn:=by simpa using hn
  have HR:=zhd hr
  clear hr hn
  go_enter Tryz.func46,Tryz.ntmps46
  go_wp2_with fail
  go_ret
  exact⟨by rw[←HR.out];rfl,HB.out⟩
theorem cmp_text (x y:Val)
 (ck cn:Int)(cs:ByteArray)(la:Option Addr)(ln lc:Nat)(dk dn:Int)(ds:ByteArray)(ma:Option Addr)(mn mc:Nat)(F F':Nat→Prop)(w:World)(C:CF F w ⟨ck,cn,cs,la,ln,lc⟩ x)(D:CF F' w ⟨dk,dn,ds,ma,mn,mc⟩ y)(r:Int)(hr:cmpV x y=r)
 (hk:ck=dk)(h1:ck=2):
 Calls Tryz.prog 46 #[.agg #[.int .i64 ck,.int .i64 cn,.string cs,.slice la ln lc],.agg #[.int .i64 dk,.int .i64 dn,.string ds,.slice ma mn mc]] w fun e w'=>e= .returned (.int .i64 r)∧Below w.heap.size w w'
 :=by
 rw[cmpV_eq]at hr
 have h1:ck=x.kind:=C.kind
 have h2:cn=x.num:=C.n
 have h3:cs=x.txt:=C.s
 have g1:dk=y.kind:=D.kind
 have g2:dn=y.num:=D.n
 have g3:ds=y.txt:=D.s
 rw[←h1,←h2,←h3,←g1,←g2,←g3]at hr
 clear h1 h2 h3 g1 g2 g3
 have HC:=zh2 C D
 clear C D
 have hk1:(ck !=dk)=false:=by rw[hk];simp
 rw[hk1]at hr
 simp only[cond_false]at hr
 subst hk
 have HB:=zhd ((((Below.refl w.heap.size w).alloc (Nat.le_refl _) (.cells #[.int .i64 ck,.int .i64 cn,.string cs,.slice la ln lc] 39)).alloc (by simp) (.cells #[.int .i64 ck,.int .i64 dn,.string ds,.slice ma mn mc] 39)))
 clear hk1
 subst h1
 have e1:((2:Int)==1)=false:=rfl
 rw[e1]at hr
 simp only[beq_self_eq_true,cond_true,cond_false]at hr
 have CS:=zhd (fun W=>Any.strings_Compare Tryz.lays106 cs ds W)
 have HR:=zhd hr
 clear hr e1
 go_enter Tryz.func46,Tryz.ntmps46
 go_wp2_with fail
 refine(CS.out _).mono ?_
 rintro e w1 ⟨rfl,rfl⟩
 go_wp2_with fail
 go_ret
 exact⟨by rw[←HR.out];rfl,HB.out⟩
theorem cmp_other (x y:Val)
 (ck cn:Int)(cs:ByteArray)(la:Option Addr)(ln lc:Nat)(dk dn:Int)(ds:ByteArray)(ma:Option Addr)(mn mc:Nat)(F F':Nat→Prop)(w:World)(C:CF F w ⟨ck,cn,cs,la,ln,lc⟩ x)(D:CF F' w ⟨dk,dn,ds,ma,mn,mc⟩ y)(r:Int)(hr:cmpV x y=r)
 (hk:ck=dk)(h1:(ck==1)=false)(h2:(ck==2)=false)(h3:(ck==3)=false):
 Calls Tryz.prog 46 #[.agg #[.int .i64 ck,.int .i64 cn,.string cs,.slice la ln lc],.agg #[.int .i64 dk,.int .i64 dn,.string ds,.slice ma mn mc]] w fun e w'=>e= .returned (.int .i64 r)∧Below w.heap.size w w'
 :=by
 rw[cmpV_eq]at hr
 have h1:ck=x.kind:=C.kind
 have h2:cn=x.num:=C.n
 have h3:cs=x.txt:=C.s
 have g1:dk=y.kind:=D.kind
 have g2:dn=y.num:=D.n
 have g3:ds=y.txt:=D.s
 rw[←h1,←h2,←h3,←g1,←g2,←g3]at hr
 clear h1 h2 h3 g1 g2 g3
 have HC:=zh2 C D
 clear C D
 have hk1:(ck !=dk)=false:=by rw[hk];simp
 rw[hk1]at hr
 simp only[cond_false]at hr
 subst hk
 have HB:=zhd ((((Below.refl w.heap.size w).alloc (Nat.le_refl _) (.cells #[.int .i64 ck,.int .i64 cn,.string cs,.slice la ln lc] 39)).alloc (by simp) (.cells #[.int .i64 ck,.int .i64 dn,.string ds,.slice ma mn mc] 39)))
 clear hk1
 rw[h1,h2,h3]at hr
 simp only[cond_false]at hr
 have HR:=zhd hr
 clear hr
 go_enter Tryz.func46,Tryz.ntmps46
 go_wp2_with fail
 go_ret
 exact⟨by rw[←HR.out];rfl,HB.out⟩
def CRel (w2:World)(x y:Val)(r:Int)(gk:Nat)(v46:Value)(wr:World):Prop:=
 ∃i:Nat,v46= .int .i64 i∧i≤x.list.length∧i≤y.list.length∧gk=x.list.length - i∧cmpV.cmpLs (x.list.drop i) (y.list.drop i)=r∧Below w2.heap.size w2 wr
theorem cmp_list (n:Nat)(IH:∀(x:Val),x.parts≤n→∀(y:Val) (c d:VC) (F F':Nat→Prop) (w:World),CF F w c x→CF F' w d y→
 Calls Tryz.prog 46 #[.agg #[.int .i64 c.kind,.int .i64 c.n,.string c.s,.slice c.la c.ln c.lc],.agg #[.int .i64 d.kind,.int .i64 d.n,.string d.s,.slice d.la d.ln d.lc]] w fun e w'=>e= .returned (.int .i64 (cmpV x y))∧Below w.heap.size w w')
 (x y:Val)
 (ck cn:Int)(cs:ByteArray)(la:Option Addr)(ln lc:Nat)(dk dn:Int)(ds:ByteArray)(ma:Option Addr)(mn mc:Nat)(F F':Nat→Prop)(w:World)(C:CF F w ⟨ck,cn,cs,la,ln,lc⟩ x)(D:CF F' w ⟨dk,dn,ds,ma,mn,mc⟩ y)(r:Int)(hr:cmpV x y=r)
 (hk:ck=dk)(h1:ck=3)(hx:x.parts≤n+1)(g off g' off':Nat)
 (hel:ln=x.list.length∧ln≤maxLen∧(∀(i:Nat) (z:Val),x.list[i]? =some z→F g∧g<w.heap.size∧∃c,CF F w c z∧
   w.cell? ⟨g,off+i*4,none⟩=some (.int .i64 c.kind)∧w.cell? ⟨g,off+i*4+1,none⟩=some (.int .i64 c.n)∧w.cell? ⟨g,off+i*4+2,none⟩=some (.string c.s)∧w.cell? ⟨g,off+i*4+3,none⟩=some (.slice c.la c.ln c.lc)))(hla:la=some ⟨g,off,none⟩∨x.list=[])
 (hem:mn=y.list.length∧mn≤maxLen∧(∀(i:Nat) (z:Val),y.list[i]? =some z→F' g'∧g'<w.heap.size∧∃c,CF F' w c z∧
   w.cell? ⟨g',off'+i*4,none⟩=some (.int .i64 c.kind)∧w.cell? ⟨g',off'+i*4+1,none⟩=some (.int .i64 c.n)∧w.cell? ⟨g',off'+i*4+2,none⟩=some (.string c.s)∧w.cell? ⟨g',off'+i*4+3,none⟩=some (.slice c.la c.ln c.lc)))(hma:ma=some ⟨g',off',none⟩∨y.list=[]):
 Calls Tryz.prog 46 #[.agg #[.int .i64 ck,.int .i64 cn,.string cs,.slice la ln lc],.agg #[.int .i64 dk,.int .i64 dn,.string ds,.slice ma mn mc]] w fun e w'=>e= .returned (.int .i64 r)∧Below w.heap.size w w'
 :=by
 rw[cmpV_eq]at hr
 have h1:ck=x.kind:=C.kind
 have h2:cn=x.num:=C.n
 have h3:cs=x.txt:=C.s
 have g1:dk=y.kind:=D.kind
 have g2:dn=y.num:=D.n
 have g3:ds=y.txt:=D.s
 rw[←h1,←h2,←h3,←g1,←g2,←g3]at hr
 clear h1 h2 h3 g1 g2 g3
 have HC:=zh2 C D
 clear C D
 have hk1:(ck !=dk)=false:=by rw[hk];simp
 rw[hk1]at hr
 simp only[cond_false]at hr
 subst hk
 have HB:=zhd ((((Below.refl w.heap.size w).alloc (Nat.le_refl _) (.cells #[.int .i64 ck,.int .i64 cn,.string cs,.slice la ln lc] 39)).alloc (by simp) (.cells #[.int .i64 ck,.int .i64 dn,.string ds,.slice ma mn mc] 39)))
 clear hk1
 subst h1
 have e1:((3:Int)==1)=false:=rfl
 have e2:((3:Int)==2)=false:=rfl
 rw[e1,e2]at hr
 simp only[beq_self_eq_true,cond_true,cond_false]at hr
 obtain⟨hln,hlm,hel⟩:=hel
 obtain⟨hmn,hmm,hem⟩:=hem
 have HR:=zhd hr
 have HE:=zh2 hel hem
 have HL:=zh2 hln hmn
 have HLA:=zh2 hla hma
 have HI:=zhd IH
 unfold maxLen at hlm hmm
 clear hr e1 e2 hel hem hln hmn hla hma IH
 go_enter Tryz.func46,Tryz.ntmps46
 go_wp2_with fail
 obtain⟨w2,hw2⟩:∃w2,w2=(w.alloc (.cells #[.int .i64 3,.int .i64 cn,.string cs,.slice la ln lc] 39)).alloc (.cells #[.int .i64 3,.int .i64 dn,.string ds,.slice ma mn mc] 39):=⟨_,rfl⟩
 have p3:w2.cell? ⟨w.heap.size,3,none⟩=some (.slice la ln lc):=by rw[hw2,zch heap_lt2];rfl
 have p7:w2.cell? ⟨w.heap.size+1,3,none⟩=some (.slice ma mn mc):=by rw[hw2,zch heap_new2];rfl
 have sz2:w2.heap.size=w.heap.size+2:=by rw[hw2];simp
 rw[←hw2]at HB⊢
 have HP:=zh3 p3 p7 sz2
 clear hw2 p3 p7 sz2
 go_loopg [46] (x.list.length) (fun gk v46 wr=>CRel w2 x y r gk v46 wr)
 case atStart=>exact⟨0,rfl,Nat.zero_le _,Nat.zero_le _,rfl,HR.out,Below.refl _ _⟩
 case round=>
  obtain⟨i,rfl,hi,hj,hgk,hcm,hB⟩:=hrel
  have b1:=hB.size
  have s1:w.heap.size+1<wr.heap.size:=by have:=HP.out.2.2;omega
  have s0:w.heap.size<wr.heap.size:=by omega
  have p3:wr.cell? ⟨w.heap.size,3,none⟩=some (.slice la ln lc):=by rw[hB.cell (p:=⟨w.heap.size,3,none⟩) (show w.heap.size<w2.heap.size by have:=HP.out.2.2;omega)];exact HP.out.1
  have p7:wr.cell? ⟨w.heap.size+1,3,none⟩=some (.slice ma mn mc):=by rw[hB.cell (p:=⟨w.heap.size+1,3,none⟩) (show w.heap.size+1<w2.heap.size by have:=HP.out.2.2;omega)];exact HP.out.2.1
  have BW:=HB.out.trans (hB.mono (show w.heap.size≤w2.heap.size by have:=HP.out.2.2;omega))
  by_cases hin:i<ln
  ·obtain⟨z,hz⟩:=elem_at (l:=x.list) (k:=i) (by have:=HL.out.1;omega)
   obtain⟨hFg,hg,c',hC,q0,q1,q2,q3⟩:=HE.out.1 i z hz
   have hin':(i:Int)<ln:=by omega
   have hla:la=some ⟨g,off,none⟩:=HLA.out.1.resolve_right (fun e=>by rw[e]at hz;simp at hz)
   rw[←BW.cell (p:=⟨g,_,none⟩) hg]at q0 q1 q2 q3
   have hdr:x.list.drop i=z::x.list.drop (i+1):=by
    rw[List.drop_eq_getElem_cons (zge hz).1,(zge hz).2]
   have hgl:g<wr.heap.size:=by omega
   subst hla
   by_cases hjn:i<mn
   ·obtain⟨u,hu⟩:=elem_at (l:=y.list) (k:=i) (by have:=HL.out.2;omega)
    obtain⟨hFm,hm,d',hD,m0,m1,m2,m3⟩:=HE.out.2 i u hu
    have hjn':((i:Int)==mn)=false:=by rw[beq_eq_false_iff_ne];omega
    have hjn2:(i:Int)<mn:=by omega
    have hma:ma=some ⟨g',off',none⟩:=HLA.out.2.resolve_right (fun e=>by rw[e]at hu;simp at hu)
    rw[←BW.cell (p:=⟨g',_,none⟩) hm]at m0 m1 m2 m3
    have hds:y.list.drop i=u::y.list.drop (i+1):=by
     rw[List.drop_eq_getElem_cons (zge hu).1,(zge hu).2]
    have hml:g'<wr.heap.size:=by omega
    rw[hdr,hds,cmpL_cons]at hcm
    have CW:=zhd (fun W (hW:Below wr.heap.size wr W)=>HI.out z (by have:=Val.parts_lt (v:=x) (zmg hz);omega) u c' d' _ _ W (hC.keep (S:=fun _=>False) (zkb (BW.trans (hW.mono BW.size))) (fun _ _ f=>f)) (hD.keep (S:=fun _=>False) (zkb (BW.trans (hW.mono BW.size))) (fun _ _ f=>f)))
    generalize cmpV z u=cv at*
    have HX:=zh8 hcm hB hgk BW hj hi (zge hz).1 (zge hu).1
    subst hma
    clear hcm hB hgk BW hz hu hC hD hdr hds
    go_wp2_with fail
    obtain⟨w6,hw6⟩:∃w6,w6=wr.alloc (.cells #[.int .i64 c'.kind,.int .i64 c'.n,.string c'.s,.slice c'.la c'.ln c'.lc] 39):=⟨_,rfl⟩
    have K6:=zba hw6
    have sz6:w6.heap.size=wr.heap.size+1:=by rw[hw6];simp
    have z0:w6.cell? ⟨wr.heap.size,0,none⟩=some (.int .i64 c'.kind):=by rw[hw6,zch (heap_alloc_new _ _)];rfl
    have z1:w6.cell? ⟨wr.heap.size,1,none⟩=some (.int .i64 c'.n):=by rw[hw6,zch (heap_alloc_new _ _)];rfl
    have z2:w6.cell? ⟨wr.heap.size,2,none⟩=some (.string c'.s):=by rw[hw6,zch (heap_alloc_new _ _)];rfl
    have z3:w6.cell? ⟨wr.heap.size,3,none⟩=some (.slice c'.la c'.ln c'.lc):=by rw[hw6,zch (heap_alloc_new _ _)];rfl
    rw[←hw6]
    have H6:=zh2 K6 sz6
    have l6:wr.heap.size<w6.heap.size:=by omega
    rw[←K6.cell (p:=⟨g',_,none⟩) hml]at m0 m1 m2 m3
    rw[←K6.cell (p:=⟨w.heap.size+1,3,none⟩) s1]at p7
    have hml6:g'<w6.heap.size:=by omega
    have s16:w.heap.size+1<w6.heap.size:=by omega
    clear hw6 K6 sz6
    refine wp_region_ext (by kernel_rfl) (by kernel_rfl) ?_
    repeat(go_big_quiet_step ((go_at_call 46;exact ext_call (CW.out _ ((H6.out.1.trans ((Subtype.property _:Below w6.heap.size w6 _).mono (by have:=H6.out.2;omega))))))))
    refine wpQuiet_nil ?_
    intro w7 hB7
    have HB7:=zhd (H6.out.1.trans (hB7.mono (by have:=H6.out.2;omega)))
    clear hB7 CW
    cases hz:(cv !=0)with
    |true=>
     have hcm:=HX.out.1
     rw[hz]at hcm
     simp only[cond_true]at hcm
     have HM:=zhd hcm
     clear hcm
     go_wp2_with fail
     go_ret
     exact⟨by rw[←HM.out];rfl,HX.out.2.2.2.1.trans (HB7.out.mono HX.out.2.2.2.1.size)⟩
    |false=>
     have hcm:=HX.out.1
     rw[hz]at hcm
     simp only[cond_false]at hcm
     have HM:=zhd hcm
     clear hcm
     go_wp2_with fail
     go_roundg (x.list.length - (i+1))
     case measure=>have:=HX.out.2.2.1;have:=HX.out.2.2.2.2.2.2.1;omega
     case rel=>exact⟨i+1,by simp,HX.out.2.2.2.2.2.2.1,HX.out.2.2.2.2.2.2.2,rfl,HM.out,HX.out.2.1.trans (HB7.out.mono HX.out.2.1.size)⟩
   ·obtain rfl:i=mn:=by have:=HL.out.2;omega
    have hyn:y.list.drop i=[]:=List.drop_eq_nil_of_le (by have:=HL.out.2;omega)
    rw[hdr,hyn,cmpL_one]at hcm
    have HX:=zh2 hcm BW
    clear hcm hB hgk BW hz hC hdr
    go_wp2_with fail
    go_ret
    exact⟨by rw[←HX.out.1];rfl,HX.out.2.alloc (by have:=HX.out.2.size;omega) _⟩
  ·obtain rfl:i=ln:=by have:=HL.out.1;omega
   have hxn:x.list.drop i=[]:=List.drop_eq_nil_of_le (by have:=HL.out.1;omega)
   rw[hxn,cmpL_nil]at hcm
   have hdl:(y.list.drop i).length=mn - i:=by rw[List.length_drop,←HL.out.2]
   rw[hdl]at hcm
   clear hdl
   by_cases hlt:i<mn
   ·have e3:(i:Int)<mn:=by omega
    have e4:decide (i<mn)=true:=by rw[decide_eq_true_eq];exact hlt
    rw[show decide (0<mn - i)=true from by rw[decide_eq_true_eq];omega]at hcm
    have HX:=zh2 hcm BW
    clear hcm hB hgk BW
    go_wp2_with fail
    go_ret
    exact⟨by rw[←HX.out.1];rfl,HX.out.2⟩
   ·have e3:¬(i:Int)<mn:=by omega
    have e4:decide (i<mn)=false:=by rw[decide_eq_false_iff_not];exact hlt
    rw[show decide (0<mn - i)=false from by rw[decide_eq_false_iff_not];omega]at hcm
    have HX:=zh2 hcm BW
    clear hcm hB hgk BW
    go_wp2_with fail
    go_ret
    exact⟨by rw[←HX.out.1];rfl,HX.out.2⟩
theorem compare_any:∀(n:Nat) (x:Val),x.parts≤n→∀(y:Val) (c d:VC) (F F':Nat→Prop) (w:World),CF F w c x→CF F' w d y→
 Calls Tryz.prog 46 #[.agg #[.int .i64 c.kind,.int .i64 c.n,.string c.s,.slice c.la c.ln c.lc],.agg #[.int .i64 d.kind,.int .i64 d.n,.string d.s,.slice d.la d.ln d.lc]] w fun e w'=>e= .returned (.int .i64 (cmpV x y))∧Below w.heap.size w w'
 |0,x,hx,_,_,_,_,_,_,_,_=>by have:=x.parts_pos;omega
 |n+1,x,hx,y,⟨ck,cn,cs,la,ln,lc⟩,⟨dk,dn,ds,ma,mn,mc⟩,F,F',w,C,D=>by
  by_cases hk:ck=dk
  ·by_cases k1:ck=1
   ·exact cmp_int x y ck cn cs la ln lc dk dn ds ma mn mc F F' w C D _ rfl hk k1
   ·by_cases k2:ck=2
    ·exact cmp_text x y ck cn cs la ln lc dk dn ds ma mn mc F F' w C D _ rfl hk k2
    ·by_cases k3:ck=3
     ·obtain⟨h4,h5,h6⟩:=C.l.elems
      obtain⟨g4,g5,g6⟩:=D.l.elems
      have hA:∃g off,(la=some ⟨g,off,none⟩∨x.list=[])∧(∀(i:Nat) (z:Val),x.list[i]? =some z→F g∧g<w.heap.size∧∃c,CF F w c z∧
       w.cell? ⟨g,off+i*4,none⟩=some (.int .i64 c.kind)∧w.cell? ⟨g,off+i*4+1,none⟩=some (.int .i64 c.n)∧w.cell? ⟨g,off+i*4+2,none⟩=some (.string c.s)∧w.cell? ⟨g,off+i*4+3,none⟩=some (.slice c.la c.ln c.lc)):=by
       rcases h6 with h6|⟨g,off,hla,hFg,hg,h6⟩
       ·exact⟨0,0,.inr h6,fun i y hy=>by rw[h6]at hy;simp at hy⟩
       ·exact⟨g,off,.inl hla,fun i y hy=>⟨hFg,hg,h6 i y hy⟩⟩
      have hB:∃g off,(ma=some ⟨g,off,none⟩∨y.list=[])∧(∀(i:Nat) (z:Val),y.list[i]? =some z→F' g∧g<w.heap.size∧∃c,CF F' w c z∧
       w.cell? ⟨g,off+i*4,none⟩=some (.int .i64 c.kind)∧w.cell? ⟨g,off+i*4+1,none⟩=some (.int .i64 c.n)∧w.cell? ⟨g,off+i*4+2,none⟩=some (.string c.s)∧w.cell? ⟨g,off+i*4+3,none⟩=some (.slice c.la c.ln c.lc)):=by
       rcases g6 with h6|⟨g,off,hla,hFg,hg,h6⟩
       ·exact⟨0,0,.inr h6,fun i y hy=>by rw[h6]at hy;simp at hy⟩
       ·exact⟨g,off,.inl hla,fun i y hy=>⟨hFg,hg,h6 i y hy⟩⟩
      obtain⟨g,off,a1,a2⟩:=hA
      obtain⟨g',off',b1,b2⟩:=hB
      exact cmp_list n (fun y hy=>compare_any n y hy) x y ck cn cs la ln lc dk dn ds ma mn mc F F' w C D _ rfl hk k3 hx g off g' off' ⟨h4,h5,a2⟩ a1 ⟨g4,g5,b2⟩ b1
     ·exact cmp_other x y ck cn cs la ln lc dk dn ds ma mn mc F F' w C D _ rfl hk (beq_eq_false_iff_ne.2 k1) (beq_eq_false_iff_ne.2 k2) (beq_eq_false_iff_ne.2 k3)
  ·exact cmp_kind x y ck cn cs la ln lc dk dn ds ma mn mc F F' w C D _ rfl (by simpa using hk)
theorem same_any (x y:Val)(c d:VC)(F F':Nat→Prop)(w:World)(C:CF F w c x)(D:CF F' w d y)(b:Bool)(hb:(cmpV x y==0)=b):
 Calls Tryz.prog 15 #[.agg #[.int .i64 c.kind,.int .i64 c.n,.string c.s,.slice c.la c.ln c.lc],.agg #[.int .i64 d.kind,.int .i64 d.n,.string d.s,.slice d.la d.ln d.lc]] w fun e w'=>e= .returned (.bool b)∧Below w.heap.size w w':=by
 have K0:Keeps (fun _=>False) w ((w.alloc (.cells #[.int .i64 c.kind,.int .i64 c.n,.string c.s,.slice c.la c.ln c.lc] 39)).alloc (.cells #[.int .i64 d.kind,.int .i64 d.n,.string d.s,.slice d.la d.ln d.lc] 39)):=((Keeps.refl _ _).alloc _).alloc _
 have CC:=zhd (compare_any x.parts x (Nat.le_refl _) y c d F F' _ (C.keep K0 (fun _ _ f=>f)) (D.keep K0 (fun _ _ f=>f)))
 have HB:=zhd (K0.below (B:=w.heap.size) (Nat.le_refl _) (fun _ _ f=>f))
 clear C D K0
 generalize cmpV x y=v at*
 go_enter Tryz.func15,Tryz.ntmps15
 go_wp2_with fail
 refine CC.out.mono ?_
 rintro e w1 ⟨rfl,hB⟩
 have H1:=zhd (HB.out.trans (hB.mono (by simp;omega)))
 clear hB
 go_wp2_with fail
 go_ret
 exact⟨rfl,H1.out⟩
end Go.Proofs.YtakljipkaoahnaaGreatDoor
namespace Go.Va
open Go.Own Go.RowKit
def vNil:Val:=.mk 0 0 ⟨#[]⟩ []
def listR (V:Nat→PR)(s:List UInt8):Nat→Nat→List Val→PR
 |0,_,_=>.bad
 |f+1,k,acc=>
  if eatL s k 93=true then .ok (.mk 3 0 ⟨#[]⟩ acc) (k+1)else
  if acc.length≠0∧eatL s k 32=false then .bad else
  match V (if acc.length=0 then k else k+1)with
  | .ok x k2=>listR V s f k2 (acc++[x])
  | .deep=>.deep
  | .bad=>.bad
def quoR:Option (List UInt8×Nat)→PR
 |some (t,k2)=>.ok (.mk 2 0 ⟨t.toArray⟩ []) k2
 |none=>.bad
def headR (L:Nat→PR)(s:List UInt8)(k:Nat):PR:=
 if Lib.hasPrefix (s.drop k) [110,105,108]=true then .ok vNil (k+3)else
 if eatL s k 34=true then quoR (quotL [] (k+1) (s.drop (k+1)))else
 if eatL s k 91=true then L (k+1)else numR s k
def valR:Nat→List UInt8→Nat→PR
 |0,s,k=>headR (fun _=>.deep) s k
 |n+1,s,k=>headR (fun j=>listR (valR n s) s (s.length+1) j []) s k
end Go.Va
namespace Go.Proofs.YtakljipkaoahnaaGreatDoor
open Go.RowKit Go.Own Go.Own.MapTy Go.Va Go.Sort
open Go.Own.Cells (sz enc)
theorem vof_any (n:Int)(w:World):Calls Tryz.prog 48 #[.int .i64 n] w fun e w'=>e= .returned (.agg #[.int .i64 1,.int .i64 n,.string ⟨#[]⟩,.slice none 0 0])∧Below w.heap.size w w':=by
 go_enter Tryz.func48,Tryz.ntmps48
 go_wp2_with fail
 exact bodyPost_ret (v:=.agg #[.int .i64 1,.int .i64 n,.string ⟨#[]⟩,.slice none 0 0]) (by simp only[results,Tryz.results48];go_simp) rfl ⟨rfl,zal⟩
def Z4 (W:World)(B:Nat):Prop:=W.heap[B]? =some (.cells #[.int .i64 0,.int .i64 0,.string .empty,.slice none 0 0] 39 (0,0))
structure VS (w:World)(N b:Nat)(s:ByteArray)(k:Nat)(deep:Bool)(W:World):Prop where
 t:TX W b s k deep
 k:Keeps (fun j=>j=b) w W
 z:Z4 W w.heap.size
 g:Gl Tryz.prog N W
 lt:w.heap.size<W.heap.size
def L8 (W:World)(B:Nat)(vl:Value):Prop:=W.heap[B]? =some (.cells #[.int .i64 3,.int .i64 0,.string ⟨#[]⟩,vl] 39 (0,0))
theorem elemV:ElemOf VC Tryz.prog 24 39 56:=elem_mk Tryz.underlying24 (z:=.agg #[.int .i64 0,.int .i64 0,.string .empty,.slice none 0 0]) (n:=4) (by kernel_rfl) rfl rfl
def LF (w:World)(B:Nat)(vl:Value):Nat→Prop:=fun j=>w.heap.size<j∧j≠B∧vl.ownBlock≠some j
def LRel (w:World)(N b:Nat)(s:ByteArray)(B n:Nat)(r:PR)(gk:Nat)(wr:World):Prop:=
 ∃(k:Nat) (acc:List Val) (vl:Value) (f:Nat),gk=s.size - k∧k≤s.size∧s.size - k<f∧VS w N b s k false wr∧L8 wr B vl∧VRow (LF w B vl) wr 39 vl acc∧(∀g,vl.ownBlock=some g→w.heap.size<g∧g≠B)∧listR (valR n s.data.toList) s.data.toList f k acc=r∧acc.length≤k
def VPost (w:World)(b:Nat)(s:ByteArray)(r:PR)(e:Ending)(w':World):Prop:=
 ∃(c:VC) (k2:Nat),k2≤s.size∧Keeps (fun j=>j=b) w w'∧match r with
  | .ok x k3=>e= .returned (.tuple #[.agg #[.int .i64 c.kind,.int .i64 c.n,.string c.s,.slice c.la c.ln c.lc],.bool true])∧k2=k3∧CF (fun j=>w.heap.size≤j) w' c x∧TX w' b s k2 false
  | .deep=>e= .returned (.tuple #[.agg #[.int .i64 c.kind,.int .i64 c.n,.string c.s,.slice c.la c.ln c.lc],.bool false])∧TX w' b s k2 true
  | .bad=>e= .returned (.tuple #[.agg #[.int .i64 c.kind,.int .i64 c.n,.string c.s,.slice c.la c.ln c.lc],.bool false])∧TX w' b s k2 false
end Go.Proofs.YtakljipkaoahnaaGreatDoor
namespace Go.Va
open Go.Own Go.RowKit
def checkL (x:Val):Int:=bif (walkV x 0 (0,0)).2 !=0 then(walkV x 0 (0,0)).2 else bif decide (512<(bytesV x).length)then 2 else 0
mutual
theorem walkV_ok:∀(x:Val) (d p:Nat),(walkV x d (p,0)).2=0→(bytesV x).length+280*p≤280*(walkV x d (p,0)).1
 | .mk k n s l,d,p,h=>by
   rw[walkV]at h⊢
   rw[bytesV]
   simp only[bne_self_eq_false,cond_false]at h⊢
   cases h2:decide (256≤p)with
   |true=>rw[h2]at h;simp at h
   |false=>
    rw[h2]at h
    simp only[cond_false]at h⊢
    have z1:=numB_len (zigL n)
    have z2:=numB_len l.length
    cases h3:(k==0||k==1)with
    |true=>
     rw[h3]at h
     simp only[cond_true]
     have h4:k=0∨k=1:=by simpa using h3
     rcases h4 with rfl|rfl<;>simp<;>omega
    |false=>
     rw[h3]at h
     simp only[cond_false]at h⊢
     rw[Bool.or_eq_false_iff]at h3
     rw[h3.2]
     cases h5:(k==2)with
     |true=>
      rw[h5]at h
      simp only[cond_true,cond_false]at h⊢
      have hs:¬256<s.size:=fun e=>by rw[show decide (256<s.size)=true from by simpa using e]at h;simp at h
      have z3:=numB_len s.data.toList.length
      simp[textB]
      simp at z3
      omega
     |false=>
      rw[h5]at h
      simp only[cond_false]at h⊢
      cases h6:(k==3)with
      |true=>
       rw[h6]at h
       simp only[cond_true]at h⊢
       generalize he:(bif decide (8≤d)then(30:Int)else bif decide (64<l.length)then 2 else 0)=e at h⊢
       by_cases hz:e=0
       ·subst hz
        have:=walkL_ok l (d+1) (p+1) h
        simp
        omega
       ·rw[walkL_err _ _ _ (by simpa using hz)]at h
        exact absurd h hz
      |false=>rw[h6]at h;simp at h
theorem walkL_ok:∀(l:List Val) (d p:Nat),(walkV.walkL l d (p,0)).2=0→(bytesV.bytesL l).length+280*p≤280*(walkV.walkL l d (p,0)).1
 |[],d,p,h=>by rw[walkL_nil,bytesL_nil];simp
 |x::r,d,p,h=>by
  rw[walkL_cons]at h⊢
  simp only[bne_self_eq_false,cond_false]at h⊢
  rw[bytesL_cons,List.length_append]
  generalize hc:walkV x d (p,0)=c at h⊢
  obtain⟨q,e⟩:=c
  by_cases hz:e=0
  ·subst hz
   have h1:=walkV_ok x d p (by rw[hc])
   have h2:=walkL_ok r d q h
   rw[hc]at h1
   dsimp only at h1
   omega
  ·rw[walkL_err _ _ _ (by simpa using hz)]at h
   exact absurd h hz
end
theorem bytes_small {x:Val}(h:(walkV x 0 (0,0)).2=0):(bytesV x).length≤71680:=by
 have h1:=walkV_ok x 0 0 h
 have h2:=walkV_bd x 0 (0,0) (fun _=>by decide) h
 omega
def parseV (s:List UInt8):Val×Int:=
 match valR 8 s 0 with
 | .deep=>(vNil,30)
 | .bad=>(vNil,8)
 | .ok x k=>if k<s.length then(vNil,8)else if checkL x≠0 then(vNil,checkL x)else(x,0)
end Go.Va
namespace Go.Proofs.YtakljipkaoahnaaGreatDoor
open Go.RowKit Go.Own Go.Own.MapTy Go.Va Go.Sort
open Go.Own.Cells (sz enc)
theorem check_any (x:Val)(ck cn:Int)(cs:ByteArray)(la:Option Addr)(ln lc:Nat)(F:Nat→Prop)(w:World)(C:CF F w ⟨ck,cn,cs,la,ln,lc⟩ x)(hw:x.wf)(r:Int)(hr:checkL x=r):
 Calls Tryz.prog 70 #[.agg #[.int .i64 ck,.int .i64 cn,.string cs,.slice la ln lc]] w fun e w'=>e= .returned (.int .i64 r)∧Below w.heap.size w w':=by
 have C0:=C.mono (G:=fun j=>j<w.heap.size) (fun j _ h=>h)
 have K0:Keeps (fun _=>False) w ((w.alloc (.cells #[.int .i64 ck,.int .i64 cn,.string cs,.slice la ln lc] 39)).alloc (.cells #[.int .i64 0,.int .i64 0] 182)):=((Keeps.refl _ _).alloc _).alloc _
 have CW:=zhd (show Calls Tryz.prog 107 #[.pointer (some ⟨w.heap.size+1,0,none⟩),.agg #[.int .i64 ck,.int .i64 cn,.string cs,.slice la ln lc],.int .i64 0] _ (WPost _ (w.heap.size+1) (walkV x 0 (0,0)))from walk_any x.parts x (Nat.le_refl _) (w.heap.size+1) 0 0 0 ⟨ck,cn,cs,la,ln,lc⟩ _ _ (show CX _ (w.heap.size+1) (0,0)from heap_new2) (C0.keep K0 (fun _ _ f=>f)) (by omega) (by omega) (fun _=>by omega))
 have HC:=zh3 C0 hw hr
 clear C C0 hw hr K0
 go_enter Tryz.func70,Tryz.ntmps70
 go_wp2_with fail
 refine CW.out.mono ?_
 rintro e w2 ⟨rfl,hX,hK⟩
 have q:∀o,w2.cell? ⟨w.heap.size,o,none⟩=(#[.int .i64 ck,.int .i64 cn,.string cs,.slice la ln lc]:Array Value)[o]? :=fun o=>by
  rw[hK.cell (p:=⟨w.heap.size,o,none⟩) (by simp;omega) (show¬w.heap.size=w.heap.size+1 by omega),zch heap_lt2]
 have q0:=q 0
 have q1:=q 1
 have q2:=q 2
 have q3:=q 3
 simp only[List.getElem?_toArray,List.getElem?_cons_zero,List.getElem?_cons_succ]at q0 q1 q2 q3
 have c1:=hX.c1
 have sz2:=hK.size
 simp at sz2
 have sz3:w.heap.size<w2.heap.size:=by omega
 have HK:=zhd (show Below w.heap.size w w2 from(((zal).alloc (by simp) _).trans (hK.below (B:=w.heap.size) (by simp;omega) (fun k hk e=>by omega))))
 clear q CW hX hK
 generalize hc:walkV x 0 (0,0)=c at*
 cases he:(c.2 !=0)with
 |true=>
  have hr:=HC.out.2.2
  unfold checkL at hr
  rw[hc,he]at hr
  simp only[cond_true]at hr
  have HR:=zhd hr
  clear hr hc
  go_wp2_with fail
  go_ret
  exact⟨by rw[←HR.out];rfl,HK.out⟩
 |false=>
  have hr:=HC.out.2.2
  unfold checkL at hr
  rw[hc,he]at hr
  simp only[cond_false]at hr
  have hb:=bytes_small (x:=x) (by rw[hc];simpa using he)
  have C2:=HC.out.1.keep (zkb (S:=fun _=>False) HK.out) (fun _ _ f=>f)
  have W2:WB (w2.alloc (.cells #[.slice none 0 0] 185)) w2.heap.size []:=⟨none,0,heap_alloc_new _ _,RowAt.nil _ _,fun e=>by cases e⟩
  have C3:=C2.keep (S:=fun _=>False) ((Keeps.refl _ _).alloc (.cells #[.slice none 0 0] 185)) (fun _ _ f=>f)
  have CY:=zhd (write_any x.parts x (Nat.le_refl _) w2.heap.size [] ⟨ck,cn,cs,la,ln,lc⟩ _ _ W2 C3 (fun j h=>⟨by omega,fun⟨v,h1,h2⟩=>by
   rw[heap_alloc_new]at h1
   cases h1
   cases h2⟩) HC.out.2.1 (by simp;omega))
  have HR:=zhd hr
  clear hr hc C2 C3 W2
  go_wp2_with fail
  refine CY.out.mono ?_
  rintro e w3 ⟨rfl,H3⟩
  rw[List.nil_append]at H3
  have HB3:=zhd (show Below w.heap.size w w3 from(HK.out.alloc (by omega) _).trans (H3.out.2.1.below (B:=w.heap.size) (by simp;omega) (fun k hk e=>e.elim (fun e=>by omega) (fun⟨v,h1,h2⟩=>by
   rw[heap_alloc_new]at h1
   cases h1
   cases h2))))
  have CL:=zhd (len_any w2.heap.size _ _ H3.out.1)
  clear CY
  go_wp2_with fail
  refine CL.out.mono ?_
  rintro e w4 ⟨rfl,rfl⟩
  generalize hn:(bytesV x).length=n at*
  cases hg:decide (512<n)with
  |true=>
   rw[hg]at HR
   have h5:(512:Int)<n:=by have:=of_decide_eq_true hg;omega
   clear hn hg
   go_wp2_with fail
   go_ret
   exact⟨by rw[←HR.out];rfl,HB3.out⟩
  |false=>
   rw[hg]at HR
   have h5:¬(512:Int)<n:=by have:=of_decide_eq_false hg;omega
   clear hn hg
   go_wp2_with fail
   go_ret
   exact⟨by rw[←HR.out];rfl,HB3.out⟩
theorem below4 {w W:World}(h:Below w.heap.size w W)(x0 x1 x2 x3:Value):Below w.heap.size w ((((W.setCell ⟨w.heap.size,0,none⟩ x0).setCell ⟨w.heap.size,1,none⟩ x1).setCell ⟨w.heap.size,2,none⟩ x2).setCell ⟨w.heap.size,3,none⟩ x3):=
 (((h.setCell (Nat.le_refl _) _).setCell (Nat.le_refl _) _).setCell (Nat.le_refl _) _).setCell (Nat.le_refl _) _
def PPost (w:World)(r:Val×Int)(e:Ending)(w':World):Prop:=
 ∃c:VC,e= .returned (.tuple #[.agg #[.int .i64 c.kind,.int .i64 c.n,.string c.s,.slice c.la c.ln c.lc],.int .i64 r.2])∧CF (fun j=>w.heap.size≤j) w' c r.1∧Below w.heap.size w w'
end Go.Proofs.YtakljipkaoahnaaGreatDoor
namespace Go.Va
open Go.Own Go.RowKit
def numberL (s:List UInt8):Option Nat:=
 match Lib.atoiAll s with
 | .ok v=>if 0≤v∧v<100∧Lib.decDigits v.toNat=s then some v.toNat else none
 |_=>none
def quotedL (s:List UInt8):Option ByteArray:=if(parseV s).2=0∧(parseV s).1.kind=2 then some (parseV s).1.txt else none
end Go.Va
namespace Go.Proofs.YtakljipkaoahnaaGreatDoor
open Go.RowKit Go.Own Go.Own.MapTy Go.Va Go.Sort
open Go.Own.Cells (sz enc)
def QUPost (w:World)(r:Option ByteArray)(e:Ending)(w':World):Prop:=
 Below w.heap.size w w'∧match r with
  |some t=>e= .returned (.tuple #[.string t,.bool true])
  |none=>∃t,e= .returned (.tuple #[.string t,.bool false])
def NUPost (w:World)(r:Option Nat)(e:Ending)(w':World):Prop:=
 Below w.heap.size w w'∧match r with
  |some n=>n<100∧e= .returned (.tuple #[.int .i64 n,.bool true])
  |none=>∃n:Int,e= .returned (.tuple #[.int .i64 n,.bool false])
end Go.Proofs.YtakljipkaoahnaaGreatDoor
namespace Go.Va
open Go.Own Go.RowKit
structure In where
 op:Int
 a:Int
instance:Cells In where
 sz:=2
 enc:=fun c=>[.int .i64 c.op,.int .i64 c.a]
 len:=fun _=>rfl
 one:=by
  intro x v hv
  simp at hv
  rcases hv with rfl|rfl<;>rfl
instance:Cells ByteArray where
 sz:=1
 enc:=fun s=>[.string s]
 len:=fun _=>rfl
 one:=by
  intro x v hv
  simp at hv
  subst hv
  rfl
structure Jp where
 at_:Int
 line:Int
 label:ByteArray
instance:Cells Jp where
 sz:=3
 enc:=fun j=>[.int .i64 j.at_,.int .i64 j.line,.string j.label]
 len:=fun _=>rfl
 one:=by
  intro x v hv
  simp at hv
  rcases hv with rfl|rfl|rfl<;>rfl
def SM:MapTy ByteArray Int:=⟨fun s=>.string s,fun n=>.int .i64 n,fun a b h=>by simpa using h⟩
structure RV where
 vc:Value
 vk:Value
 vn:Value
 vj:Value
 pl:Int
 mb:Option Nat
structure RSt where
 code:List In
 consts:List Val
 names:List ByteArray
 places:Int
 labels:List (ByteArray×Int)
 jumps:List Jp
def RO (v:RV)(b j:Nat):Prop:=j=b∨v.mb=some j∨v.vc.ownBlock=some j∨v.vk.ownBlock=some j∨v.vn.ownBlock=some j∨v.vj.ownBlock=some j
structure Sep (v:RV)(b:Nat):Prop where
 m:∀j,v.mb=some j→j≠b
 c:∀j,v.vc.ownBlock=some j→j≠b∧v.mb≠some j
 k:∀j,v.vk.ownBlock=some j→j≠b∧v.mb≠some j∧v.vc.ownBlock≠some j
 n:∀j,v.vn.ownBlock=some j→j≠b∧v.mb≠some j∧v.vc.ownBlock≠some j∧v.vk.ownBlock≠some j
 j:∀j,v.vj.ownBlock=some j→j≠b∧v.mb≠some j∧v.vc.ownBlock≠some j∧v.vk.ownBlock≠some j∧v.vn.ownBlock≠some j
structure RS (W:World)(tr ti tv ts tj:TypeId)(Z:Nat→Prop)(b:Nat)(v:RV)(st:RSt):Prop where
 h:W.heap[b]? =some (.cells #[v.vc,v.vk,v.vn,.int .i64 v.pl,.map v.mb,v.vj] tr (0,0))
 code:RowAt W ti v.vc st.code
 consts:VRow (fun j=>¬RO v b j∧Z j) W tv v.vk st.consts
 names:RowAt W ts v.vn st.names
 jumps:RowAt W tj v.vj st.jumps
 pl:v.pl=st.places
 labels:∀m,v.mb=some m→MapAt SM W m st.labels
 sep:Sep v b
def RK (b:Nat)(v:RV)(W:World)(v':RV)(W':World):Prop:=Keeps (RO v b) W W'∧(∀j,RO v' b j→RO v b j∨W.heap.size≤j)∧v'.mb=v.mb
theorem RK.refl (b:Nat)(v:RV)(W:World):RK b v W v W:=⟨Keeps.refl _ _,fun _ h=>.inl h,rfl⟩
theorem RK.trans {b:Nat}{v v' v'':RV}{W W' W'':World}(h:RK b v W v' W')(k:RK b v' W' v'' W''):RK b v W v'' W'':=by
 refine⟨h.1.trans k.1 (fun j hj e=>(h.2.1 j e).resolve_right (by omega)),fun j hj=> ?_,k.2.2.trans h.2.2⟩
 rcases k.2.1 j hj with h1|h1
 ·exact h.2.1 j h1
 ·exact .inr (Nat.le_trans h.1.size h1)
theorem RK.ext {b:Nat}{v:RV}{W W':World}(K:Below W.heap.size W W'):RK b v W v W':=⟨(zkb (S:=fun _=>False) K).mono (fun _ _ f=>f.elim),fun _ h=>.inl h,rfl⟩
section
variable{W W':World} {tr ti tv ts tj:TypeId} {Z Z':Nat→Prop} {b:Nat} {v:RV} {st:RSt}
theorem RS.lt (R:RS W tr ti tv ts tj Z b v st){j:Nat}(h:RO v b j):j<W.heap.size:=by
 rcases h with rfl|h|h|h|h|h
 ·exact zlt R.h
 ·exact(R.labels j h).lt
 ·exact R.code.lt h
 ·obtain⟨cs,h1,_⟩:=R.consts
  exact h1.lt h
 ·exact R.names.lt h
 ·exact R.jumps.lt h
theorem RS.ext (R:RS W tr ti tv ts tj Z b v st)(K:Below W.heap.size W W'):RS W' tr ti tv ts tj Z b v st:=
 have K0:Keeps (fun _=>False) W W':=zkb K
 ⟨(K.block b (zlt R.h)).trans R.h,R.code.keep K0 (fun _ _ f=>f),R.consts.keep K0 (fun _ _ f=>f) (fun _ _ f=>f),R.names.keep K0 (fun _ _ f=>f),R.jumps.keep K0 (fun _ _ f=>f),R.pl,fun m hm=>(R.labels m hm).keep K0 (fun f=>f),R.sep⟩
theorem RS.setCode (R:RS W tr ti tv ts tj Z b v st){w1:World}{v1:Value}{l1:List In}(hr:RowAt w1 ti v1 l1)(K:Keeps (fun j=>v.vc.ownBlock=some j) W w1)(hf:∀g,v1.ownBlock=some g→v.vc.ownBlock=some g∨W.heap.size≤g):
 RS (w1.setCell ⟨b,0,none⟩ v1) tr ti tv ts tj Z b {v with vc:=v1} {st with code:=l1}∧RK b v W {v with vc:=v1} (w1.setCell ⟨b,0,none⟩ v1):=by
 have hbn:v.vc.ownBlock≠some b:=fun e=>(R.sep.c b e).1 rfl
 have hb:w1.heap[b]? =some (.cells #[v.vc,v.vk,v.vn,.int .i64 v.pl,.map v.mb,v.vj] tr (0,0)):=(K.block b (zlt R.h) hbn).trans R.h
 have KB:Keeps (fun j=>j=b) w1 (w1.setCell ⟨b,0,none⟩ v1):=Keeps.setCell (S:=fun j=>j=b) (p:=⟨b,0,none⟩) (Keeps.refl _ _) (.inl rfl) _
 have K2:Keeps (fun j=>j=b∨v.vc.ownBlock=some j) W (w1.setCell ⟨b,0,none⟩ v1):=(K.mono (fun _ _ e=>.inr e)).trans KB (fun _ _ e=>.inl e)
 have hn:∀j,v1.ownBlock=some j→j≠b∧v.mb≠some j∧v.vk.ownBlock≠some j∧v.vn.ownBlock≠some j∧v.vj.ownBlock≠some j:=fun j hj=>by
  rcases hf j hj with h|h
  ·exact⟨(R.sep.c j h).1,(R.sep.c j h).2,fun e=>(R.sep.k j e).2.2 h,fun e=>(R.sep.n j e).2.2.1 h,fun e=>(R.sep.j j e).2.2.1 h⟩
  ·exact⟨(fun e=>by have:=R.lt (j:=j) (.inl e);omega),(fun e=>by have:=R.lt (j:=j) (.inr (.inl e));omega),(fun e=>by have:=R.lt (j:=j) (.inr (.inr (.inr (.inl e))));omega),(fun e=>by have:=R.lt (j:=j) (.inr (.inr (.inr (.inr (.inl e)))));omega),(fun e=>by have:=R.lt (j:=j) (.inr (.inr (.inr (.inr (.inr e)))));omega)⟩
 have hlt:∀j,RO v b j→j<W.heap.size:=fun j=>R.lt
 have hk2:VRow (fun j=>¬RO {v with vc:=v1} b j∧Z j) (w1.setCell ⟨b,0,none⟩ v1) tv v.vk st.consts:=by
  refine((R.consts.mono (G:=fun j=>(¬RO v b j∧Z j)∧¬v1.ownBlock=some j) (fun j h l=>⟨h,fun e=>(hf j e).elim (fun h1=>h.1 (.inr (.inr (.inl h1)))) (fun h1=>by omega)⟩)).keep K2 (fun g h e=>h.1.1 (e.elim .inl (fun e=>.inr (.inr (.inl e))))) (fun g hg e=>e.elim (R.sep.k g hg).1 (fun e=>(R.sep.k g hg).2.2 e))).mono (fun j h _=>⟨fun e=> ?_,h.1.2⟩)
  rcases e with e|e|e|e|e|e
  ·exact h.1.1 (.inl e)
  ·exact h.1.1 (.inr (.inl e))
  ·exact h.2 e
  ·exact h.1.1 (.inr (.inr (.inr (.inl e))))
  ·exact h.1.1 (.inr (.inr (.inr (.inr (.inl e)))))
  ·exact h.1.1 (.inr (.inr (.inr (.inr (.inr e)))))
 refine⟨⟨by simp[World.setCell,Array.getElem?_modify,hb],hr.keep KB (fun g hg=>(hn g hg).1),hk2,R.names.keep K2 (fun g hg e=>e.elim (R.sep.n g hg).1 (fun e=>(R.sep.n g hg).2.2.1 e)),R.jumps.keep K2 (fun g hg e=>e.elim (R.sep.j g hg).1 (fun e=>(R.sep.j g hg).2.2.1 e)),R.pl,fun m hm=>(R.labels m hm).keep K2 (fun e=>e.elim (R.sep.m m hm) (fun e=>(R.sep.c m e).2 hm)),⟨R.sep.m,fun j hj=>⟨(hn j hj).1,(hn j hj).2.1⟩,fun j hj=>⟨(R.sep.k j hj).1,(R.sep.k j hj).2.1,fun e=>(hn j e).2.2.1 hj⟩,fun j hj=>⟨(R.sep.n j hj).1,(R.sep.n j hj).2.1,fun e=>(hn j e).2.2.2.1 hj,(R.sep.n j hj).2.2.2⟩,fun j hj=>⟨(R.sep.j j hj).1,(R.sep.j j hj).2.1,fun e=>(hn j e).2.2.2.2 hj,(R.sep.j j hj).2.2.2.1,(R.sep.j j hj).2.2.2.2⟩⟩⟩,K2.mono (fun j _ e=>e.elim .inl (fun e=>.inr (.inr (.inl e)))),fun j hj=> ?_,rfl⟩
 rcases hj with e|e|e|e|e|e
 ·exact .inl (.inl e)
 ·exact .inl (.inr (.inl e))
 ·exact(hf j e).elim (fun h1=>.inl (.inr (.inr (.inl h1)))) .inr
 ·exact .inl (.inr (.inr (.inr (.inl e))))
 ·exact .inl (.inr (.inr (.inr (.inr (.inl e)))))
 ·exact .inl (.inr (.inr (.inr (.inr (.inr e)))))
end
def seekN (s:ByteArray):List ByteArray→Nat→Option Nat
 |[],_=>none
 |x::r,i=>bif s.data.toList==x.data.toList then some i else seekN s r (i+1)
def addN (s:ByteArray)(l:List ByteArray):Nat×List ByteArray:=
 match seekN s l 0 with
 |some i=>(i,l)
 |none=>(l.length,l++[s])
def seekV (x:Val):List Val→Nat→Option Nat
 |[],_=>none
 |y::r,i=>bif cmpV x y==0 then some i else seekV x r (i+1)
def addV (x:Val)(l:List Val):Nat×List Val:=
 match seekV x l 0 with
 |some i=>(i,l)
 |none=>(l.length,l++[x])
end Go.Va
namespace Go.Proofs.YtakljipkaoahnaaGreatDoor
open Go.RowKit Go.Own Go.Own.MapTy Go.Va Go.Sort
open Go.Own.Cells (sz enc)
abbrev RX (Z:Nat→Prop)(W:World)(b:Nat)(v:RV)(st:RSt):Prop:=RS W 85 43 39 9 91 Z b v st
def RPost (Z:Nat→Prop)(W:World)(b:Nat)(v:RV)(r:Value)(st:RSt)(e:Ending)(w':World):Prop:=∃v',e= .returned r∧Hid (RX Z w' b v' st∧RK b v W v' w')
theorem elemS:ElemOf ByteArray Tryz.prog 25 9 16:=elem_mk Tryz.underlying25 (z:=.string .empty) (n:=1) (by kernel_rfl) rfl rfl
theorem app_facts {wr w1:World}{X:Obj}{ks:List VC}{z:VC}{a a1:Option Addr}{cap q1 n b B:Nat}{T:TypeId}(hn:ks.length=n)(hr:RowAt w1 T (.slice a1 (n+1) q1) (ks++[z]))(hk:Keeps (fun j=>(Value.slice a n cap).ownBlock=some j) (wr.drew.alloc X) w1)(hf:∀g,(Value.slice a1 (n+1) q1).ownBlock=some g→(Value.slice a n cap).ownBlock=some g∨(wr.drew.alloc X).heap.size≤g)
 (hb:b<wr.heap.size)(hB:B<wr.heap.size)(nb:∀g,(Value.slice a n cap).ownBlock=some g→g≠b∧g≠B):
 ∃g1 off1,a1=some ⟨g1,off1,none⟩∧(w1.cell? ⟨g1,off1+n*4,none⟩=some (.int .i64 z.kind)∧w1.cell? ⟨g1,off1+n*4+1,none⟩=some (.int .i64 z.n)∧w1.cell? ⟨g1,off1+n*4+2,none⟩=some (.string z.s)∧w1.cell? ⟨g1,off1+n*4+3,none⟩=some (.slice z.la z.ln z.lc))∧
  (∀o,w1.frozen? ⟨g1,o,none⟩=false)∧(∀o,w1.cell? ⟨b,o,none⟩=wr.cell? ⟨b,o,none⟩)∧(∀o,w1.frozen? ⟨b,o,none⟩=wr.frozen? ⟨b,o,none⟩)∧(∀o,w1.cell? ⟨B,o,none⟩=wr.cell? ⟨B,o,none⟩)∧(¬g1=b∧¬b=g1∧¬g1=B∧¬B=g1)∧g1<w1.heap.size∧b<w1.heap.size∧B<w1.heap.size:=by
 have hx:(ks++[z])[n]? =some z:=by rw[List.getElem?_append_right (by omega),hn];simp
 obtain⟨g1,off1,rfl,hg1⟩:=hr.addr hx
 have sz:=hk.size
 simp at sz
 have ne:∀g,g<wr.heap.size→(∀g',(Value.slice a n cap).ownBlock=some g'→g'≠g)→g1≠g:=fun g hg h1 e=>by
  rcases hf g1 rfl with h|h
  ·exact h1 _ h e
  ·simp at h;omega
 have n1:=ne b hb (fun g' h=>(nb g' h).1)
 have n2:=ne B hB (fun g' h=>(nb g' h).2)
 have c:=fun(j:Nat) (hj:j<4)=>hr.cell hx (j:=j) hj
 have h0:=c 0 (by decide)
 have h1:=c 1 (by decide)
 have h2:=c 2 (by decide)
 have h3:=c 3 (by decide)
 have old:∀g o,g<wr.heap.size→(∀g',(Value.slice a n cap).ownBlock=some g'→g'≠g)→w1.cell? ⟨g,o,none⟩=wr.cell? ⟨g,o,none⟩:=fun g o hg h=>by
  rw[hk.cell (p:=⟨g,o,none⟩) (by simp;omega) (fun e=>h g e rfl)]
  exact World.cell?_of_block (w:=wr) (Below.heap_alloc _ _ _ hg)
 have oldf:∀g o,g<wr.heap.size→(∀g',(Value.slice a n cap).ownBlock=some g'→g'≠g)→w1.frozen? ⟨g,o,none⟩=wr.frozen? ⟨g,o,none⟩:=fun g o hg h=>by
  rw[hk.frozen (p:=⟨g,o,none⟩) (by simp;omega) (fun e=>h g e rfl)]
  exact World.frozen?_of_block (w:=wr) (Below.heap_alloc _ _ _ hg)
 refine⟨g1,off1,rfl,⟨h0,by rw[Nat.add_assoc];exact h1,by rw[Nat.add_assoc];exact h2,by rw[Nat.add_assoc];exact h3⟩,fun o=>hr.frozen o,fun o=>old b o hb (fun g' h=>(nb g' h).1),fun o=>oldf b o hb (fun g' h=>(nb g' h).1),fun o=>old B o hB (fun g' h=>(nb g' h).2),⟨n1,fun e=>n1 e.symm,n2,fun e=>n2 e.symm⟩,hg1,by omega,by omega⟩
theorem setCell_comm {W:World}{g b o p:Nat}{x y:Value}(h:¬g=b):(W.setCell ⟨b,o,none⟩ x).setCell ⟨g,p,none⟩ y=(W.setCell ⟨g,p,none⟩ y).setCell ⟨b,o,none⟩ x:=by
 simp only[World.setCell]
 congr 1
 refine Array.ext_getElem? fun i=> ?_
 simp only[Array.getElem?_modify]
 by_cases h1:b=i
 ·subst h1
  simp[h]
 ·by_cases h2:g=i
  ·subst h2
   simp[h1]
  ·simp[h1,h2]
def VRel (W:World)(x:Val)(l:List Val)(gk:Nat)(v12:Value)(wr:World):Prop:=
 ∃i:Nat,v12= .int .i64 i∧i≤l.length∧gk=l.length - i∧seekV x (l.drop i) i=seekV x l 0∧Below W.heap.size W wr
def operL (kind line:Int)(s:ByteArray)(st:RSt):Int×Int×RSt:=
 if kind=1 then(if(parseV s.data.toList).2≠0 then(0,(parseV s.data.toList).2,st)else((addV (parseV s.data.toList).1 st.consts).1,0,{st with consts:=(addV (parseV s.data.toList).1 st.consts).2}))else
 if kind=2 then(match quotedL s.data.toList with
  |none=>(0,8,st)
  |some n=>((addN n st.names).1,0,{st with names:=(addN n st.names).2}))else
 if kind=4 then(if labL s.data.toList=true then(0,0,{st with jumps:=st.jumps++[⟨st.code.length,line,s⟩]})else(0,8,st))else
 match numberL s.data.toList with
 |none=>(0,8,st)
 |some n=>(n,0,if kind=3 then{st with places:=max st.places (n+1)}else st)
def OPost (Z:Nat→Prop)(W:World)(b:Nat)(v:RV)(r:Int×Int×RSt)(e:Ending)(w':World):Prop:=∃v',e= .returned (.tuple #[.int .i64 r.1,.int .i64 r.2.1])∧Hid (RX Z w' b v' r.2.2∧RK b v W v' w')
end Go.Proofs.YtakljipkaoahnaaGreatDoor
namespace Go.Va
open Go.Own Go.RowKit Go.Own.MapTy
def trimB (s:ByteArray):ByteArray:=⟨(Lib.trimSuffix s.data.toList [58]).toArray⟩
def isLab (s:ByteArray):Bool:=Lib.hasSuffix s.data.toList [58]&&labL (trimB s).data.toList
def cutN (s:ByteArray):ByteArray:=⟨(Lib.cut (Lib.trimPrefix s.data.toList [32,32]) [32]).1.toArray⟩
def cutR (s:ByteArray):ByteArray:=⟨(Lib.cut (Lib.trimPrefix s.data.toList [32,32]) [32]).2.1.toArray⟩
def cutM (s:ByteArray):Bool:=(Lib.cut (Lib.trimPrefix s.data.toList [32,32]) [32]).2.2
end Go.Va
namespace Go.Proofs.YtakljipkaoahnaaGreatDoor
open Go.RowKit Go.Own Go.Own.MapTy Go.Va Go.Sort
open Go.Own.Cells (sz enc)
def lineL (n:Int)(s:ByteArray)(st:RSt):Int×RSt:=
 if isLab s=true then(if(MapTy.get st.labels (trimB s)).isSome=true then(5,st)else(0,{st with labels:=upd st.labels (trimB s) st.code.length}))else
 if Lib.hasPrefix s.data.toList [32,32]=false then(8,st)else
 match findL (cutN s)with
 |none=>(110,st)
 |some op=>
  if cutM s≠((ofL op).1.operand !=0)then(8,st)else
  if cutM s=true then(if(operL (ofL op).1.operand n (cutR s) st).2.1≠0 then((operL (ofL op).1.operand n (cutR s) st).2.1,(operL (ofL op).1.operand n (cutR s) st).2.2)else
   (0,{(operL (ofL op).1.operand n (cutR s) st).2.2 with code:=(operL (ofL op).1.operand n (cutR s) st).2.2.code++[⟨op,(operL (ofL op).1.operand n (cutR s) st).1⟩]}))else
  (0,{st with code:=st.code++[⟨op,0⟩]})
theorem beqS (x y:ByteArray):(x==y)=decide (x=y):=by
 show(x.data==y.data)=decide (x=y)
 rw[Bool.eq_iff_iff]
 simp[ByteArray.ext_iff]
theorem checkS (n:Nat)(em:Bool)(W:World)(x:ByteArray):(Instr.checkKey em (n+1) 9 (.string x)).run Tryz.prog W= .ok () W:=by simp[Instr.checkKey,go_sem]
theorem slaw:KLaw SM Tryz.prog 9:=KLaw.of_now Tryz.underlying9 (fun W em x=>checkS 9999 em W x) (fun x y=>by simp[SM,Instr.sameNow];exact beqS x y) (fun x=>by simp[SM,Instr.sameBits];exact(beqS x x).trans (by simp))
theorem look_lab {w:World}{b:Nat}{m:List (ByteArray×Int)}(h:MapAt SM w b m)(x:ByteArray):∀W:World,Same w b W→(Instr.lookup 82 (.map (some b)) (.string x) true).run Tryz.prog W= .ok (.tuple #[.int .i64 ((MapTy.get m x).getD 0),.bool (MapTy.get m x).isSome]) W:=by
 intro W hW
 have:=h.lookS slaw Tryz.underlying82 (z:=.int .i64 0) (fun W=>by kernel_rfl) x true W hW
 cases hg:MapTy.get m x with
 |none=>rw[hg]at this;exact this
 |some n=>rw[hg]at this;exact this
def LPost (Z:Nat→Prop)(W:World)(b:Nat)(v:RV)(r:Int×RSt)(e:Ending)(w':World):Prop:=∃v',e= .returned (.int .i64 r.1)∧Hid (RX Z w' b v' r.2∧RK b v W v' w')
theorem elemI:ElemOf In Tryz.prog 23 43 16:=elem_mk Tryz.underlying23 (z:=.agg #[.int .i64 0,.int .i64 0]) (n:=2) (by kernel_rfl) rfl rfl
theorem cut_len (s:ByteArray):(cutR s).size≤s.size∧(cutN s).size≤s.size∧(Lib.trimPrefix s.data.toList [32,32]).length≤s.size:=by
 have e1:(Lib.trimPrefix s.data.toList [32,32]).length≤s.size:=by
  unfold Lib.trimPrefix
  split
  ·simp
  ·simp
 have e2:(cutR s).size=(Lib.cut (Lib.trimPrefix s.data.toList [32,32]) [32]).2.1.length:=by show(Lib.cut (Lib.trimPrefix s.data.toList [32,32]) [32]).2.1.toArray.size=_;simp
 have e3:(cutN s).size=(Lib.cut (Lib.trimPrefix s.data.toList [32,32]) [32]).1.length:=by show(Lib.cut (Lib.trimPrefix s.data.toList [32,32]) [32]).1.toArray.size=_;simp
 rw[e2,e3]
 unfold Lib.cut
 split
 ·simp;omega
 ·simp;omega
theorem line_none {N:Nat}
 {Z:Nat→Prop}(b:Nat)(v:RV)(st:RSt)(n:Int)(s:ByteArray)(W:World)(R:RX Z W b v st)(hs:s.size≤65536)
 (G:Gl Tryz.prog N W)(hA:Lib.hasSuffix s.data.toList [58]=false∨(Lib.hasSuffix s.data.toList [58]=true∧labL (trimB s).data.toList=false))(hp:Lib.hasPrefix s.data.toList [32,32]=true)(op:Nat)(inf:Inf)(hf:findL (cutN s)=some op)(ho:(ofL op).1=inf)(hm:cutM s=false)(hi:(inf.operand !=0)=false)(hc:st.code.length≤65536)(r:Int×RSt)(hr:r=(0,{st with code:=st.code++[⟨op,0⟩]})):
 Calls Tryz.prog 35 #[.pointer (some ⟨b,0,none⟩),.int .i64 n,.string s] W (LPost Z W b v r)
 :=by
 subst hr
 have hcl:=cut_len s
 have CUT:=zhd (show Calls Tryz.prog 85 #[.string ⟨(Lib.trimPrefix s.data.toList [32,32]).toArray⟩,.string ⟨#[32]⟩] W (fun e w'=>e= .returned (.tuple #[.string (cutN s),.string (cutR s),.bool (cutM s)])∧Below W.heap.size W w')from by
  obtain⟨m,hm⟩:=G.m
  have hsz:(⟨(Lib.trimPrefix s.data.toList [32,32]).toArray⟩:ByteArray).size<4294967281:=by
   have e1:(⟨(Lib.trimPrefix s.data.toList [32,32]).toArray⟩:ByteArray).size=(Lib.trimPrefix s.data.toList [32,32]).length:=by show(Lib.trimPrefix s.data.toList [32,32]).toArray.size=_;simp
   rw[e1]
   omega
  exact(Any.strings_Cut Tryz.lays145 ⟨(Lib.trimPrefix s.data.toList [32,32]).toArray⟩ ⟨#[32]⟩ m W hsz hm).mono fun e w' ⟨j1,n,j2⟩=>⟨by rw[j1];unfold cutN cutR cutM;simp,by rw[j2];exact⟨rfl,rfl,rfl,Nat.le_refl _,fun _ _=>rfl⟩⟩)
 rw[hm]at CUT
 have FI:=zhd (show∀w,Calls Tryz.prog 86 #[.string (cutN s)] w (fun e w'=>e= .returned (.tuple #[.int .i64 op,.bool true])∧Below w.heap.size w w')from fun w=>(find_op (cutN s) w).mono fun e w' ⟨j1,j2⟩=>⟨by rw[j1,hf];rfl,j2⟩)
 have OF:=zhd (show∀w,Calls Tryz.prog 73 #[.int .i64 op] w (fun e w'=>e= .returned (.tuple #[.agg #[.string inf.name,.int .i64 inf.operand,.int .i64 inf.i,.int .i64 inf.o,.bool inf.blocks,.bool inf.ends,.bool inf.flow],.bool (ofL op).2])∧Below w.heap.size w w')from fun w=>(of_any op w).mono fun e w' ⟨j1,j2⟩=>⟨by rw[j1,ho];rfl,j2⟩)
 generalize(ofL op).2=ob at*
 clear hf G hcl ho hm
 have CP:=zhd (show∀W,Calls Tryz.prog 84 #[.string s,.string ⟨#[32,32]⟩] W (fun e w'=>e= .returned (.tuple #[.string ⟨(Lib.trimPrefix s.data.toList [32,32]).toArray⟩,.bool true])∧w'=W)from fun W=>(Any.strings_CutPrefix Tryz.lays103 s ⟨#[32,32]⟩ W).mono fun e w' ⟨j1,j2⟩=>⟨by rw[j1,show(⟨#[32,32]⟩:ByteArray).data.toList=[32,32]from rfl,hp],j2⟩)
 rcases hA with hA|⟨hA,hB⟩
 ·skip
  have CSF:=zhd (show∀W,Calls Tryz.prog 33 #[.string s,.string ⟨#[58]⟩] W (fun e w'=>e= .returned (.tuple #[.string (trimB s),.bool false])∧w'=W)from fun W=>(Any.strings_CutSuffix Tryz.lays104 s ⟨#[58]⟩ W (by omega)).mono fun e w' ⟨j1,j2⟩=>⟨by rw[j1,show(⟨#[58]⟩:ByteArray).data.toList=[58]from rfl,hA];rfl,j2⟩)
  clear hA hp
  go_enter Tryz.func35,Tryz.ntmps35
  go_wp2_with fail
  refine(CSF.out _).mono ?_
  rintro e w1 ⟨rfl,hw⟩
  rw[hw]
  clear hw w1
  go_wp2_with fail
  refine(CP.out _).mono ?_
  rintro e w1 ⟨rfl,hw⟩
  rw[hw]
  clear hw w1
  go_wp2_with fail
  refine CUT.out.mono ?_
  rintro e w2 ⟨rfl,hB2⟩
  have HB2:=zhd hB2
  clear hB2
  go_wp2_with fail
  refine(FI.out _).mono ?_
  rintro e w3 ⟨rfl,hB3⟩
  have HB3:=zhd (HB2.out.trans (hB3.mono HB2.out.size))
  clear hB3 HB2
  go_wp2_with fail
  refine(OF.out _).mono ?_
  rintro e w5 ⟨rfl,hB5⟩
  have lt3:w3.heap.size<w5.heap.size:=by have:=hB5.size;simp at this;omega
  have i0:w5.cell? ⟨w3.heap.size,0,none⟩=some (.int .i64 op):=by rw[hB5.cell (p:=⟨w3.heap.size,0,none⟩) (by simp),zch (heap_alloc_new _ _)];rfl
  have i1:w5.cell? ⟨w3.heap.size,1,none⟩=some (.int .i64 0):=by rw[hB5.cell (p:=⟨w3.heap.size,1,none⟩) (by simp),zch (heap_alloc_new _ _)];rfl
  have ifr:∀o,w5.frozen? ⟨w3.heap.size,o,none⟩=false:=fun o=>by rw[hB5.frozen (p:=⟨w3.heap.size,o,none⟩) (by simp),zfr (heap_alloc_new _ _)]
  have HB5:=zhd ((HB3.out.alloc HB3.out.size (.cells #[.int .i64 op,.int .i64 0] 43)).trans (hB5.mono (by have:=HB3.out.size;simp;omega)))
  have s3:W.heap.size≤w3.heap.size:=HB3.out.size
  clear hB5
  obtain⟨w6,hw6⟩:∃w6,w6=w5.alloc (.cells #[.string inf.name,.int .i64 inf.operand,.int .i64 inf.i,.int .i64 inf.o,.bool inf.blocks,.bool inf.ends,.bool inf.flow] 148):=⟨_,rfl⟩
  have BE:Below W.heap.size W w6:=by rw[hw6];exact HB5.out.alloc HB5.out.size _
  have HRX:=zh2 (R.ext BE) (RK.ext (b:=b) (v:=v) BE)
  go_wp2_with fail
  rw[←hw6]
  have i0:w6.cell? ⟨w3.heap.size,0,none⟩=some (.int .i64 op):=by rw[hw6];exact(World.cell?_of_block (w:=w5) (Below.heap_alloc _ _ _ lt3)).trans i0
  have i1:w6.cell? ⟨w3.heap.size,1,none⟩=some (.int .i64 0):=by rw[hw6];exact(World.cell?_of_block (w:=w5) (Below.heap_alloc _ _ _ lt3)).trans i1
  have lt6:w3.heap.size<w6.heap.size:=by rw[hw6];simp;omega
  clear hw6 BE CUT FI OF
  obtain⟨vc,vk,vn,vj,pl,mb⟩:=v
  obtain⟨ca,cc,rfl⟩:∃a cap,vc= .slice a st.code.length cap:=HRX.out.1.code.slice
  have b0:b<w6.heap.size:=zlt HRX.out.1.h
  have c0:=zca HRX.out.1.h 0 rfl
  have f0:∀o,w6.frozen? ⟨b,o,none⟩=false:=fun o=>zfr HRX.out.1.h o
  have NB:=zhd (show∀g,(Value.slice ca st.code.length cc).ownBlock=some g→g≠b from fun g hg=>(HRX.out.1.sep.c g hg).1)
  have HBD:=zhd (show(st.code.length+[(⟨op,0⟩:In)].length)*16≤140737488355328∧st.code.length+[(⟨op,0⟩:In)].length≤maxLen∧st.code.length+[(⟨op,0⟩:In)].length=st.code.length+1 from by unfold maxLen;simp;omega)
  go_region_law
   ((refine step_apps (α:=In) (o:=⟨some 105,_,_,_,_,_⟩) elemI (by rfl) (.tmp 102) (.tmp 104) (by rfl) (v:=.slice ca st.code.length cc) (u:=.slice (some ⟨w6.heap.size,0,none⟩) 1 1) (by rfl) (by rfl) (xs:=st.code) (ys:=[⟨op,0⟩]) ((HRX.out.1.code.drew).alloc _) (RowAt.lit (α:=In) (y:=⟨op,0⟩) (heap_alloc_new _ _)) HBD.out.1 HBD.out.2.1 (st.code.length+1) HBD.out.2.2 ?_;intro a1 cp w9 hr1 hk1 hf1;have hb1:=(hk1.block b (by simp;omega) (fun e=>NB.out b e rfl)).trans ((Below.heap_alloc w6.drew _ _ b0).trans HRX.out.1.h);have y1:w9.cell? ⟨b,0,none⟩=some (.slice ca st.code.length cc):=by{rw[zch hb1];rfl};have y3:∀o,w9.frozen? ⟨b,o,none⟩=false:=fun o=>zfr hb1 o;have b1:b<w9.heap.size:=zlt hb1;have FF:=zh3 hr1 hk1 hf1;clear hr1 hk1 hf1 hb1))
  all_goals
   have S:=(HRX.out.1.ext (((Below.refl _ w6).drew).alloc (Nat.le_refl _) (.cells #[.int .i64 op,.int .i64 0] 43))).setCode FF.out.1 FF.out.2.1 FF.out.2.2
   have HS:=zhd S
   clear S
   go_wp2_with fail
   go_ret
   exact⟨_,rfl,zhd ⟨HS.out.1,HRX.out.2.trans ((RK.ext (((Below.refl _ w6).drew).alloc (Nat.le_refl _) _)).trans HS.out.2)⟩⟩
 ·skip
  have CSF:=zhd (show∀W,Calls Tryz.prog 33 #[.string s,.string ⟨#[58]⟩] W (fun e w'=>e= .returned (.tuple #[.string (trimB s),.bool true])∧w'=W)from fun W=>(Any.strings_CutSuffix Tryz.lays104 s ⟨#[58]⟩ W (by omega)).mono fun e w' ⟨j1,j2⟩=>⟨by rw[j1,show(⟨#[58]⟩:ByteArray).data.toList=[58]from rfl,hA];rfl,j2⟩)
  have htl:(trimB s).size≤65536:=by
   have e1:(trimB s).size=(Lib.trimSuffix s.data.toList [58]).length:=by show(Lib.trimSuffix s.data.toList [58]).toArray.size=_;simp
   rw[e1]
   unfold Lib.trimSuffix
   split
   ·simp;omega
   ·simp;omega
  have LAB:=zhd (show∀W,Calls Tryz.prog 83 #[.string (trimB s)] W (fun e w'=>e= .returned (.bool false)∧w'=W)from fun W=>(label_any (trimB s) W (by omega)).mono fun e w' ⟨j1,j2⟩=>⟨by rw[j1,hB],j2⟩)
  clear htl
  clear hA hB hp
  go_enter Tryz.func35,Tryz.ntmps35
  go_wp2_with fail
  refine(CSF.out _).mono ?_
  rintro e w1 ⟨rfl,hw⟩
  rw[hw]
  clear hw w1
  go_wp2_with fail
  refine(LAB.out _).mono ?_
  rintro e w1 ⟨rfl,hw⟩
  rw[hw]
  clear hw w1
  go_wp2_with fail
  refine(CP.out _).mono ?_
  rintro e w1 ⟨rfl,hw⟩
  rw[hw]
  clear hw w1
  go_wp2_with fail
  refine CUT.out.mono ?_
  rintro e w2 ⟨rfl,hB2⟩
  have HB2:=zhd hB2
  clear hB2
  go_wp2_with fail
  refine(FI.out _).mono ?_
  rintro e w3 ⟨rfl,hB3⟩
  have HB3:=zhd (HB2.out.trans (hB3.mono HB2.out.size))
  clear hB3 HB2
  go_wp2_with fail
  refine(OF.out _).mono ?_
  rintro e w5 ⟨rfl,hB5⟩
  have lt3:w3.heap.size<w5.heap.size:=by have:=hB5.size;simp at this;omega
  have i0:w5.cell? ⟨w3.heap.size,0,none⟩=some (.int .i64 op):=by rw[hB5.cell (p:=⟨w3.heap.size,0,none⟩) (by simp),zch (heap_alloc_new _ _)];rfl
  have i1:w5.cell? ⟨w3.heap.size,1,none⟩=some (.int .i64 0):=by rw[hB5.cell (p:=⟨w3.heap.size,1,none⟩) (by simp),zch (heap_alloc_new _ _)];rfl
  have ifr:∀o,w5.frozen? ⟨w3.heap.size,o,none⟩=false:=fun o=>by rw[hB5.frozen (p:=⟨w3.heap.size,o,none⟩) (by simp),zfr (heap_alloc_new _ _)]
  have HB5:=zhd ((HB3.out.alloc HB3.out.size (.cells #[.int .i64 op,.int .i64 0] 43)).trans (hB5.mono (by have:=HB3.out.size;simp;omega)))
  have s3:W.heap.size≤w3.heap.size:=HB3.out.size
  clear hB5
  obtain⟨w6,hw6⟩:∃w6,w6=w5.alloc (.cells #[.string inf.name,.int .i64 inf.operand,.int .i64 inf.i,.int .i64 inf.o,.bool inf.blocks,.bool inf.ends,.bool inf.flow] 148):=⟨_,rfl⟩
  have BE:Below W.heap.size W w6:=by rw[hw6];exact HB5.out.alloc HB5.out.size _
  have HRX:=zh2 (R.ext BE) (RK.ext (b:=b) (v:=v) BE)
  go_wp2_with fail
  rw[←hw6]
  have i0:w6.cell? ⟨w3.heap.size,0,none⟩=some (.int .i64 op):=by rw[hw6];exact(World.cell?_of_block (w:=w5) (Below.heap_alloc _ _ _ lt3)).trans i0
  have i1:w6.cell? ⟨w3.heap.size,1,none⟩=some (.int .i64 0):=by rw[hw6];exact(World.cell?_of_block (w:=w5) (Below.heap_alloc _ _ _ lt3)).trans i1
  have lt6:w3.heap.size<w6.heap.size:=by rw[hw6];simp;omega
  clear hw6 BE CUT FI OF
  obtain⟨vc,vk,vn,vj,pl,mb⟩:=v
  obtain⟨ca,cc,rfl⟩:∃a cap,vc= .slice a st.code.length cap:=HRX.out.1.code.slice
  have b0:b<w6.heap.size:=zlt HRX.out.1.h
  have c0:=zca HRX.out.1.h 0 rfl
  have f0:∀o,w6.frozen? ⟨b,o,none⟩=false:=fun o=>zfr HRX.out.1.h o
  have NB:=zhd (show∀g,(Value.slice ca st.code.length cc).ownBlock=some g→g≠b from fun g hg=>(HRX.out.1.sep.c g hg).1)
  have HBD:=zhd (show(st.code.length+[(⟨op,0⟩:In)].length)*16≤140737488355328∧st.code.length+[(⟨op,0⟩:In)].length≤maxLen∧st.code.length+[(⟨op,0⟩:In)].length=st.code.length+1 from by unfold maxLen;simp;omega)
  go_region_law
   ((refine step_apps (α:=In) (o:=⟨some 105,_,_,_,_,_⟩) elemI (by rfl) (.tmp 102) (.tmp 104) (by rfl) (v:=.slice ca st.code.length cc) (u:=.slice (some ⟨w6.heap.size,0,none⟩) 1 1) (by rfl) (by rfl) (xs:=st.code) (ys:=[⟨op,0⟩]) ((HRX.out.1.code.drew).alloc _) (RowAt.lit (α:=In) (y:=⟨op,0⟩) (heap_alloc_new _ _)) HBD.out.1 HBD.out.2.1 (st.code.length+1) HBD.out.2.2 ?_;intro a1 cp w9 hr1 hk1 hf1;have hb1:=(hk1.block b (by simp;omega) (fun e=>NB.out b e rfl)).trans ((Below.heap_alloc w6.drew _ _ b0).trans HRX.out.1.h);have y1:w9.cell? ⟨b,0,none⟩=some (.slice ca st.code.length cc):=by{rw[zch hb1];rfl};have y3:∀o,w9.frozen? ⟨b,o,none⟩=false:=fun o=>zfr hb1 o;have b1:b<w9.heap.size:=zlt hb1;have FF:=zh3 hr1 hk1 hf1;clear hr1 hk1 hf1 hb1))
  all_goals
   have S:=(HRX.out.1.ext (((Below.refl _ w6).drew).alloc (Nat.le_refl _) (.cells #[.int .i64 op,.int .i64 0] 43))).setCode FF.out.1 FF.out.2.1 FF.out.2.2
   have HS:=zhd S
   clear S
   go_wp2_with fail
   go_ret
   exact⟨_,rfl,zhd ⟨HS.out.1,HRX.out.2.trans ((RK.ext (((Below.refl _ w6).drew).alloc (Nat.le_refl _) _)).trans HS.out.2)⟩⟩
theorem operL_code (kind line:Int)(s:ByteArray)(st:RSt):(operL kind line s st).2.2.code=st.code:=by
 unfold operL
 split
 ·split<;>rfl
 ·split
  ·split<;>rfl
  ·split
   ·split<;>rfl
   ·split
    ·rfl
    ·dsimp only
     split<;>rfl
end Go.Proofs.YtakljipkaoahnaaGreatDoor
