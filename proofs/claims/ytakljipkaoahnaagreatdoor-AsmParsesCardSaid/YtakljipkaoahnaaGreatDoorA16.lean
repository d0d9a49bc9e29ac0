/- Parts of the proof: what the functions and the plain laws give that later parts lean on. Conditions: none beyond those that each theorem names. -/
import Derived.Lib.ItoaLen
import Derived.Test.YtakljipkaoahnaaGreatDoorA15
set_option maxRecDepth 100000
set_option maxHeartbeats 8000000
namespace Go.Va
open Go.Own Go.RowKit Go.Own.MapTy
abbrev LM:MapTy Int ByteArray:=IM ByteArray (fun s=>.string s)
def itoaB (n:Int):ByteArray:=⟨(Lib.itoa n).toArray⟩
theorem itoaB_size {n:Int}(h0: -9223372036854775808≤n)(h1:n≤9223372036854775807):(itoaB n).size≤21:=by
 have:=Lib.itoa_length_le n h0 h1
 show(Lib.itoa n).toArray.size≤21
 simpa using this
def labName (n:Nat):ByteArray:=⟨#[108]⟩++itoaB (n:Int)
def lab1:List (Int×ByteArray)→List In→List (Int×ByteArray)
 |m,[]=>m
 |m,c::r=>lab1 (bif (ofL c.op).1.operand==4 then upd m c.a ⟨#[]⟩else m) r
def lab2:List (Int×ByteArray)→Nat→Nat→Nat→List (Int×ByteArray)
 |m,_,_,0=>m
 |m,i,n,f+1=>bif (MapTy.get m (i:Int)).isSome then lab2 (upd m (i:Int) (labName (n+1))) (i+1) (n+1) f else lab2 m (i+1) n f
def labsL (code:List In):List (Int×ByteArray):=lab2 (lab1 [] code) 0 0 code.length
end Go.Va
namespace Go.Proofs.YtakljipkaoahnaaGreatDoor
open Go.RowKit Go.Own Go.Own.MapTy Go.Va Go.Sort
open Go.Own.Cells (sz enc)
theorem itoa_anyB {N:Nat}(n:Int)(h0: -9223372036854775808≤n)(h1:n≤9223372036854775807)(w:World)(G:Gl Tryz.prog N w):
 Calls Tryz.prog 76 #[.int .i64 n] w fun e w'=>e= .returned (.string (itoaB n))∧Below w.heap.size w w':=itoa_any n h0 h1 w G
theorem checkI (n:Nat)(em:Bool)(W:World)(x:Int):(Instr.checkKey em (n+1) 3 (.int .i64 x)).run Tryz.prog W= .ok () W:=by simp[Instr.checkKey,go_sem]
theorem lmlaw:KLaw LM Tryz.prog 3:=IM.klaw Tryz.underlying3 (fun W em x=>checkI 9999 em W x)
theorem look_nm {w:World}{b:Nat}{m:List (Int×ByteArray)}(h:MapAt LM w b m)(x:Int):∀W:World,Same w b W→(Instr.lookup 137 (.map (some b)) (.int .i64 x) true).run Tryz.prog W= .ok (.tuple #[.string ((MapTy.get m x).getD ⟨#[]⟩),.bool (MapTy.get m x).isSome]) W:=by
 intro W hW
 have:=h.lookS lmlaw Tryz.underlying137 (z:=.string ⟨#[]⟩) (fun W=>by kernel_rfl) x true W hW
 cases hg:MapTy.get m x with
 |none=>rw[hg]at this;exact this
 |some n=>rw[hg]at this;exact this
theorem look_nm1 {w:World}{b:Nat}{m:List (Int×ByteArray)}(h:MapAt LM w b m)(x:Int):∀W:World,Same w b W→(Instr.lookup 137 (.map (some b)) (.int .i64 x) false).run Tryz.prog W= .ok (.string ((MapTy.get m x).getD ⟨#[]⟩)) W:=by
 intro W hW
 have:=h.lookS lmlaw Tryz.underlying137 (z:=.string ⟨#[]⟩) (fun W=>by kernel_rfl) x false W hW
 cases hg:MapTy.get m x with
 |none=>rw[hg]at this;exact this
 |some n=>rw[hg]at this;exact this
def LbPost (w:World)(code:List In)(e:Ending)(w':World):Prop:=∃mb,e= .returned (.map (some mb))∧w.heap.size≤mb∧Hid (MapAt LM w' mb (labsL code)∧Below w.heap.size w w')
theorem labels_any {N:Nat}(F:Nat→Prop)(w:World)(i:IC)(p:Img)(H:IAt F w i p)(G:Gl Tryz.prog N w)(hc:p.code.length≤65536):
  Calls Tryz.prog 71 #[.agg #[.slice i.ca i.cn i.cc,.slice i.ka i.kn i.kc,.slice i.na i.nn i.nc,.int .i64 i.pl]] w (LbPost w p.code):=by
 obtain⟨ca,cn,cc,ka,kn,kc,na,nn,nc,pl⟩:=i
 have hl:=H.lens.1
 dsimp only at hl
 have HE:=zh4 H.code.elems hl hc G
 clear H hl hc G
 dsimp only
 have _hmm:= @run_makeMap Tryz.prog
 go_enter Tryz.func71,Tryz.ntmps71
 go_wp2_with fail
 obtain⟨w1,hw1⟩:∃w1,w1=(w.alloc (.cells #[.slice ca cn cc,.slice ka kn kc,.slice na nn nc,.int .i64 pl] 27)).alloc (.map #[] 0):=⟨_,rfl⟩
 rw[←hw1]
 have sz1:w1.heap.size=w.heap.size+2:=by rw[hw1];simp
 have B1:Below w.heap.size w w1:=by rw[hw1];exact(zal).alloc (by simp) _
 have M1:MapAt LM w1 (w.heap.size+1) []:=by rw[hw1];have:=MapAt.made (w.alloc (.cells #[.slice ca cn cc,.slice ka kn kc,.slice na nn nc,.int .i64 pl] 27)) LM;simpa using this
 have q0:w1.cell? ⟨w.heap.size,0,none⟩=some (.slice ca cn cc):=by rw[hw1,zch ((Below.heap_alloc (w.alloc (.cells #[.slice ca cn cc,.slice ka kn kc,.slice na nn nc,.int .i64 pl] 27)) _ w.heap.size (by simp)).trans (heap_alloc_new _ _))];rfl
 have H1:=zh4 sz1 B1 M1 q0
 clear hw1 sz1 B1 M1
 go_wp2_with fail
 go_loopg [16] (cn) (fun gk v16 wr=>∃i:Nat,v16= .int .i64 i∧i≤cn∧gk=cn - i∧Hid (∃m,MapAt LM wr (w.heap.size+1) m∧lab1 m (p.code.drop i)=lab1 [] p.code∧Keeps (fun j=>j=w.heap.size+1) w1 wr))
 case atStart=>exact⟨0,rfl,Nat.zero_le _,rfl,zhd ⟨_,H1.out.2.2.1,rfl,Keeps.refl _ _⟩⟩
 case round=>
  obtain⟨k,rfl,hk,hgk,HR⟩:=hrel
  obtain⟨m,HM⟩:=HR.out
  have HM:=zhd HM
  have szr:=HM.out.2.2.size
  have HGK:=zhd hgk
  have lt1:w.heap.size+1<wr.heap.size:=by have:=H1.out.1;omega
  have BW:Below w.heap.size w wr:=H1.out.2.1.trans (HM.out.2.2.below (by have:=H1.out.1;omega) (fun j hj e=>by omega))
  have HBW:=zhd BW
  clear HR hgk szr BW
  by_cases hkn:k<cn
  ·obtain⟨c,hx⟩:=elem_at (l:=p.code) (k:=k) (by have:=HE.out.2.1;omega)
   have hdr:p.code.drop k=c::p.code.drop (k+1):=by
    rw[List.drop_eq_getElem_cons (zge hx).1,(zge hx).2]
   have hla:=HM.out.2.1
   rw[hdr,lab1]at hla
   obtain⟨g,off,ha,hel⟩:=HE.out.1.2.2
   obtain⟨hFg,hg,hcs⟩:=hel k c hx
   have ha:=ha.resolve_right (fun e=>by rw[e]at hx;simp at hx)
   subst ha
   have m0:=hcs 0 _ rfl
   have m1:=hcs 1 _ rfl
   rw[show off+(k*sz In+0)=off+k*2 from rfl,←HBW.out.cell (p:=⟨g,_,none⟩) hg]at m0
   rw[show off+(k*sz In+1)=off+k*2+1 from rfl,←HBW.out.cell (p:=⟨g,_,none⟩) hg]at m1
   have hkn':(k:Int)<cn:=by omega
   have wk:wrap64 ((k:Int)+1)=(k:Int)+1:=by have:=HE.out.2.1;have:=HE.out.2.2.1;unfold wrap64;omega
   obtain⟨inf,ok,hof⟩:∃inf ok,ofL c.op=(inf,ok):=⟨_,_,rfl⟩
   rw[hof]at hla
   have OF:=zhd (fun W=>of_rule c.op inf ok hof W)
   obtain⟨cop,cav⟩:=c
   dsimp only at m0 m1 OF hla hof
   have HLA:=zhd hla
   clear hcs hel hdr hx hla hof
   go_wp2_with fail
   refine(OF.out _).mono ?_
   rintro e w5 ⟨rfl,hB5⟩
   have lt5:wr.heap.size<w5.heap.size:=by have:=hB5.size;simp at this;omega
   have i0:w5.cell? ⟨wr.heap.size,0,none⟩=some (.int .i64 cop):=by rw[hB5.cell (p:=⟨wr.heap.size,0,none⟩) (by simp),zch (heap_alloc_new _ _)];rfl
   have i1:w5.cell? ⟨wr.heap.size,1,none⟩=some (.int .i64 cav):=by rw[hB5.cell (p:=⟨wr.heap.size,1,none⟩) (by simp),zch (heap_alloc_new _ _)];rfl
   have B5:Below wr.heap.size wr w5:=((Below.refl _ _).alloc (Nat.le_refl _) (.cells #[.int .i64 cop,.int .i64 cav] 43)).trans (hB5.mono (by simp))
   have M5:MapAt LM w5 (w.heap.size+1) m:=HM.out.1.keep (S:=fun _=>False) (zkb B5) (fun f=>f)
   have lt5b:w.heap.size+1<w5.heap.size:=by omega
   have HB5:=zhd B5
   obtain⟨o,hup,hmap⟩:=MapAt.store M5 lmlaw Tryz.underlying137 cav (⟨#[]⟩:ByteArray)
   have HMO:=zh2 M5 hmap
   replace hup:∀X:World,Same w5 (w.heap.size+1) X→(Instr.mapUpdate 137 (.map (some (w.heap.size+1))) (.int .i64 cav) (.string ⟨#[]⟩)).run Tryz.prog X= .ok () (setBlock X (w.heap.size+1) o):=hup
   clear hB5 OF B5 M5 hmap
   cases h4:(inf.operand==4)with
   |false=>
    have hla:=HLA.out
    rw[h4]at hla
    simp only[cond_false]at hla
    have HL2:=zhd hla
    clear hla hup HLA
    go_wp2_with fail
    go_roundg (cn - (k+1))
    case measure=>have:=HGK.out;omega
    case rel=>
     refine⟨k+1,by simp[wk],by omega,rfl,zhd ⟨m,(HMO.out.1.keep (S:=fun _=>False) ((Keeps.refl _ _).alloc _) (fun f=>f)),HL2.out,?_⟩⟩
     exact(HM.out.2.2.trans (zkb (S:=fun _=>False) HB5.out) (fun _ _ f=>f.elim)).alloc _
   |true=>
    have hla:=HLA.out
    rw[h4]at hla
    simp only[cond_true]at hla
    have HL2:=zhd hla
    clear hla HLA
    go_wp2_with fail
    go_roundg (cn - (k+1))
    case measure=>have:=HGK.out;omega
    case rel=>
     refine⟨k+1,by simp[wk],by omega,rfl,zhd ⟨_,HMO.out.2 _ (setBlock_same _ _ _ (by simp;omega)),HL2.out,?_⟩⟩
     exact((HM.out.2.2.trans (zkb (S:=fun _=>False) HB5.out) (fun _ _ f=>f.elim)).alloc _).setBlock (b:=w.heap.size+1) (.inl rfl) o
  ·obtain rfl:k=cn:=by omega
   have hdn:p.code.drop k=[]:=List.drop_eq_nil_of_le (by have:=HE.out.2.1;omega)
   have hla:=HM.out.2.1
   rw[hdn,lab1]at hla
   subst hla
   obtain⟨wo,rfl⟩:∃wo:World,wo=wr:=⟨_,rfl⟩
   have q0:wo.cell? ⟨w.heap.size,0,none⟩=some (.slice ca k cc):=by rw[HM.out.2.2.cell (p:=⟨w.heap.size,0,none⟩) (by show w.heap.size<w1.heap.size;have:=H1.out.1;omega) (by show¬w.heap.size=w.heap.size+1;omega)];exact H1.out.2.2.2
   clear hdn hkn hk
   go_wp2_with fail
   go_loopg [8,36] (k) (fun gk v8 v36 wr=>∃i n:Nat,v8= .int .i64 n∧v36= .int .i64 i∧i≤k∧n≤i∧gk=k - i∧Hid (∃m,MapAt LM wr (w.heap.size+1) m∧lab2 m i n (k - i)=labsL p.code∧Keeps (fun j=>j=w.heap.size+1) w1 wr))
   case atStart=>exact⟨0,0,rfl,rfl,Nat.zero_le _,Nat.zero_le _,rfl,zhd ⟨_,HM.out.1,by unfold labsL;rw[HE.out.2.1];rfl,HM.out.2.2⟩⟩
   case round=>
    clear HM
    obtain⟨j,n,rfl,rfl,hj,hn,hgk,HR⟩:=hrel
    obtain⟨m,HM⟩:=HR.out
    have HM:=zhd HM
    have szr:=HM.out.2.2.size
    have HGK:=zh3 hgk hj hn
    have lt1:w.heap.size+1<wr.heap.size:=by have:=H1.out.1;omega
    clear HR hgk szr
    by_cases hjk:j<k
    ·have hjk':(j:Int)<k:=by omega
     have wj:wrap64 ((j:Int)+1)=(j:Int)+1:=by have:=HE.out.2.1;have:=HE.out.2.2.1;unfold wrap64;omega
     have hla:=HM.out.2.1
     rw[show k - j=(k - (j+1))+1 from by omega,lab2]at hla
     have hlook:=look_nm HM.out.1 (j:Int)
     have wn:IntKind.i64.wrap ((n:Int)+1)=(n:Int)+1:=by have:=HE.out.2.1;have:=HE.out.2.2.1;unfold IntKind.wrap;simp[IntKind.bits,IntKind.signed];omega
     have wn2:wrap64 ((n:Int)+1)=(n:Int)+1:=by have:=HE.out.2.1;have:=HE.out.2.2.1;unfold wrap64;omega
     have hn1:=HE.out.2.1
     have hn2:=HE.out.2.2.1
     have BW:Below w.heap.size w wr:=H1.out.2.1.trans (HM.out.2.2.below (by have:=H1.out.1;omega) (fun j hj e=>by omega))
     have hz:(itoaB ((n:Int)+1)).size≤21:=itoaB_size (by omega) (by omega)
     have CI:=zhd (fun W (K:Below w.heap.size w W)=>itoa_anyB ((n:Int)+1) (by omega) (by omega) W (HE.out.2.2.2.below K))
     have HBW:=zhd BW
     clear hn1 hn2 BW
     cases hg:(MapTy.get m (j:Int)).isSome with
     |false=>
      rw[hg]at hla hlook
      simp only[cond_false]at hla
      have HLA:=zhd hla
      clear hla hg
      go_wp2_with fail
      go_roundg (k - (j+1))
      case measure=>have:=HGK.out;omega
      case rel=>exact⟨j+1,n,rfl,by simp[wj],by omega,by have:=HGK.out;omega,rfl,zhd ⟨m,HM.out.1,HLA.out,HM.out.2.2⟩⟩
     |true=>
      rw[hg]at hla hlook
      simp only[cond_true]at hla
      have HLA:=zhd hla
      clear hla hg
      go_wp2_with fail
      refine(CI.out _ HBW.out).mono ?_
      rintro e w5 ⟨rfl,hB5⟩
      have M5:MapAt LM w5 (w.heap.size+1) m:=HM.out.1.keep (S:=fun _=>False) (zkb hB5) (fun f=>f)
      have lt5b:w.heap.size+1<w5.heap.size:=by have:=hB5.size;omega
      obtain⟨o,hup,hmap⟩:=MapAt.store M5 lmlaw Tryz.underlying137 (j:Int) (labName (n+1))
      have HMO:=zh3 M5 hmap hB5
      replace hup:∀X:World,Same w5 (w.heap.size+1) X→(Instr.mapUpdate 137 (.map (some (w.heap.size+1))) (.int .i64 (j:Int)) (.string (⟨#[108]⟩++itoaB ((n:Int)+1)))).run Tryz.prog X= .ok () (setBlock X (w.heap.size+1) o):=hup
      clear hmap hB5 M5 hlook
      go_wp2_with fail
      go_roundg (k - (j+1))
      case measure=>have:=HGK.out;omega
      case rel=>
       refine⟨j+1,n+1,by simp,by simp[wj],by omega,by have:=HGK.out;omega,rfl,zhd ⟨_,HMO.out.2.1 _ (setBlock_same _ _ _ lt5b),HLA.out,?_⟩⟩
       exact(HM.out.2.2.trans (zkb (S:=fun _=>False) HMO.out.2.2) (fun _ _ f=>f.elim)).setBlock (b:=w.heap.size+1) (.inl rfl) o
    ·obtain rfl:j=k:=by omega
     have hla:=HM.out.2.1
     rw[Nat.sub_self,lab2]at hla
     subst hla
     go_wp2_with fail
     go_ret
     exact⟨_,rfl,by omega,zhd ⟨HM.out.1,H1.out.2.1.trans (HM.out.2.2.below (by have:=H1.out.1;omega) (fun j hj e=>by omega))⟩⟩
end Go.Proofs.YtakljipkaoahnaaGreatDoor
namespace Go.Va
open Go.Own Go.RowKit Go.Own.MapTy
def quoteB (s:ByteArray):ByteArray:=⟨(quoteL s.data.toList).toArray⟩
def joinB (l:List ByteArray):ByteArray:=⟨(Lib.join (l.map (·.data.toList)) (⟨#[32]⟩:ByteArray).data.toList).toArray⟩
def printV:Val→ByteArray
 | .mk k n s l=>bif k==1 then itoaB n else bif k==2 then quoteB s else bif k==3 then(⟨#[91]⟩++joinB (printsL l))++⟨#[93]⟩else⟨#[110,105,108]⟩
where printsL:List Val→List ByteArray
 |[]=>[]
 |x::r=>printV x::printsL r
theorem printV_eq (x:Val):printV x=bif x.kind==1 then itoaB x.num else bif x.kind==2 then quoteB x.txt else bif x.kind==3 then(⟨#[91]⟩++joinB (printV.printsL x.list))++⟨#[93]⟩else⟨#[110,105,108]⟩:=by
 cases x
 rw[printV]
 rfl
theorem printsL_map (l:List Val):printV.printsL l=l.map printV:=by
 induction l with
 |nil=>rw[printV.printsL];rfl
 |cons x r ih=>rw[printV.printsL,ih];rfl
def szV:Val→Nat
 | .mk k _ s l=>bif k==2 then 4*s.size+30 else bif k==3 then szL l+30 else 30
where szL:List Val→Nat
 |[]=>0
 |x::r=>1+szV x+szL r
theorem szV_eq (x:Val):szV x=bif x.kind==2 then 4*x.txt.size+30 else bif x.kind==3 then szV.szL x.list+30 else 30:=by
 cases x
 rw[szV]
 rfl
theorem szL_mem {x:Val}:∀{l:List Val},x∈l→szV x≤szV.szL l
 |[],h=>by cases h
 |y::r,h=>by
  rw[szV.szL]
  rcases List.mem_cons.1 h with rfl|h
  ·omega
  ·have:=szL_mem h;omega
theorem szL_len (l:List Val):l.length≤szV.szL l:=by
 induction l with
 |nil=>simp
 |cons x r ih=>rw[szV.szL];simp;omega
theorem quoteB_size (s:ByteArray):(quoteB s).size≤4*s.size+2:=by
 show(quoteL s.data.toList).toArray.size≤_
 have:=esc_all s.data.toList
 simp[quoteL]at this⊢
 omega
theorem join_len (l:List (List UInt8)):(Lib.join l [32]).length≤(l.map (fun x=>x.length+1)).sum:=by
 unfold Lib.join
 induction l with
 |nil=>simp[List.intercalate]
 |cons x r ih=>
  cases r with
  |nil=>simp[List.intercalate]
  |cons y r=>
   rw[show List.intercalate [32] (x::y::r)=x++([32]++List.intercalate [32] (y::r))from by simp[List.intercalate,List.intersperse]]
   simp at ih⊢
   omega
theorem itoaB_wf {n:Int}(h: -9223372036854775808≤n∧n≤9223372036854775807):(itoaB n).size≤21:=itoaB_size h.1 h.2
theorem wfL_mem {x:Val}:∀{l:List Val},Val.wf.wfL l→x∈l→x.wf
 |[],_,h=>by cases h
 |y::r,hw,h=>by
  rw[Val.wf.wfL]at hw
  rcases List.mem_cons.1 h with rfl|h
  ·exact hw.1
  ·exact wfL_mem hw.2 h
mutual
theorem printV_size:∀x:Val,x.wf→(printV x).size≤szV x
 | .mk k n s l,hw=>by
   rw[printV,szV]
   rw[Val.wf]at hw
   cases h1:(k==1)with
   |true=>
    have:=itoaB_wf hw.2.1
    have hk:k=1:=by simpa using h1
    subst hk
    simp
    omega
   |false=>
    cases h2:(k==2)with
    |true=>have:=quoteB_size s;simp;omega
    |false=>
     cases h3:(k==3)with
     |true=>
      have h:=printsL_size l hw.2.2.2
      have hj:(joinB (printV.printsL l)).size≤((printV.printsL l).map (fun x=>x.size+1)).sum:=by
       show(Lib.join _ _).toArray.size≤_
       have:=join_len ((printV.printsL l).map (·.data.toList))
       simp[Function.comp_def]at this⊢
       exact this
      simp only[cond_false,cond_true,ByteArray.size_append]
      have a1:(⟨#[91]⟩:ByteArray).size=1:=rfl
      have a2:(⟨#[93]⟩:ByteArray).size=1:=rfl
      omega
     |false=>simp only[cond_false];show 3≤30;omega
theorem printsL_size:∀l:List Val,Val.wf.wfL l→((printV.printsL l).map (fun x=>x.size+1)).sum≤szV.szL l
 |[],_=>by rw[printV.printsL,szV.szL];simp
 |x::r,hw=>by
  rw[Val.wf.wfL]at hw
  rw[printV.printsL,szV.szL]
  have h1:=printV_size x hw.1
  have h2:=printsL_size r hw.2
  simp
  omega
end
theorem joinB_size (l:List Val)(hw:Val.wf.wfL l):(joinB (printV.printsL l)).size≤szV.szL l:=by
 have h:=printsL_size l hw
 have hj:(joinB (printV.printsL l)).size≤((printV.printsL l).map (fun x=>x.size+1)).sum:=by
  show(Lib.join _ _).toArray.size≤_
  have:=join_len ((printV.printsL l).map (·.data.toList))
  simp[Function.comp_def]at this⊢
  exact this
 omega
end Go.Va
namespace Go.Proofs.YtakljipkaoahnaaGreatDoor
open Go.RowKit Go.Own Go.Own.MapTy Go.Va Go.Sort
open Go.Own.Cells (sz enc)
theorem extraJ:Builder.Extra Tryz.prog Tryz.lays156_ren:=⟨⟨by kernel_rfl,by kernel_rfl⟩,Tryz.underlying5,Tryz.isAgg5,Tryz.sizeOf5,Tryz.zeroValue5,by kernel_rfl,by kernel_rfl,by kernel_rfl,by decide⟩
theorem join_any {v:Value}{l:List ByteArray}(w:World)(h:RowAt w 9 v l)(hn:l.length≤4294967296)(hl:(joinB l).size≤140737488355328):
  Calls Tryz.prog 112 #[v,.string ⟨#[32]⟩] w fun e w'=>e= .returned (.string (joinB l))∧Below w.heap.size w w':=by
 have hl':(Lib.join (l.map (·.data.toList)) (⟨#[32]⟩:ByteArray).data.toList).length≤140737488355328:=by
  have:(joinB l).size=(Lib.join (l.map (·.data.toList)) (⟨#[32]⟩:ByteArray).data.toList).toArray.size:=rfl
  simpa[this]using hl
 rcases h with⟨rfl,rfl⟩|⟨g,off,cap,cur,rfl,hh,hlc,hm,hs',hc⟩
 ·refine(Any.strings_Join_none Tryz.lays156 extraJ none 0 ⟨#[32]⟩ w).mono ?_
  rintro e w' ⟨rfl,rfl⟩
  exact⟨rfl,Below.refl _ _⟩
 ·refine(Any.strings_Join Tryz.lays156 extraJ g off cap l ⟨#[32]⟩ w (fun j x hx=> ?_) (zlt hh) (by omega) hlc hl').mono ?_
  ·have:=(RowAt.cell (α:=ByteArray) (w:=w) (e:=9) (g:=g) (off:=off) (n:=l.length) (cap:=cap) (.inr ⟨g,off,cap,cur,rfl,hh,hlc,hm,hs',hc⟩) hx (j:=0) (by decide))
   simpa[Cells.sz,Cells.enc]using this
  ·rintro e w' ⟨rfl,hB⟩
   exact⟨rfl,hB⟩
def VPPost (w:World)(x:Val)(e:Ending)(w':World):Prop:=e= .returned (.string (printV x))∧Below w.heap.size w w'
theorem print_one {N:Nat}(x:Val)
  (ck cn:Int)(cs:ByteArray)(la:Option Addr)(ln lc:Nat)(F:Nat→Prop)(w:World)(C:CF F w ⟨ck,cn,cs,la,ln,lc⟩ x)(G:Gl Tryz.prog N w)(hw:x.wf)(hz:szV x≤1073741824)
  (h3:(x.kind==3)=false):
  Calls Tryz.prog 74 #[.agg #[.int .i64 ck,.int .i64 cn,.string cs,.slice la ln lc]] w (VPPost w x)
  :=by
 have hck:ck=x.kind:=C.kind
 have hcn:cn=x.num:=C.n
 have hcs:cs=x.txt:=C.s
 rw[szV_eq,←hck,←hcs]at hz
 have hp:=printV_eq x
 rw[←hck,←hcn,←hcs]at hp
 rw[←hck]at h3
 have hwn:=((Val.wf_eq x).1 hw).2.1
 rw[←hcn]at hwn
 have HH:=zh3 G hwn hcs
 clear G hw C hcs hcn hck hwn
 cases h1:(ck==1)with
 |true=>
  obtain rfl:ck=1:=by simpa using h1
  have HP:=zhd hp
  have FI:=zhd (fun W (K:Below w.heap.size w W)=>formatInt_any cn HH.out.2.1.1 HH.out.2.1.2 W (HH.out.1.below K))
  have KA:=zhd (show Below w.heap.size w (w.alloc (.cells #[.int .i64 1,.int .i64 cn,.string cs,.slice la ln lc] 39))from zal)
  clear hp hz h1 h3
  go_enter Tryz.func74,Tryz.ntmps74
  go_wp2_with fail
  refine(FI.out _ KA.out).mono ?_
  rintro e w5 ⟨rfl,hB5⟩
  go_wp2_with fail
  exact bodyPost_ret (v:=.string (itoaB cn)) (by simp only[results,Tryz.results74,itoaB];go_simp) rfl ⟨by rw[HP.out];rfl,KA.out.trans (hB5.mono (by simp))⟩
 |false=>
  cases h2:(ck==2)with
  |true=>
   obtain rfl:ck=2:=by simpa using h2
   have HP:=zhd hp
   have hz':4*cs.size+30≤1073741824:=hz
   have QU:=zhd (fun W=>quote_any cs W (by omega))
   have KA:=zhd (show Below w.heap.size w (w.alloc (.cells #[.int .i64 2,.int .i64 cn,.string cs,.slice la ln lc] 39))from zal)
   clear hp hz h1 h2 h3 hz'
   go_enter Tryz.func74,Tryz.ntmps74
   go_wp2_with fail
   refine(QU.out _).mono ?_
   rintro e w5 ⟨rfl,hB5⟩
   go_wp2_with fail
   exact bodyPost_ret (v:=.string (quoteB cs)) (by simp only[results,Tryz.results74,quoteB];go_simp) rfl ⟨by rw[HP.out];rfl,KA.out.trans (hB5.mono (by simp))⟩
  |false=>
   rw[h1,h2,h3]at hp
   have HP:=zhd hp
   clear hp hz
   go_enter Tryz.func74,Tryz.ntmps74
   go_wp2_with fail
   go_ret
   exact⟨by rw[HP.out];rfl,zal⟩
def PIH (N n:Nat):Prop:=∀(x:Val),x.parts≤n→∀(ck cn:Int) (cs:ByteArray) (la:Option Addr) (ln lc:Nat) (F:Nat→Prop) (w:World),CF F w ⟨ck,cn,cs,la,ln,lc⟩ x→Gl Tryz.prog N w→x.wf→szV x≤1073741824→
    Calls Tryz.prog 74 #[.agg #[.int .i64 ck,.int .i64 cn,.string cs,.slice la ln lc]] w (VPPost w x)
theorem prints_at {l:List Val}{k:Nat}{y:Val}(h:l[k]? =some y):printV.printsL (l.take (k+1))=printV.printsL (l.take k)++[printV y]:=by
 rw[printsL_map,printsL_map,List.take_add_one,h]
 simp
theorem print_list {N n:Nat}(IH:PIH N n)(x:Val)(hx:x.parts≤n+1)
  (ck cn:Int)(cs:ByteArray)(la:Option Addr)(ln lc:Nat)(F:Nat→Prop)(w:World)(C:CF F w ⟨ck,cn,cs,la,ln,lc⟩ x)(G:Gl Tryz.prog N w)(hw:x.wf)(hz:szV x≤1073741824)
  (h3:(x.kind==3)=true):
  Calls Tryz.prog 74 #[.agg #[.int .i64 ck,.int .i64 cn,.string cs,.slice la ln lc]] w (VPPost w x)
  :=by
 have hck:ck=x.kind:=C.kind
 obtain rfl:ck=3:=by rw[hck];simpa using h3
 have hk:x.kind=3:=hck.symm
 rw[szV_eq,hk]at hz
 have hp:=printV_eq x
 rw[hk]at hp
 have hwl:=((Val.wf_eq x).1 hw).2.2.2
 have hz':szV.szL x.list+30≤1073741824:=hz
 have hll:=szL_len x.list
 obtain⟨hln,hlm,hE⟩:=C.l.elems
 have hln':ln=x.list.length:=hln
 have hlb:ln≤1073741824:=by omega
 clear hln'
 have JS:=joinB_size x.list hwl
 have HE:=zh8 hE hln IH G hwl hz' hx (zai JS hp)
 clear hE hln IH G hwl hz' hz hll hp hck hk hw C JS h3 hx hlm
 have KA:=zhd (show Below w.heap.size w (w.alloc (.cells #[.int .i64 3,.int .i64 cn,.string cs,.slice la ln lc] 39))from zal)
 go_enter Tryz.func74,Tryz.ntmps74
 go_wp2_with fail
 go_loopg [3,23] (ln) (fun gk v3 v23 wr=>∃i:Nat,v23= .int .i64 i∧i≤ln∧gk=ln - i∧Hid (RowAt wr 9 v3 (printV.printsL (x.list.take i))∧Below w.heap.size w wr∧∀g,v3.ownBlock=some g→w.heap.size≤g))
 case atStart=>exact⟨0,rfl,Nat.zero_le _,rfl,zhd ⟨.inl ⟨rfl,by rw[List.take_zero,printV.printsL]⟩,KA.out,fun g hg=>by cases hg⟩⟩
 case round=>
  obtain⟨i,rfl,hi,hgk,HR⟩:=hrel
  obtain⟨a3,c3,rfl⟩:=HR.out.1.slice
  have hpl:(printV.printsL (x.list.take i)).length=i:=by rw[printsL_map];have:=HE.out.2.1;simp;omega
  rw[hpl]at HR⊢
  have HG:=zh2 hgk hpl
  have szr:=HR.out.2.1.size
  clear hgk hpl
  by_cases hin:i<ln
  ·obtain⟨y,hy⟩:=elem_at (l:=x.list) (k:=i) (by have:=HE.out.2.1;omega)
   obtain⟨g,off,ha,hFg,hg,hel⟩:=HE.out.1.resolve_left (fun e=>by rw[e]at hy;simp at hy)
   obtain⟨c',hC,q0,q1,q2,q3⟩:=hel i y hy
   subst ha
   have hgl:g<wr.heap.size:=by omega
   rw[←HR.out.2.1.cell (p:=⟨g,_,none⟩) hg]at q0 q1 q2 q3
   have hC':CF F wr c' y:=hC.keep (S:=fun _=>False) (zkb HR.out.2.1) (fun _ _ f=>f)
   have hin':(i:Int)<ln:=by omega
   have hyp:y.parts≤n:=by
    have:=Val.parts_lt (v:=x) (zmg hy)
    have:=HE.out.2.2.2.2.2.2.1
    omega
   have hmem:=zmg hy
   have wi:wrap64 ((i:Int)+1)=(i:Int)+1:=by unfold wrap64;omega
   have PV:=zhd (HE.out.2.2.1 y hyp c'.kind c'.n c'.s c'.la c'.ln c'.lc F (wr.alloc (.cells #[.int .i64 c'.kind,.int .i64 c'.n,.string c'.s,.slice c'.la c'.ln c'.lc] 39)) (hC'.keep (S:=fun _=>False) ((Keeps.refl _ _).alloc _) (fun _ _ f=>f)) (HE.out.2.2.2.1.below (HR.out.2.1.trans ((Below.refl _ _).alloc (by omega) _))) (wfL_mem HE.out.2.2.2.2.1 hmem) (by have:=szL_mem hmem;have:=HE.out.2.2.2.2.2.1;omega))
   have HY:=zhd (prints_at hy)
   clear hel hC hC' hyp hmem hy
   go_wp2_with fail
   refine PV.out.mono ?_
   rintro e w5 ⟨rfl,hB5⟩
   have B5:Below wr.heap.size wr w5:=((Below.refl _ _).alloc (Nat.le_refl _) (.cells #[.int .i64 c'.kind,.int .i64 c'.n,.string c'.s,.slice c'.la c'.ln c'.lc] 39)).trans (hB5.mono (by simp))
   have HB:=zhd B5
   clear hB5 B5
   go_wp2_with (at_builtin;go_must (refine wp_appW (α:=ByteArray) elemS rfl (.tmp 27) (.tmp 30) rfl ((HR.out.1.below HB.out).alloc _) (printV y) rfl rfl (heap_alloc_new _ _) (by rw[HG.out.2];omega) (by rw[HG.out.2];unfold maxLen;omega) ?_);rw[HG.out.2];intro a1 q1 w1 hr1 hk1 hf1)
   go_roundg (ln - (i+1))
   case measure=>have:=HG.out.1;omega
   case rel=>
    have s5:=HB.out.size
    refine⟨i+1,by simp,by omega,rfl,zhd ⟨by rw[HY.out];exact hr1,(HR.out.2.1.trans (HB.out.mono szr)).trans (((Below.refl _ _).alloc (by omega) _).trans (hk1.below (by simp;omega) (fun j hj e=>by have:=HR.out.2.2 j e;omega))),fun g hg=> ?_⟩⟩
    rcases hf1 g hg with e|e
    ·exact HR.out.2.2 g e
    ·have e':w5.heap.size+1≤g:=by simpa using e
     omega
  ·obtain rfl:i=ln:=by omega
   have ht:x.list.take i=x.list:=List.take_of_length_le (by have:=HE.out.2.1;omega)
   rw[ht]at HR HG
   have JA:=zhd (join_any wr (l:=printV.printsL x.list) HR.out.1 (by have:=HG.out.2;omega) (by have:=HE.out.2.2.2.2.2.2.2.1;have:=HE.out.2.2.2.2.2.1;omega))
   have hjs:(joinB (printV.printsL x.list)).size≤1073741824:=by have:=HE.out.2.2.2.2.2.2.2.1;have:=HE.out.2.2.2.2.2.1;omega
   clear ht
   go_wp2_with fail
   refine JA.out.mono ?_
   rintro e w5 ⟨rfl,hB5⟩
   generalize hj:joinB (printV.printsL x.list)=jb at*
   have HJ:=zhd hj
   clear hj
   go_wp2_with fail
   exact bodyPost_ret (v:=.string ((⟨#[91]⟩++jb)++⟨#[93]⟩)) (by simp only[results,Tryz.results74];go_simp) rfl ⟨by rw[HE.out.2.2.2.2.2.2.2.2,←HJ.out];rfl,HR.out.2.1.trans (hB5.mono szr)⟩
theorem print_all (N:Nat):∀n,PIH N n
 |0=>fun x h=>by have:=x.parts_pos;omega
 |n+1=>fun x h ck cn cs la ln lc F w C G hw hz=>by
  cases h3:(x.kind==3)with
  |false=>exact print_one x ck cn cs la ln lc F w C G hw hz h3
  |true=>exact print_list (print_all N n) x h ck cn cs la ln lc F w C G hw hz h3
theorem print_any {N:Nat}(x:Val)
 (ck cn:Int)(cs:ByteArray)(la:Option Addr)(ln lc:Nat)(F:Nat→Prop)(w:World)(C:CF F w ⟨ck,cn,cs,la,ln,lc⟩ x)(G:Gl Tryz.prog N w)(hw:x.wf)(hz:szV x≤1073741824)
 :
 Calls Tryz.prog 74 #[.agg #[.int .i64 ck,.int .i64 cn,.string cs,.slice la ln lc]] w (VPPost w x)
 :=print_all N x.parts x (Nat.le_refl _) ck cn cs la ln lc F w C G hw hz
end Go.Proofs.YtakljipkaoahnaaGreatDoor
namespace Go.Va
open Go.Own Go.RowKit Go.Own.MapTy
def cloneV:Val→Val
 | .mk k n s l=>.mk k (bif k==1 then n else 0) (bif k==2 then s else⟨#[]⟩) (bif k==3 then cloneL l else[])
where cloneL:List Val→List Val
 |[]=>[]
 |x::r=>cloneV x::cloneL r
theorem cloneV_eq (x:Val):cloneV x= .mk x.kind (bif x.kind==1 then x.num else 0) (bif x.kind==2 then x.txt else⟨#[]⟩) (bif x.kind==3 then cloneV.cloneL x.list else[]):=by
 cases x
 rw[cloneV]
 rfl
theorem cloneL_map (l:List Val):cloneV.cloneL l=l.map cloneV:=by
 induction l with
 |nil=>rw[cloneV.cloneL];rfl
 |cons x r ih=>rw[cloneV.cloneL,ih];rfl
end Go.Va
namespace Go.Proofs.YtakljipkaoahnaaGreatDoor
open Go.RowKit Go.Own Go.Own.MapTy Go.Va Go.Sort
open Go.Own.Cells (sz enc)
def ClPost (w:World)(x:Val)(e:Ending)(w':World):Prop:=∃c:VC,e= .returned (.agg #[.int .i64 c.kind,.int .i64 c.n,.string c.s,.slice c.la c.ln c.lc])∧Hid (CF (fun g=>w.heap.size≤g) w' c (cloneV x)∧Below w.heap.size w w')
theorem clone_one (x:Val)
  (ck cn:Int)(cs:ByteArray)(la:Option Addr)(ln lc:Nat)(F:Nat→Prop)(w:World)(C:CF F w ⟨ck,cn,cs,la,ln,lc⟩ x)(hz:szV x≤1073741824)
  (h3:(x.kind==3)=false):
  Calls Tryz.prog 57 #[.agg #[.int .i64 ck,.int .i64 cn,.string cs,.slice la ln lc]] w (ClPost w x)
  :=by
 have hck:ck=x.kind:=C.kind
 have hcn:cn=x.num:=C.n
 have hcs:cs=x.txt:=C.s
 have hp:=cloneV_eq x
 rw[←hck,←hcn,←hcs]at hp
 rw[←hck]at h3
 have _z:=hz
 clear C hcs hcn hck
 cases h1:(ck==1)with
 |true=>
  obtain rfl:ck=1:=by simpa using h1
  have HP:=zhd hp
  clear hp h1 h3
  go_enter Tryz.func57,Tryz.ntmps57
  go_wp2_with fail
  refine bodyPost_ret (v:=.agg #[.int .i64 1,.int .i64 cn,.string ⟨#[]⟩,.slice none 0 0]) (by simp only[results,Tryz.results57];go_simp) rfl ⟨⟨1,cn,⟨#[]⟩,none,0,0⟩,rfl,zhd ⟨?_,?_⟩⟩
  ·rw[HP.out];exact⟨rfl,rfl,rfl,VF.nil _ _⟩
  ·repeat(first|exact Below.refl _ _|refine Below.setCell ?_ (by first|(simp;done)|(simp;omega)) _|refine Below.alloc ?_ (by first|(simp;done)|(simp;omega)) _)
 |false=>
  cases h2:(ck==2)with
  |true=>
   obtain rfl:ck=2:=by simpa using h2
   have HP:=zhd hp
   clear hp h1 h2 h3
   go_enter Tryz.func57,Tryz.ntmps57
   go_wp2_with fail
   refine bodyPost_ret (v:=.agg #[.int .i64 2,.int .i64 0,.string cs,.slice none 0 0]) (by simp only[results,Tryz.results57];go_simp) rfl ⟨⟨2,0,cs,none,0,0⟩,rfl,zhd ⟨?_,?_⟩⟩
   ·rw[HP.out];exact⟨rfl,rfl,rfl,VF.nil _ _⟩
   ·repeat(first|exact Below.refl _ _|refine Below.setCell ?_ (by first|(simp;done)|(simp;omega)) _|refine Below.alloc ?_ (by first|(simp;done)|(simp;omega)) _)
  |false=>
   rw[h1,h2,h3]at hp
   have HP:=zhd hp
   clear hp
   go_enter Tryz.func57,Tryz.ntmps57
   go_wp2_with fail
   refine bodyPost_ret (v:=.agg #[.int .i64 ck,.int .i64 0,.string ⟨#[]⟩,.slice none 0 0]) (by simp only[results,Tryz.results57];go_simp) rfl ⟨⟨ck,0,⟨#[]⟩,none,0,0⟩,rfl,zhd ⟨?_,?_⟩⟩
   ·rw[HP.out];exact⟨rfl,rfl,rfl,VF.nil _ _⟩
   ·repeat(first|exact Below.refl _ _|refine Below.setCell ?_ (by first|(simp;done)|(simp;omega)) _|refine Below.alloc ?_ (by first|(simp;done)|(simp;omega)) _)
theorem at_new {w:World}{k:Nat}{o:Obj}(h:k=w.heap.size):(w.alloc o).heap[k]? =some o:=by rw[h];exact heap_alloc_new _ _
def CIH (n:Nat):Prop:=∀(x:Val),x.parts≤n→∀(ck cn:Int) (cs:ByteArray) (la:Option Addr) (ln lc:Nat) (F:Nat→Prop) (w:World),CF F w ⟨ck,cn,cs,la,ln,lc⟩ x→szV x≤1073741824→
    Calls Tryz.prog 57 #[.agg #[.int .i64 ck,.int .i64 cn,.string cs,.slice la ln lc]] w (ClPost w x)
theorem clones_at {l:List Val}{k:Nat}{y:Val}(h:l[k]? =some y):cloneV.cloneL (l.take (k+1))=cloneV.cloneL (l.take k)++[cloneV y]:=by
 rw[cloneL_map,cloneL_map,List.take_add_one,h]
 simp
structure ClL (w wr:World)(v:Value)(l:List Val):Prop where
 b3:wr.heap[w.heap.size+2]? =some (.cells #[.int .i64 3,.int .i64 0,.string ⟨#[]⟩,v] 39 (0,0))
 b2:wr.heap[w.heap.size+1]? =some (.cells #[.int .i64 0,.int .i64 0,.string ⟨#[]⟩,.slice none 0 0] 39 (0,0))
 row:VRow (fun g=>w.heap.size+2<g∧v.ownBlock≠some g) wr 39 v (cloneV.cloneL l)
 own:∀g,v.ownBlock=some g→w.heap.size+2<g
 below:Below w.heap.size w wr
theorem ClL.next {w wr W w8 w9:World}{v v1:Value}{l l2:List Val}{cs1:List VC}{c8:VC}{y:Val}{o:Obj}(h:ClL w wr v l)(hrow:RowAt wr 39 v cs1)(hcl:cs1.length=(cloneV.cloneL l).length)
  (hce:∀(i:Nat) (c:VC) (x:Val),cs1[i]? =some c→(cloneV.cloneL l)[i]? =some x→CF (fun g=>w.heap.size+2<g∧v.ownBlock≠some g) wr c x)(K0:Below wr.heap.size wr W)
  (hc:CF (fun g=>W.heap.size≤g) w8 c8 (cloneV y))(K8:Below W.heap.size W w8)(hl2:cloneV.cloneL l2=cloneV.cloneL l++[cloneV y])
  (hr1:RowAt w9 39 v1 (cs1++[c8]))(hk1:Keeps (fun j=>v.ownBlock=some j) (w8.alloc o) w9)(hf1:∀g,v1.ownBlock=some g→v.ownBlock=some g∨(w8.alloc o).heap.size≤g):ClL w (w9.setCell ⟨w.heap.size+2,3,none⟩ v1) v1 l2:=by
 have l3:=zlt h.b3
 have s0:=K0.size
 have s8:=K8.size
 have own:∀g,v1.ownBlock=some g→w.heap.size+2<g:=fun g hg=>by
  rcases hf1 g hg with e|e
  ·exact h.own g e
  ·have e':w8.heap.size+1≤g:=by simpa using e
   omega
 have KA:Keeps (fun _=>False) wr (w8.alloc o):=(zkb ((K0.trans (K8.mono s0)))).alloc _
 have K9:Keeps (fun j=>v.ownBlock=some j) wr w9:=(KA.mono (fun _ _ f=>f.elim)).trans hk1 (fun j _ e=>e)
 have KS:Keeps (fun j=>j=w.heap.size+2) w9 (w9.setCell ⟨w.heap.size+2,3,none⟩ v1):=Keeps.setCell (S:=fun j=>j=w.heap.size+2) (p:=⟨w.heap.size+2,3,none⟩) (Keeps.refl _ _) (.inl rfl) _
 have b3:=(K9.block _ l3 (fun e=>by have:=h.own _ e;omega)).trans h.b3
 have b2:=(K9.block (w.heap.size+1) (by omega) (fun e=>by have:=h.own _ e;omega)).trans h.b2
 refine⟨by simp[World.setCell,Array.getElem?_modify,b3],(Below.heap_setCell _ _ _ _ (by simp)).trans b2,?_,own,?_⟩
 ·rw[hl2]
  refine VRow.keep (S:=fun j=>j=w.heap.size+2) ?_ KS (fun g hg e=>by have e':g=w.heap.size+2:=e;omega) (fun g hg e=>by have:=own g hg;omega)
  exact VRow.app (F:=fun g=>w.heap.size+2<g∧v.ownBlock≠some g) hcl (fun i c x h1 h2=>(hce i c x h1 h2).keep KA (fun _ _ f=>f))
   ((hc.mono (G:=fun g=>w.heap.size+2<g∧v.ownBlock≠some g) (fun g hg _=>⟨by omega,fun e=>by have:=hrow.lt e;omega⟩)).keep (S:=fun _=>False) ((Keeps.refl _ _).alloc _) (fun _ _ f=>f))
   hr1 hk1 (fun g hg=>hg.2) (fun g hg hlt=>⟨hg.1,fun e=>(hf1 g e).elim (fun e=>hg.2 e) (fun e=>by omega)⟩)
 ·exact(h.below.trans (K9.below (by have:=h.below.size;omega) (fun j hj e=>by have:=h.own j e;omega))).setCell (p:=⟨w.heap.size+2,3,none⟩) (by show w.heap.size≤w.heap.size+2;omega) _
theorem clone_list {n:Nat}(IH:CIH n)(x:Val)(hx:x.parts≤n+1)
  (ck cn:Int)(cs:ByteArray)(la:Option Addr)(ln lc:Nat)(F:Nat→Prop)(w:World)(C:CF F w ⟨ck,cn,cs,la,ln,lc⟩ x)(hz:szV x≤1073741824)
  (h3:(x.kind==3)=true):
  Calls Tryz.prog 57 #[.agg #[.int .i64 ck,.int .i64 cn,.string cs,.slice la ln lc]] w (ClPost w x)
  :=by
 have hck:ck=x.kind:=C.kind
 obtain rfl:ck=3:=by rw[hck];simpa using h3
 have hk:x.kind=3:=hck.symm
 have hp:=cloneV_eq x
 rw[hk]at hp
 obtain⟨hln,hlm,hE⟩:=C.l.elems
 have hln:ln=x.list.length:=hln
 rw[szV_eq,hk]at hz
 have hz':szV.szL x.list+30≤1073741824:=hz
 have hlm:ln≤1073741824:=by have:=szL_len x.list;omega
 have HE:=zh6 hE hln IH hx hp hz'
 clear hE hln IH hp hck hk C h3 hx hz hz'
 go_enter Tryz.func57,Tryz.ntmps57
 go_wp2_with fail
 go_loopg [26] (ln) (fun gk v26 wr=>∃i:Nat,v26= .int .i64 i∧i≤ln∧gk=ln - i∧Hid (∃v,ClL w wr v (x.list.take i)))
 case atStart=>
  refine⟨0,rfl,Nat.zero_le _,rfl,zhd ⟨.slice none 0 0,⟨?_,?_,(by rw[List.take_zero,cloneV.cloneL];exact VRow.nil _ _ _),(fun g hg=>by cases hg),?_⟩⟩⟩
  ·exact at_new (by simp)
  ·exact(Below.heap_alloc _ _ _ (by simp)).trans (at_new (by simp))
  ·repeat(first|exact Below.refl _ _|refine Below.setCell ?_ (by first|(simp;done)|(simp;omega)) _|refine Below.alloc ?_ (by first|(simp;done)|(simp;omega)) _)
 case round=>
  obtain⟨i,rfl,hi,hgk,HR⟩:=hrel
  obtain⟨v,HR⟩:=HR.out
  obtain⟨cs1,hrow,hcl,hce⟩:=HR.row
  obtain⟨a3,c3,rfl⟩:=hrow.slice
  have hpl:cs1.length=i:=by rw[hcl,cloneL_map];have:=HE.out.2.1;simp;omega
  rw[hpl]at hrow HR hce
  have h3:=zca HR.b3 3 rfl
  have h0:=zca HR.b3 0 rfl
  have h1:=zca HR.b3 1 rfl
  have h2:=zca HR.b3 2 rfl
  have f3:∀o,wr.frozen? ⟨w.heap.size+2,o,none⟩=false:=fun o=>zfr HR.b3 o
  have f2:∀o,wr.frozen? ⟨w.heap.size+1,o,none⟩=false:=fun o=>zfr HR.b2 o
  have r0:=zca HR.b2 0 rfl
  have r1:=zca HR.b2 1 rfl
  have r2:=zca HR.b2 2 rfl
  have r3:=zca HR.b2 3 rfl
  have l3:w.heap.size+2<wr.heap.size:=zlt HR.b3
  have HX:=zh6 HR hrow hcl hce hgk hpl
  clear HR hrow hcl hce hgk hpl
  by_cases hin:i<ln
  ·obtain⟨y,hy⟩:=elem_at (l:=x.list) (k:=i) (by have:=HE.out.2.1;omega)
   obtain⟨g,off,ha,hFg,hg,hel⟩:=HE.out.1.resolve_left (fun e=>by rw[e]at hy;simp at hy)
   obtain⟨c',hC,q0,q1,q2,q3⟩:=hel i y hy
   subst ha
   have hgl:g<wr.heap.size:=by have:=HX.out.1.below.size;omega
   have gn3:¬g=w.heap.size+2:=by omega
   rw[←HX.out.1.below.cell (p:=⟨g,_,none⟩) hg]at q0 q1 q2 q3
   have hC':CF F wr c' y:=hC.keep (S:=fun _=>False) (zkb HX.out.1.below) (fun _ _ f=>f)
   have hin':(i:Int)<ln:=by omega
   have hyp:y.parts≤n:=by
    have:=Val.parts_lt (v:=x) (zmg hy)
    have:=HE.out.2.2.2.1
    omega
   have hmem:=zmg hy
   have CC:=zhd (fun W (K:Below wr.heap.size wr W)=>HE.out.2.2.1 y hyp c'.kind c'.n c'.s c'.la c'.ln c'.lc F W (hC'.keep (S:=fun _=>False) (zkb K) (fun _ _ f=>f)) (by have:=szL_mem hmem;have:=HE.out.2.2.2.2.2;omega))
   have HY:=zhd (clones_at hy)
   clear hel hC hC' hyp hmem hy
   have NB:=zhd (show∀g,(Value.slice a3 i c3).ownBlock=some g→g≠w.heap.size+2 from fun g hg e=>by have:=HX.out.1.own g hg;omega)
   have l3':¬wr.heap.size=w.heap.size+2:=by omega
   have HBD:=zhd (show(cs1.length+[(⟨0,0,⟨#[]⟩,none,0,0⟩:VC)].length)*56≤140737488355328∧cs1.length+[(⟨0,0,⟨#[]⟩,none,0,0⟩:VC)].length≤maxLen∧cs1.length+[(⟨0,0,⟨#[]⟩,none,0,0⟩:VC)].length=i+1 from by have:=HX.out.2.2.2.2.2;unfold maxLen;simp;omega)
   go_wp2_with fail
   go_region_law ((first
    |(go_simp;go_at_call 57;refine(CC.out _ (by repeat(first|exact Below.refl _ _|refine Below.drew ?_|refine Below.alloc ?_ (Nat.le_refl _) _))).mono ?_;rintro e w8 ⟨⟨k8,n8,s8,la8,ln8,lc8⟩,rfl,H8⟩;have hb8:=(H8.out.2.block (w.heap.size+2) (by simp;omega)).trans ((Below.heap_alloc _ _ _ l3).trans HX.out.1.b3);have y3:w8.cell? ⟨w.heap.size+2,3,none⟩=some (.slice a3 i c3):=(by rw[zch hb8];rfl);have fy:∀o,w8.frozen? ⟨w.heap.size+2,o,none⟩=false:=(fun o=>zfr hb8 o);have ly:w.heap.size+2<w8.heap.size:=(zlt hb8);have HG:=zhd hb8;clear hb8)
    |(refine step_apps (α:=VC) (o:=⟨some 35,_,_,_,_,_⟩) elemV (by rfl) (.tmp 31) (.tmp 34) (by rfl) (v:=.slice a3 i c3) (u:=.slice (some ⟨w8.heap.size,0,none⟩) 1 1) (by rfl) (by rfl) (xs:=cs1) (ys:=[⟨k8,n8,s8,la8,ln8,lc8⟩]) (((HX.out.2.1.drew.alloc _).below H8.out.2).alloc _) (RowAt.lit (α:=VC) (y:=⟨k8,n8,s8,la8,ln8,lc8⟩) (heap_alloc_new _ _)) HBD.out.1 HBD.out.2.1 (i+1) HBD.out.2.2 ?_;intro a1 cp w9 hr1 hk1 hf1;have hb9:=(hk1.block (w.heap.size+2) (by simp;omega) (fun e=>NB.out _ e rfl)).trans ((Below.heap_alloc _ _ _ ly).trans HG.out);have z3:w9.cell? ⟨w.heap.size+2,3,none⟩=some (.slice a3 i c3):=(by rw[zch hb9];rfl);have fz:∀o,w9.frozen? ⟨w.heap.size+2,o,none⟩=false:=(fun o=>zfr hb9 o);have lz:w.heap.size+2<w9.heap.size:=zlt hb9;have FF:=zh4 hr1 hk1 hf1 hb9;clear hr1 hk1 hf1 hb9)))
   all_goals
    go_wp2_with fail
    go_roundg (ln - (i+1))
    case measure=>have:=HX.out.2.2.2.2.1;omega
    case rel=>exact⟨i+1,by simp,by omega,rfl,zhd ⟨_,HX.out.1.next HX.out.2.1 HX.out.2.2.1 HX.out.2.2.2.1 (by repeat(first|exact Below.refl _ _|refine Below.drew ?_|refine Below.alloc ?_ (Nat.le_refl _) _)) H8.out.1 H8.out.2 HY.out FF.out.1 FF.out.2.1 FF.out.2.2.1⟩⟩
  ·obtain rfl:i=ln:=by omega
   have ht:x.list.take i=x.list:=List.take_of_length_le (by have:=HE.out.2.1;omega)
   go_wp2_with fail
   refine bodyPost_ret (v:=.agg #[.int .i64 3,.int .i64 0,.string ⟨#[]⟩,.slice a3 i c3]) (by simp only[results,Tryz.results57];go_simp) rfl ⟨⟨3,0,⟨#[]⟩,a3,i,c3⟩,rfl,zhd ⟨?_,?_⟩⟩
   ·rw[HE.out.2.2.2.2.1]
    refine⟨rfl,rfl,rfl,?_⟩
    have V:VF (fun g=>w.heap.size+2<g) wr (.slice a3 i c3) (cloneV.cloneL x.list):=by
     have h:=HX.out.1.row.vf (G:=fun g=>w.heap.size+2<g) (fun g h=>h.1) HX.out.1.own
     rw[ht]at h
     exact h
    refine VF.mono (F:=fun g=>w.heap.size+2<g) (fun g (h:w.heap.size+2<g) _=>(show w.heap.size≤g by omega)) (VF.keep (S:=fun j=>j=w.heap.size+1) ?_ (fun g (h:w.heap.size+2<g) e=>by have e':g=w.heap.size+1:=e;omega) V)
    repeat(first|exact Keeps.refl _ _|refine Keeps.setCell ?_ (Or.inl (by show w.heap.size+1=w.heap.size+1;rfl)) _)
   ·refine HX.out.1.below.trans ?_
    repeat(first|exact Below.refl _ _|refine Below.setCell ?_ (by first|(simp;done)|(simp;omega)) _)
theorem clone_all:∀n,CIH n
 |0=>fun x h=>by have:=x.parts_pos;omega
 |n+1=>fun x h ck cn cs la ln lc F w C hz=>by
  cases h3:(x.kind==3)with
  |false=>exact clone_one x ck cn cs la ln lc F w C hz h3
  |true=>exact clone_list (clone_all n) x h ck cn cs la ln lc F w C hz h3
theorem clone_any (x:Val)
 (ck cn:Int)(cs:ByteArray)(la:Option Addr)(ln lc:Nat)(F:Nat→Prop)(w:World)(C:CF F w ⟨ck,cn,cs,la,ln,lc⟩ x)(hz:szV x≤1073741824)
 :
 Calls Tryz.prog 57 #[.agg #[.int .i64 ck,.int .i64 cn,.string cs,.slice la ln lc]] w (ClPost w x)
 :=clone_all x.parts x (Nat.le_refl _) ck cn cs la ln lc F w C hz
end Go.Proofs.YtakljipkaoahnaaGreatDoor
