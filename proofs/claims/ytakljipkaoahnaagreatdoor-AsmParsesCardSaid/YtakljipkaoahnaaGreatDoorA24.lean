/- Parts of the proof: what the functions and the plain laws give that later parts lean on. Conditions: none beyond those that each theorem names. -/
import Derived.Test.YtakljipkaoahnaaGreatDoorA23
set_option maxRecDepth 100000
set_option maxHeartbeats 8000000
namespace Go.Proofs.YtakljipkaoahnaaGreatDoor
open Go.RowKit Go.Own Go.Own.MapTy Go.Va Go.Sort
open Go.Own.Cells (sz enc)
def cutL:List UInt8→List UInt8→List (List UInt8)
 |[],cur=>[cur]
 |c::r,cur=>bif c==10 then cur::cutL r []else cutL r (cur++[c])
def linesB (s:ByteArray):List ByteArray:=(cutL s.data.toList []).map mkL
theorem cutL_law:∀(l cur:List UInt8),10∉cur→∃init last,cutL l cur=init++[last]∧cur++l=textB init++last∧(∀x∈init,10∉x)∧10∉last
 |[],cur,h=>⟨[],cur,rfl,by simp[textB],(fun x hx=>by cases hx),h⟩
 |c::r,cur,h=>by
  rw[cutL]
  cases hc:(c==10)with
  |true=>
   have hc:c=10:=by simpa using hc
   obtain⟨init,last,h1,h2,h3,h4⟩:=cutL_law r [] (by simp)
   refine⟨cur::init,last,?_,?_,fun x hx=> ?_,h4⟩
   ·simp only[cond_true]
    rw[h1]
    rfl
   ·rw[List.nil_append]at h2
    rw[h2,hc]
    simp[textB]
   ·rcases List.mem_cons.1 hx with rfl|hx
    ·exact h
    ·exact h3 x hx
  |false=>
   have hc:c≠10:=by simpa using hc
   obtain⟨init,last,h1,h2,h3,h4⟩:=cutL_law r (cur++[c]) (by simp[h,Ne.symm hc])
   refine⟨init,last,?_,?_,h3,h4⟩
   ·simp only[cond_false]
    exact h1
   ·rw[←h2,List.append_assoc]
    rfl
theorem mkL_size (l:List UInt8):(mkL l).size=l.length:=by
 show l.toArray.size=l.length
 simp
def readS (s:ByteArray):(Int×Int)×List SR:=
 if(linesB s).length=1∨(linesB s).getLast?.getD ⟨#[]⟩≠⟨#[]⟩then((0,8),[])else readT (linesB s).dropLast
theorem mkL_nil {l:List UInt8}(h:mkL l=⟨#[]⟩):l=[]:=by
 have h2:(mkL l).data.toList=[]:=by rw[h]
 rwa[mkL_list]at h2
theorem parses_all (s:ByteArray)(hz:s.size≤65536):((readS s).1.2≠0∧asmL s=(noImg,(readS s).1))∨
  ((readS s).1=(0,0)∧(((asmL s).2=(0,0)∧LawP (asmL s).1 (readS s).2)∨((asmL s).1=noImg∧(asmL s).2.1=0∧(((asmL s).2.2=6∧(readS s).2=[])∨(asmL s).2.2=2∨(asmL s).2.2=1)))):=by
 obtain⟨init,last,h1,h2,h3,h4⟩:=cutL_law s.data.toList [] (by simp)
 rw[List.nil_append]at h2
 have hl:linesB s=init.map mkL++[mkL last]:=by
  unfold linesB
  rw[h1,List.map_append]
  rfl
 have hd:(linesB s).dropLast=init.map mkL:=by rw[hl,List.dropLast_concat]
 have hg:(linesB s).getLast?.getD ⟨#[]⟩=mkL last:=by rw[hl,List.getLast?_concat];rfl
 have hlen:(linesB s).length=init.length+1:=by rw[hl];simp
 unfold readS
 rw[hd,hg,hlen]
 by_cases hc:init.length+1=1∨mkL last≠⟨#[]⟩
 ·rw[if_pos hc]
  refine .inl ⟨by show(8:Int)≠0;decide,?_⟩
  have hs:Lib.hasSuffix s.data.toList [10]=false:=by
   cases hq:Lib.hasSuffix s.data.toList [10]with
   |false=>rfl
   |true=>
    exfalso
    unfold Lib.hasSuffix at hq
    rw[List.isSuffixOf_iff_suffix,h2]at hq
    obtain⟨pre,hp⟩:=hq
    by_cases hle:last=[]
    ·have hin:init=[]:=by
      rcases hc with h|h
      ·exact List.length_eq_zero_iff.1 (by omega)
      ·exact absurd (by rw[hle];rfl) h
     rw[hle,hin]at hp
     simp[textB]at hp
    ·have e1:(pre++[10]).getLast?=some 10:=by rw[List.getLast?_concat]
     rw[hp]at e1
     have e2:(textB init++last).getLast?=last.getLast?:=by
      rw[List.getLast?_append]
      cases hl2:last.getLast? with
      |none=>exact absurd (List.getLast?_eq_none_iff.1 hl2) hle
      |some c=>rfl
     rw[e2]at e1
     exact h4 (List.mem_of_getLast? e1)
  unfold asmL
  rw[decide_eq_false (show¬65536<s.size by omega),hs]
  rfl
 ·rw[if_neg hc]
  have hle:last=[]:=by
   by_cases h:mkL last=⟨#[]⟩
   ·exact mkL_nil h
   ·exact absurd (.inr h) hc
  have hin:0<init.length:=by
   by_cases h:init.length+1=1
   ·exact absurd (.inl h) hc
   ·omega
  rw[hle,List.append_nil]at h2
  rw[asmL_T hin h2 h3 hz]
  exact parses_law _
theorem ext_list (s:ByteArray)(a b:Nat):(s.extract a b).data.toList=(s.data.toList.drop a).take (b - a):=by
 rw[ByteArray.data_extract,Array.toList_extract,List.extract_eq_take_drop]
def LnRel (w:World)(s:ByteArray)(N:Nat)(gk:Nat)(v3 v4 v8:Value)(wr:World):Prop:=
 ∃(i fr:Nat) (out:List ByteArray),v8= .int .i64 i∧v4= .int .i64 fr∧i≤s.size∧fr≤i∧gk=s.size - i∧out.length≤i∧RowAt wr 9 v3 out∧(∀g,v3.ownBlock=some g→N≤g)∧out.map (·.data.toList)++cutL (s.data.toList.drop i) ((s.data.toList.drop fr).take (i - fr))=cutL s.data.toList []∧Below N w wr
theorem take_next {l:List UInt8}{a i:Nat}{c:UInt8}(h:l[i]? =some c)(hai:a≤i):(l.drop a).take (i - a)++[c]=(l.drop a).take (i+1 - a):=by
 rw[show i+1 - a=(i - a)+1 by omega,List.take_add_one,List.getElem?_drop,show a+(i - a)=i by omega,h]
 rfl
theorem lines_any (s:ByteArray)(w:World)(hs:s.size≤4000):Calls Tryz.prog 37 #[.string s] w fun e w'=>∃v,e= .returned v∧Hid (RowAt w' 9 v (linesB s)∧(∀g,v.ownBlock=some g→w.heap.size≤g)∧Below w.heap.size w w'):=by
 go_enter Tryz.func37,Tryz.ntmps37
 go_wp2_with fail
 go_loopg [3,4,8] (s.size) (fun gk v3 v4 v8 wr=>LnRel w s w.heap.size gk v3 v4 v8 wr)
 case atStart=>exact⟨0,0,[],rfl,rfl,Nat.zero_le _,Nat.le_refl _,rfl,Nat.le_refl _,RowAt.nil _ _,(fun g h=>by cases h),by simp,Below.refl _ _⟩
 case round=>
  obtain⟨i,fr,out,rfl,rfl,hi,hf,hgk,hol,hR,hO,hcut,hB⟩:=hrel
  obtain⟨oa,oc,rfl⟩:=hR.slice
  have hss:s.data.toList.length=s.size:=by simp
  by_cases hin:i<s.size
  ·have hin':(i:Int)<s.size:=by omega
   have hget:s.data.toList[i]? =some s[i]:=by
    rw[List.getElem?_eq_getElem (by rw[hss];exact hin)]
    simp
    rfl
   rw[drop_at hin,cutL]at hcut
   have HMS:=zhd (show s.size - (i+1)<gk from by omega)
   have HT:=zhd (take_next hget hf)
   have hi1:i+1≤s.size:=by omega
   have hfi:(fr:Int)≤i:=by omega
   have hos:(out.length+1)*16≤140737488355328:=by omega
   have hol1:out.length+1≤i+1:=by omega
   have hol2:out.length≤i+1:=by omega
   have hfi1:fr≤i+1:=by omega
   have hmx:out.length+1≤maxLen:=by unfold maxLen;omega
   have HJW:=zhd (show wrap64 ((i:Int)+1)=(i:Int)+1 from by unfold wrap64;omega)
   have HX:=zh3 hR hO hB
   have h255:=s[i].toNat_lt
   generalize hc:s[i]=c at*
   clear hR hO hB hgk hss hget
   cases h10:(c==10)with
   |true=>
    have h10':((c.toNat:Int)==10)=true:=by have:c=10:=by simpa using h10
                                           subst this;rfl
    rw[h10]at hcut
    simp only[cond_true]at hcut
    have HC:=zhd hcut
    clear hcut h255
    go_wp2_with (at_builtin;go_must (refine wp_appW (α:=ByteArray) elemS rfl (.tmp 15) (.tmp 20) rfl (HX.out.1.alloc _) (s.extract fr i) rfl rfl (heap_alloc_new _ _) hos hmx ?_);intro a1 q1 w2 hr1 hk1 hf1;have HF:=zh3 hr1 hk1 hf1;clear hr1 hk1 hf1)
    have hjw:=HJW.out
    go_roundg (s.size - (i+1))
    case measure=>exact HMS.out
    case rel=>
     have hb:=HX.out.2.2
     refine⟨i+1,i+1,out++[s.extract fr i],by simp,by simp,hi1,Nat.le_refl _,rfl,by rw[List.length_append];exact hol1,HF.out.1,fun g hg=> ?_,?_,?_⟩
     ·rcases HF.out.2.2 g (by simpa using hg)with h|h
      ·exact HX.out.2.1 g h
      ·have:=hb.size;simp at h;omega
     ·rw[←HC.out,List.map_append,List.append_assoc,Nat.sub_self,List.take_zero,List.map_singleton,ext_list]
      rfl
     ·exact hb.trans (((Below.refl _ _).alloc hb.size _).trans (HF.out.2.1.below (by have:=hb.size;simp;omega) (fun j hj e=>by have:=HX.out.2.1 j e;omega)))
   |false=>
    have h10':((c.toNat:Int)==10)=false:=by
     rw[beq_eq_false_iff_ne]at h10⊢
     intro e
     exact h10 (u8_of (n:=10) (by omega))
    rw[h10]at hcut
    simp only[cond_false]at hcut
    rw[HT.out]at hcut
    have HC:=zhd hcut
    clear hcut h255
    go_wp2_with fail
    go_roundg (s.size - (i+1))
    case measure=>exact HMS.out
    case rel=>exact⟨i+1,fr,out,by simp,rfl,hi1,hfi1,rfl,hol2,HX.out.1,HX.out.2.1,HC.out,HX.out.2.2⟩
  ·obtain rfl:i=s.size:=by omega
   have hii:¬(s.size:Int)<s.size:=by omega
   rw[List.drop_eq_nil_of_le (by omega),cutL,List.take_of_length_le (by rw[List.length_drop];omega)]at hcut
   have hfi:(fr:Int)≤s.size:=by omega
   have hos:(out.length+1)*16≤140737488355328:=by omega
   have hmx:out.length+1≤maxLen:=by unfold maxLen;omega
   have hext:(s.extract fr s.size).data.toList=s.data.toList.drop fr:=by
    rw[ext_list,List.take_of_length_le (by rw[List.length_drop];omega)]
   have hall:out++[s.extract fr s.size]=linesB s:=by
    unfold linesB
    rw[←hcut,List.map_append,List.map_map]
    have:(mkL∘fun x:ByteArray=>x.data.toList)=id:=by funext x;exact mkL_of x
    rw[this,List.map_id,List.map_singleton,←hext,mkL_of]
   have HX:=zh4 hR hO hB hall
   clear hR hO hB hgk hcut hss hext hall
   go_wp2_with (at_builtin;go_must (refine wp_appW (α:=ByteArray) elemS rfl (.tmp 25) (.tmp 29) rfl (HX.out.1.alloc _) (s.extract fr s.size) rfl rfl (heap_alloc_new _ _) hos hmx ?_);intro a1 q1 w2 hr1 hk1 hf1;have HF:=zh3 hr1 hk1 hf1;clear hr1 hk1 hf1)
   go_ret
   have hb:=HX.out.2.2.1
   refine⟨_,rfl,zhd ⟨by have:=HF.out.1;rw[HX.out.2.2.2]at this;exact this,fun g hg=> ?_,?_⟩⟩
   ·rcases HF.out.2.2 g (by simpa using hg)with h|h
    ·exact HX.out.2.1 g h
    ·have:=hb.size;simp at h;omega
   ·exact hb.trans (((Below.refl _ _).alloc hb.size _).trans (HF.out.2.1.below (by have:=hb.size;simp;omega) (fun j hj e=>by have:=HX.out.2.1 j e;omega)))
theorem fault_any (i:Nat)(er:Int)(w:World)(hi:i≤4000):Calls Tryz.prog 39 #[.int .i64 i,.int .i64 er] w fun e w'=>e= .returned (.tuple #[.slice none 0 0,.agg #[.int .i64 ((i:Int)+1),.int .i64 er]])∧Below w.heap.size w w':=by
 have hw1:IntKind.i64.wrap ((i:Int)+1)=(i:Int)+1:=IntWalk.i64_in _ (by omega)
 clear hi
 go_enter Tryz.func39,Tryz.ntmps39
 go_wp2_with fail
 refine bodyPost_ret (v:=.tuple #[.slice none 0 0,.agg #[.int .i64 ((i:Int)+1),.int .i64 er]]) (by simp only[results,Tryz.results39];go_simp) rfl ⟨rfl,?_⟩
 exact zal
end Go.Proofs.YtakljipkaoahnaaGreatDoor
namespace Go.Va
open Go.Own Go.RowKit Go.Own.MapTy Go.Sort
open Go.Own.Cells (sz enc)
theorem IAt.below {F:Nat→Prop}{w w':World}{i:IC}{p:Img}(h:IAt F w i p)(B:Below w.heap.size w w'):IAt F w' i p:=h.keep (S:=fun _=>False) (zkb B) (fun _ _ f=>f)
theorem IAt.code_at {F:Nat→Prop}{w wr:World}{i:IC}{p:Img}(h:IAt F w i p)(B:Below w.heap.size w wr){k:Nat}{c:In}(hx:p.code[k]? =some c):∃g off,i.ca=some ⟨g,off,none⟩∧F g∧g<w.heap.size∧g<wr.heap.size∧wr.cell? ⟨g,off+k*2,none⟩=some (.int .i64 c.op)∧wr.cell? ⟨g,off+k*2+1,none⟩=some (.int .i64 c.a):=by
 obtain⟨_,_,g,off,ha,hel⟩:=h.code.elems
 obtain⟨hF,hg,hcs⟩:=hel k c hx
 have ha:=ha.resolve_right (fun e=>by rw[e]at hx;simp at hx)
 have m0:=hcs 0 _ rfl
 have m1:=hcs 1 _ rfl
 rw[show off+(k*sz In+0)=off+k*2 from rfl,←B.cell (p:=⟨g,_,none⟩) hg]at m0
 rw[show off+(k*sz In+1)=off+k*2+1 from rfl,←B.cell (p:=⟨g,_,none⟩) hg]at m1
 exact⟨g,off,ha,hF,hg,Nat.lt_of_lt_of_le hg B.size,m0,m1⟩
theorem IAt.name_at {F:Nat→Prop}{w wr:World}{i:IC}{p:Img}(h:IAt F w i p)(B:Below w.heap.size w wr){k:Nat}{c:ByteArray}(hx:p.names[k]? =some c):∃g off,i.na=some ⟨g,off,none⟩∧F g∧g<w.heap.size∧g<wr.heap.size∧wr.cell? ⟨g,off+k,none⟩=some (.string c):=by
 obtain⟨_,_,g,off,ha,hel⟩:=h.names.elems
 obtain⟨hF,hg,hcs⟩:=hel k c hx
 have ha:=ha.resolve_right (fun e=>by rw[e]at hx;simp at hx)
 have m0:=hcs 0 _ rfl
 rw[show off+(k*sz ByteArray+0)=off+k from by simp[Cells.sz],←B.cell (p:=⟨g,_,none⟩) hg]at m0
 exact⟨g,off,ha,hF,hg,Nat.lt_of_lt_of_le hg B.size,m0⟩
theorem IAt.const_at {F:Nat→Prop}{w wr:World}{i:IC}{p:Img}(h:IAt F w i p)(B:Below w.heap.size w wr){k:Nat}{x:Val}(hx:p.consts[k]? =some x):∃g off c,i.ka=some ⟨g,off,none⟩∧F g∧g<w.heap.size∧g<wr.heap.size∧CF F wr c x∧
  wr.cell? ⟨g,off+k*4,none⟩=some (.int .i64 c.kind)∧wr.cell? ⟨g,off+k*4+1,none⟩=some (.int .i64 c.n)∧wr.cell? ⟨g,off+k*4+2,none⟩=some (.string c.s)∧wr.cell? ⟨g,off+k*4+3,none⟩=some (.slice c.la c.ln c.lc):=by
 obtain⟨_,_,hel⟩:=h.consts.elems
 obtain⟨g,off,ha,hF,hg,hel⟩:=hel.resolve_left (fun e=>by rw[e]at hx;simp at hx)
 obtain⟨c,hC,m0,m1,m2,m3⟩:=hel k x hx
 rw[←B.cell (p:=⟨g,_,none⟩) hg]at m0 m1 m2 m3
 exact⟨g,off,c,ha,hF,hg,Nat.lt_of_lt_of_le hg B.size,hC.keep (S:=fun _=>False) (zkb B) (fun _ _ f=>f),m0,m1,m2,m3⟩
end Go.Va
namespace Go.Proofs.YtakljipkaoahnaaGreatDoor
open Go.RowKit Go.Own Go.Own.MapTy Go.Va Go.Sort
open Go.Own.Cells (sz enc)
def BoxI (w:World)(b:Nat)(i:IC):Prop:=w.heap[b]? =some (.cells #[.slice i.ca i.cn i.cc,.slice i.ka i.kn i.kc,.slice i.na i.nn i.nc,.int .i64 i.pl] 27 (0,0))
theorem BoxI.c0 {w:World}{b:Nat}{i:IC}(h:BoxI w b i):w.cell? ⟨b,0,none⟩=some (.slice i.ca i.cn i.cc):=by rw[zch h];rfl
theorem BoxI.c1 {w:World}{b:Nat}{i:IC}(h:BoxI w b i):w.cell? ⟨b,1,none⟩=some (.slice i.ka i.kn i.kc):=by rw[zch h];rfl
theorem BoxI.c2 {w:World}{b:Nat}{i:IC}(h:BoxI w b i):w.cell? ⟨b,2,none⟩=some (.slice i.na i.nn i.nc):=by rw[zch h];rfl
theorem BoxI.c3 {w:World}{b:Nat}{i:IC}(h:BoxI w b i):w.cell? ⟨b,3,none⟩=some (.int .i64 i.pl):=by rw[zch h];rfl
theorem BoxI.lt {w:World}{b:Nat}{i:IC}(h:BoxI w b i):b<w.heap.size:=zlt h
theorem BoxI.below {w w':World}{b:Nat}{i:IC}(h:BoxI w b i)(B:Below w.heap.size w w'):BoxI w' b i:=(B.block b h.lt).trans h
theorem drop_get {α:Type}{l:List α}{i:Nat}{x:α}(h:l[i]? =some x):l.drop i=x::l.drop (i+1):=by
 rw[List.drop_eq_getElem_cons (zge h).1,(zge h).2]
theorem boxI_new (w:World)(i:IC):BoxI (w.alloc (.cells #[.slice i.ca i.cn i.cc,.slice i.ka i.kn i.kc,.slice i.na i.nn i.nc,.int .i64 i.pl] 27)) w.heap.size i:=heap_alloc_new _ _
end Go.Proofs.YtakljipkaoahnaaGreatDoor
namespace Go.Va
open Go.Own Go.RowKit
structure SC where
 op:Int
 n:Int
 line:Int
 v:VC
 label:ByteArray
def scEnc (c:SC):List Value:=[.int .i64 c.op,.int .i64 c.n,.int .i64 c.line,.int .i64 c.v.kind,.int .i64 c.v.n,.string c.v.s,.slice c.v.la c.v.ln c.v.lc,.string c.label]
instance:Cells SC where
 sz:=8
 enc:=scEnc
 len:=fun _=>rfl
 one:=by
  intro x v hv
  simp[scEnc]at hv
  rcases hv with rfl|rfl|rfl|rfl|rfl|rfl|rfl|rfl<;>rfl
end Go.Va
namespace Go.Proofs.YtakljipkaoahnaaGreatDoor
open Go.RowKit Go.Own Go.Own.MapTy Go.Va Go.Sort
open Go.Own.Cells (sz enc)
theorem elemSC:ElemOf SC Tryz.prog 33 41 96:=elem_mk Tryz.underlying33 (z:=.agg #[.int .i64 0,.int .i64 0,.int .i64 0,.int .i64 0,.int .i64 0,.string .empty,.slice none 0 0,.string .empty]) (n:=8) (by kernel_rfl) rfl rfl
theorem elemI64:ElemOf Int Tryz.prog 49 3 8:=elem_mk Tryz.underlying49 (z:=.int .i64 0) (n:=1) (by kernel_rfl) rfl rfl
structure SCF (F:Nat→Prop)(w:World)(c:SC)(x:SR):Prop where
 op:c.op=x.op
 n:c.n=x.n
 line:c.line=x.line
 v:CF F w c.v x.v
 label:c.label=x.label
theorem SCF.keep {F S:Nat→Prop}{w w':World}{c:SC}{x:SR}(h:SCF F w c x)(K:Keeps S w w')(hs:∀g,F g→¬S g):SCF F w' c x:=⟨h.op,h.n,h.line,h.v.keep K hs,h.label⟩
theorem SCF.mono {F G:Nat→Prop}{w:World}{c:SC}{x:SR}(h:SCF F w c x)(hs:∀g,F g→g<w.heap.size→G g):SCF G w c x:=⟨h.op,h.n,h.line,h.v.mono hs,h.label⟩
def SRow (F:Nat→Prop)(w:World)(v:Value)(l:List SR):Prop:=
 ∃cs:List SC,RowAt w 41 v cs∧cs.length=l.length∧∀(i:Nat) (c:SC) (x:SR),cs[i]? =some c→l[i]? =some x→SCF F w c x
theorem SRow.nil (F:Nat→Prop)(w:World):SRow F w (.slice none 0 0) []:=⟨[],RowAt.nil _ _,rfl,fun i c x h=>by simp at h⟩
theorem SRow.keep {F S:Nat→Prop}{w w':World}{v:Value}{l:List SR}(h:SRow F w v l)(K:Keeps S w w')(hs:∀g,F g→¬S g)(hv:∀g,v.ownBlock=some g→¬S g):SRow F w' v l:=by
 obtain⟨cs,h1,h2,h3⟩:=h
 exact⟨cs,h1.keep K hv,h2,fun i c x hc hx=>(h3 i c x hc hx).keep K hs⟩
theorem SRow.mono {F G:Nat→Prop}{w:World}{v:Value}{l:List SR}(h:SRow F w v l)(hs:∀g,F g→g<w.heap.size→G g):SRow G w v l:=by
 obtain⟨cs,h1,h2,h3⟩:=h
 exact⟨cs,h1,h2,fun i c x hc hx=>(h3 i c x hc hx).mono hs⟩
theorem SRow.below {F:Nat→Prop}{w w':World}{v:Value}{l:List SR}(h:SRow F w v l)(B:Below w.heap.size w w'):SRow F w' v l:=h.keep (S:=fun _=>False) (zkb B) (fun _ _ f=>f) (fun _ _ f=>f)
theorem SRow.slice {F:Nat→Prop}{w:World}{v:Value}{l:List SR}(h:SRow F w v l):∃a cap,v= .slice a l.length cap:=by
 obtain⟨cs,h1,h2,h3⟩:=h
 obtain⟨a,cap,h⟩:=h1.slice
 exact⟨a,cap,by rw[←h2];exact h⟩
theorem SRow.lt {F:Nat→Prop}{w:World}{v:Value}{l:List SR}(h:SRow F w v l){g:Nat}(hg:v.ownBlock=some g):g<w.heap.size:=by
 obtain⟨cs,h1,_⟩:=h
 exact h1.lt hg
theorem SRow.at_ {F:Nat→Prop}{w:World}{a:Option Addr}{n cap:Nat}{l:List SR}(h:SRow F w (.slice a n cap) l){i:Nat}{x:SR}(hx:l[i]? =some x):∃g off c,a=some ⟨g,off,none⟩∧g<w.heap.size∧SCF F w c x∧(∀o,w.frozen? ⟨g,o,none⟩=false)∧
  w.cell? ⟨g,off+i*8,none⟩=some (.int .i64 c.op)∧w.cell? ⟨g,off+i*8+1,none⟩=some (.int .i64 c.n)∧w.cell? ⟨g,off+i*8+2,none⟩=some (.int .i64 c.line)∧w.cell? ⟨g,off+i*8+3,none⟩=some (.int .i64 c.v.kind)∧w.cell? ⟨g,off+i*8+4,none⟩=some (.int .i64 c.v.n)∧w.cell? ⟨g,off+i*8+5,none⟩=some (.string c.v.s)∧w.cell? ⟨g,off+i*8+6,none⟩=some (.slice c.v.la c.v.ln c.v.lc)∧w.cell? ⟨g,off+i*8+7,none⟩=some (.string c.label):=by
 obtain⟨cs,h1,h2,h3⟩:=h
 obtain⟨c,hc⟩:=elem_at (l:=cs) (k:=i) (by rw[h2];exact(zge hx).1)
 obtain⟨g,off,rfl,hg⟩:=h1.addr hc
 have q:=fun j hj=>h1.cell hc (j:=j) hj
 exact⟨g,off,c,rfl,hg,h3 i c x hc hx,fun o=>h1.frozen o,q 0 (by decide),q 1 (by decide),q 2 (by decide),q 3 (by decide),q 4 (by decide),q 5 (by decide),q 6 (by decide),q 7 (by decide)⟩
def ZF (N:Nat)(v5 v6 v7:Value)(g:Nat):Prop:=N≤g∧v5.ownBlock≠some g∧v6.ownBlock≠some g∧v7.ownBlock≠some g
structure RdS (N:Nat)(W:World)(v5 v6 v7:Value)(t:RT):Prop where
 out:SRow (ZF N v5 v6 v7) W v5 t.out
 names:RowAt W 9 v6 t.names
 at_:RowAt W 3 v7 t.at_
 o5:∀g,v5.ownBlock=some g→N≤g∧v6.ownBlock≠some g∧v7.ownBlock≠some g
 o6:∀g,v6.ownBlock=some g→N≤g∧v7.ownBlock≠some g
 o7:∀g,v7.ownBlock=some g→N≤g
theorem RdS.below {N:Nat}{W W':World}{v5 v6 v7:Value}{t:RT}(R:RdS N W v5 v6 v7 t)(B:Below W.heap.size W W'):RdS N W' v5 v6 v7 t:=⟨R.out.below B,R.names.below B,R.at_.below B,R.o5,R.o6,R.o7⟩
theorem RdS.new (N:Nat)(W:World):RdS N W (.slice none 0 0) (.slice none 0 0) (.slice none 0 0) rt0:=⟨SRow.nil _ _,RowAt.nil _ _,RowAt.nil _ _,(fun g h=>by cases h),(fun g h=>by cases h),(fun g h=>by cases h)⟩
theorem RdS.put6 {N:Nat}{W W1:World}{v5 v6 v7 v6':Value}{t:RT}{l:List ByteArray}(R:RdS N W v5 v6 v7 t)(hN:N≤W.heap.size)(r:RowAt W1 9 v6' l)(K:Keeps (fun j=>v6.ownBlock=some j) W W1)(f:∀g,v6'.ownBlock=some g→v6.ownBlock=some g∨W.heap.size≤g):RdS N W1 v5 v6' v7 {t with names:=l}:=by
 have l5:=fun g (h:v5.ownBlock=some g)=>R.out.lt h
 have l7:=fun g (h:v7.ownBlock=some g)=>R.at_.lt h
 refine⟨((R.out.mono (G:=fun g=>ZF N v5 v6 v7 g∧g<W.heap.size) (fun g h hl=>⟨h,hl⟩)).keep K (fun g h e=>h.1.2.2.1 e) (fun g h e=>(R.o5 g h).2.1 e)).mono (fun g h _=>⟨h.1.1,h.1.2.1,fun e=> ?_,h.1.2.2.2⟩),r,R.at_.keep K (fun g h e=>(R.o6 g e).2 h),fun g h=>⟨(R.o5 g h).1,fun e=> ?_,(R.o5 g h).2.2⟩,fun g h=> ?_,R.o7⟩
 ·rcases f g e with e|e
  ·exact h.1.2.2.1 e
  ·have:=h.2;omega
 ·rcases f g e with e|e
  ·exact(R.o5 g h).2.1 e
  ·have:=l5 g h;omega
 ·rcases f g h with e|e
  ·exact R.o6 g e
  ·exact⟨by omega,fun e2=>by have:=l7 g e2;omega⟩
theorem RdS.put7 {N:Nat}{W W1:World}{v5 v6 v7 v7':Value}{t:RT}{l:List Int}(R:RdS N W v5 v6 v7 t)(hN:N≤W.heap.size)(r:RowAt W1 3 v7' l)(K:Keeps (fun j=>v7.ownBlock=some j) W W1)(f:∀g,v7'.ownBlock=some g→v7.ownBlock=some g∨W.heap.size≤g):RdS N W1 v5 v6 v7' {t with at_:=l}:=by
 have l5:=fun g (h:v5.ownBlock=some g)=>R.out.lt h
 have l6:=fun g (h:v6.ownBlock=some g)=>R.names.lt h
 refine⟨((R.out.mono (G:=fun g=>ZF N v5 v6 v7 g∧g<W.heap.size) (fun g h hl=>⟨h,hl⟩)).keep K (fun g h e=>h.1.2.2.2 e) (fun g h e=>(R.o5 g h).2.2 e)).mono (fun g h _=>⟨h.1.1,h.1.2.1,h.1.2.2.1,fun e=> ?_⟩),R.names.keep K (fun g h e=>(R.o6 g h).2 e),r,fun g h=>⟨(R.o5 g h).1,(R.o5 g h).2.1,fun e=> ?_⟩,fun g h=>⟨(R.o6 g h).1,fun e=> ?_⟩,fun g h=> ?_⟩
 ·rcases f g e with e|e
  ·exact h.1.2.2.2 e
  ·have:=h.2;omega
 ·rcases f g e with e|e
  ·exact(R.o5 g h).2.2 e
  ·have:=l5 g h;omega
 ·rcases f g e with e|e
  ·exact(R.o6 g h).2 e
  ·have:=l6 g h;omega
 ·rcases f g h with e|e
  ·exact R.o7 g e
  ·omega
theorem RdS.put5 {N:Nat}{W W1:World}{v5 v6 v7 v5':Value}{t:RT}{cs:List SC}{c:SC}{x:SR}(R:RdS N W v5 v6 v7 t)(hN:N≤W.heap.size)(hl:cs.length=t.out.length)(hc:∀(i:Nat) (c:SC) (x:SR),cs[i]? =some c→t.out[i]? =some x→SCF (ZF N v5 v6 v7) W c x)(hx:SCF (ZF N v5 v6 v7) W c x)
  (r:RowAt W1 41 v5' (cs++[c]))(K:Keeps (fun j=>v5.ownBlock=some j) W W1)(f:∀g,v5'.ownBlock=some g→v5.ownBlock=some g∨W.heap.size≤g):RdS N W1 v5' v6 v7 {t with out:=t.out++[x]}:=by
 have l6:=fun g (h:v6.ownBlock=some g)=>R.names.lt h
 have l7:=fun g (h:v7.ownBlock=some g)=>R.at_.lt h
 have up:∀{c x},SCF (ZF N v5 v6 v7) W c x→SCF (ZF N v5' v6 v7) W1 c x:=fun h=>((h.mono (G:=fun g=>ZF N v5 v6 v7 g∧g<W.heap.size) (fun g h hl=>⟨h,hl⟩)).keep K (fun g h e=>h.1.2.1 e)).mono (fun g h _=>⟨h.1.1,(fun e=>(f g e).elim h.1.2.1 (fun e=>by have:=h.2;omega)),h.1.2.2⟩)
 refine⟨⟨cs++[c],r,by simp[hl],fun i c' x' hc' hx'=> ?_⟩,R.names.keep K (fun g h e=>(R.o5 g e).2.1 h),R.at_.keep K (fun g h e=>(R.o5 g e).2.2 h),fun g h=> ?_,R.o6,R.o7⟩
 ·rcases get_app_last hc' with h|⟨h,rfl⟩
  ·have hi:=lt_of_get h
   rw[List.getElem?_append_left (by omega)]at hx'
   exact up (hc i c' x' h hx')
  ·rw[h,hl,List.getElem?_append_right (Nat.le_refl _)]at hx'
   simp at hx'
   subst hx'
   exact up hx
 ·rcases f g h with e|e
  ·exact R.o5 g e
  ·exact⟨by omega,fun e2=>by have:=l6 g e2;omega,fun e2=>by have:=l7 g e2;omega⟩
theorem RdS.fresh {N:Nat}{W0 W:World}{v5 v6 v7:Value}{t:RT}(R:RdS N W0 v5 v6 v7 t)(hN:N≤W0.heap.size){c:VC}{x:Val}(h:CF (fun g=>W0.heap.size≤g) W c x):CF (ZF N v5 v6 v7) W c x:=
 h.mono (fun g hg _=>⟨by omega,fun e=>by have:=R.out.lt e;omega,fun e=>by have:=R.names.lt e;omega,fun e=>by have:=R.at_.lt e;omega⟩)
theorem SRow.setN {F:Nat→Prop}{W:World}{g off n cap:Nat}{l:List SR}(R:SRow F W (.slice (some ⟨g,off,none⟩) n cap) l)(hF:¬F g){i:Nat}{x:SR}(hx:l[i]? =some x)(a:Int):SRow F (W.setCell ⟨g,off+i*8+1,none⟩ (.int .i64 a)) (.slice (some ⟨g,off,none⟩) n cap) (l.set i {x with n:=a}):=by
 obtain⟨cs,h1,h2,h3⟩:=R
 obtain⟨c,hc⟩:=elem_at (l:=cs) (k:=i) (by rw[h2];exact lt_of_get hx)
 have S:=h1.setOne hc (y:={c with n:=a}) (j:=1) (u:=.int .i64 a) (by decide) rfl
 rw[show off+(i*sz SC+1)=off+i*8+1 from rfl]at S
 have K:Keeps (fun j=>j=g) W (W.setCell ⟨g,off+i*8+1,none⟩ (.int .i64 a)):=Keeps.setCell (S:=fun j=>j=g) (p:=⟨g,off+i*8+1,none⟩) (Keeps.refl _ _) (.inl rfl) _
 refine⟨cs.set i {c with n:=a},S,by simp[h2],fun j c' x' hc' hx'=> ?_⟩
 rw[List.getElem?_set]at hc' hx'
 by_cases e:i=j
 ·subst e
  rw[if_pos rfl,if_pos (lt_of_get hc)]at hc'
  rw[if_pos rfl,if_pos (lt_of_get hx)]at hx'
  cases hc'
  cases hx'
  have:=(h3 i c x hc hx).keep K (fun j hj e=>hF (e▸hj))
  exact⟨this.op,rfl,this.line,this.v,this.label⟩
 ·rw[if_neg e]at hc' hx'
  exact(h3 j c' x' hc' hx').keep K (fun j hj e=>hF (e▸hj))
theorem pre_short {s:ByteArray}(h:s.size<2):Lib.hasPrefix s.data.toList [32,32]=false:=by
 have hl:s.data.toList.length=s.size:=by simp
 unfold Lib.hasPrefix
 generalize s.data.toList=l at*
 match l,hl with
 |[],_=>rfl
 |[a],_=>simp[List.isPrefixOf]
 |a::b::r,hl=>simp at hl;omega
theorem pre_two {s:ByteArray}(h:¬s.size<2):Lib.hasPrefix s.data.toList [32,32]=((s.extract 0 2).toList==[32,32]):=by
 have hl:s.data.toList.length=s.size:=by simp
 rw[ByteArray.toList_eq,ext_list]
 unfold Lib.hasPrefix
 generalize s.data.toList=l at*
 match l,hl with
 |[],hl=>simp at hl;omega
 |[a],hl=>simp at hl;omega
 |a::b::r,hl=>
  show((32:UInt8)==a&&((32:UInt8)==b&&true))=([a,b]==[32,32])
  rw[Bool.eq_iff_iff,Bool.and_true,Bool.and_eq_true,beq_iff_eq,beq_iff_eq,beq_iff_eq]
  constructor
  ·rintro⟨rfl,rfl⟩;rfl
  ·intro h
   injection h with h1 h2
   injection h2 with h2 _
   exact⟨h1.symm,h2.symm⟩
def idx32:List UInt8→Nat
 |[]=>0
 |c::r=>bif c==32 then 0 else idx32 r+1
theorem idx32_le:∀l:List UInt8,idx32 l≤l.length
 |[]=>Nat.le_refl _
 |c::r=>by
  rw[idx32]
  have:=idx32_le r
  cases(c==32)<;>simp<;>omega
theorem idx32_cut:∀l:List UInt8,(32:UInt8)∉l.take (idx32 l)∧(idx32 l<l.length→l=l.take (idx32 l)++32::l.drop (idx32 l+1))
 |[]=>⟨by simp,fun h=>by simp[idx32]at h⟩
 |c::r=>by
  obtain⟨h1,h2⟩:=idx32_cut r
  rw[idx32]
  cases hc:(c==32)with
  |true=>
   have:c=32:=by simpa using hc
   subst this
   exact⟨by simp,fun _=>by simp⟩
  |false=>
   have hc:c≠32:=by simpa using hc
   simp only[cond_false]
   refine⟨by simp[h1,Ne.symm hc],fun h=> ?_⟩
   have:=h2 (by simpa using h)
   rw[List.take_succ_cons,List.drop_succ_cons,List.cons_append,←this]
theorem cut_idx (l:List UInt8):Lib.cut l [32]=(l.take (idx32 l),l.drop (idx32 l+1),decide (idx32 l<l.length)):=by
 obtain⟨h1,h2⟩:=idx32_cut l
 by_cases h:idx32 l<l.length
 ·have h3:=h2 h
  rw[decide_eq_true h]
  conv=>lhs;rw[h3]
  exact cut_some h1
 ·have hle:idx32 l=l.length:=by have:=idx32_le l;omega
  rw[decide_eq_false h,hle,List.take_length,List.drop_eq_nil_of_le (by omega)]
  rw[hle,List.take_length]at h1
  exact cut_none h1
theorem cut_ext {x u:ByteArray}(hp:Lib.hasPrefix x.data.toList [32,32]=true)(hu:u=x.extract 2 x.size):cutN x=u.extract 0 (idx32 u.data.toList)∧cutR x=u.extract (idx32 u.data.toList+1) u.size∧cutM x=decide (idx32 u.data.toList<u.size):=by
 have ht:Lib.trimPrefix x.data.toList [32,32]=u.data.toList:=by
  unfold Lib.trimPrefix
  rw[if_pos hp,hu,ext_list,List.take_of_length_le (by simp)]
  rfl
 have hl:u.data.toList.length=u.size:=by simp
 unfold cutN cutR cutM
 rw[ht,cut_idx]
 refine⟨?_,?_,?_⟩
 ·apply bytes_inj.1
  rw[ext_list]
  show(List.take (idx32 u.data.toList) u.data.toList).toArray.toList=_
  simp
 ·apply bytes_inj.1
  rw[ext_list]
  show(List.drop (idx32 u.data.toList+1) u.data.toList).toArray.toList=_
  rw[List.take_of_length_le (by rw[List.length_drop];omega)]
 ·rw[hl]
def lineI (x:ByteArray):LM:=match findL (cutN x)with
 |none=>.bad 110
 |some op=>if cutM x≠((ofL op).1.operand !=0)then .bad 8 else if cutM x=true then operM op (ofL op).1.operand (cutR x)else .ins op (.int 0)
theorem lineM_I {x:ByteArray}(h1:isLab x=false)(h2:Lib.hasPrefix x.data.toList [32,32]=true):lineM x=lineI x:=by
 unfold lineM lineI
 rw[if_neg (by rw[h1];simp),if_neg (by rw[h2];simp)]
 cases findL (cutN x)<;>rfl
def StB (w:World)(b:Nat)(op n line:Int)(c:VC)(l:ByteArray):Prop:=w.heap[b]? =some (.cells #[.int .i64 op,.int .i64 n,.int .i64 line,.int .i64 c.kind,.int .i64 c.n,.string c.s,.slice c.la c.ln c.lc,.string l] 41 (0,0))
theorem StB.all {w:World}{b:Nat}{op n line:Int}{c:VC}{l:ByteArray}(h:StB w b op n line c l):w.cell? ⟨b,0,none⟩=some (.int .i64 op)∧w.cell? ⟨b,1,none⟩=some (.int .i64 n)∧w.cell? ⟨b,2,none⟩=some (.int .i64 line)∧w.cell? ⟨b,3,none⟩=some (.int .i64 c.kind)∧w.cell? ⟨b,4,none⟩=some (.int .i64 c.n)∧w.cell? ⟨b,5,none⟩=some (.string c.s)∧w.cell? ⟨b,6,none⟩=some (.slice c.la c.ln c.lc)∧w.cell? ⟨b,7,none⟩=some (.string l)∧(∀o,w.frozen? ⟨b,o,none⟩=false)∧b<w.heap.size:=
 ⟨by rw[zch h];rfl,by rw[zch h];rfl,by rw[zch h];rfl,by rw[zch h];rfl,by rw[zch h];rfl,by rw[zch h];rfl,by rw[zch h];rfl,by rw[zch h];rfl,fun o=>zfr h o,zlt h⟩
theorem StB.setOp {w:World}{b:Nat}{op n line:Int}{c:VC}{l:ByteArray}(h:StB w b op n line c l)(k:Int):StB (w.setCell ⟨b,0,none⟩ (.int .i64 k)) b k n line c l:=by
 unfold StB at h⊢
 simp[World.setCell,Array.getElem?_modify,h]
theorem StB.below {w w':World}{b:Nat}{op n line:Int}{c:VC}{l:ByteArray}(h:StB w b op n line c l)(B:Below w.heap.size w w'):StB w' b op n line c l:=(B.block b (zlt h)).trans h
def lastF (nm:ByteArray):Nat→Int
 |0=> -1
 |k+1=>if(ofL (k:Int)).1.name=nm then(k:Int)else lastF nm k
theorem lastF_none {nm:ByteArray}(h:findL nm=none):∀k,k≤33→lastF nm k= -1
 |0,_=>rfl
 |k+1,hk=>by
  rw[lastF,if_neg,lastF_none h k (by omega)]
  intro e
  have hf:=(opfind (op:=(k:Int)) (ok_fin ⟨k,by omega⟩)).1
  rw[e,h]at hf
  cases hf
theorem lastF_some {nm:ByteArray}{op:Nat}(h:findL nm=some op):∀k,k≤33→lastF nm k=if op<k then(op:Int)else -1
 |0,_=>rfl
 |k+1,hk=>by
  rw[lastF,lastF_some h k (by omega)]
  have hf:=(opfind (op:=(k:Int)) (ok_fin ⟨k,by omega⟩)).1
  obtain⟨_,_,hn⟩:=findFrom_get h
  have hn:(ofL (op:Int)).1.name=nm:=bytes_inj.1 hn
  by_cases e:(ofL (k:Int)).1.name=nm
  ·rw[if_pos e]
   rw[e,h]at hf
   have:op=k:=by have:=Option.some.inj hf;omega
   rw[if_pos (by omega),this]
  ·rw[if_neg e]
   have:op≠k:=fun e2=>e (by rw[←e2];exact hn)
   by_cases h2:op<k
   ·rw[if_pos h2,if_pos (by omega)]
   ·rw[if_neg h2,if_neg (by omega)]
def RDPost (w:World)(r:(Int×Int)×List SR)(e:Ending)(w':World):Prop:=∃v,e= .returned (.tuple #[v,.agg #[.int .i64 r.1.1,.int .i64 r.1.2]])∧Hid (SRow (fun g=>w.heap.size≤g) w' v r.2∧Below w.heap.size w w')
theorem linesB_cases (s:ByteArray):∃(init:List ByteArray) (last:ByteArray),linesB s=init++[last]∧(linesB s).dropLast=init∧(linesB s).getLast?.getD ⟨#[]⟩=last:=by
 obtain⟨i,l,h1,_⟩:=cutL_law s.data.toList [] (by simp)
 refine⟨i.map mkL,mkL l,?_,?_,?_⟩
 ·unfold linesB;rw[h1,List.map_append];rfl
 ·unfold linesB;rw[h1,List.map_append,List.map_singleton,List.dropLast_concat]
 ·unfold linesB;rw[h1,List.map_append,List.map_singleton,List.getLast?_concat];rfl
theorem cutL_sizes:∀(l cur:List UInt8) (n:Nat),cur.length+l.length≤n→∀x∈cutL l cur,x.length≤n
 |[],cur,n,h,x,hx=>by rw[cutL,List.mem_singleton]at hx;rw[hx];simp at h;omega
 |c::r,cur,n,h,x,hx=>by
  rw[cutL]at hx
  rw[List.length_cons]at h
  cases hc:(c==10)with
  |true=>
   rw[hc]at hx
   simp only[cond_true]at hx
   rcases List.mem_cons.1 hx with rfl|hx
   ·omega
   ·exact cutL_sizes r [] n (by simp;omega) x hx
  |false=>
   rw[hc]at hx
   simp only[cond_false]at hx
   exact cutL_sizes r (cur++[c]) n (by rw[List.length_append,List.length_singleton];omega) x hx
theorem cutL_len:∀(l cur:List UInt8),(cutL l cur).length≤l.length+1
 |[],cur=>by rw[cutL];simp
 |c::r,cur=>by
  rw[cutL]
  cases(c==10)with
  |true=>have:=cutL_len r [];simp only[cond_true,List.length_cons];omega
  |false=>have:=cutL_len r (cur++[c]);simp only[cond_false,List.length_cons];omega
def RdRel (w3:World)(N n:Nat)(ls:List ByteArray)(q:(Int×Int)×RT)(gk:Nat)(v5 v6 v7 v48:Value)(wr:World):Prop:=
 ∃(i:Nat) (t:RT),v48= .int .i64 i∧i≤n∧gk=n - i∧RdS N wr v5 v6 v7 t∧t.names.length=t.at_.length∧readL (ls.drop i) i t=q∧t.out.length≤i∧t.names.length≤i∧Below N w3 wr
theorem last_list {s:ByteArray}{k:Nat}(h:s.size=k+1):s.data.toList=s.data.toList.take k++[s[k]]:=by
 have hl:s.data.toList.length=k+1:=by simpa using h
 have e:=drop_at (s:=s) (k:=k) (by omega)
 rw[List.drop_eq_nil_of_le (show s.data.toList.length≤k+1 by omega)]at e
 rw[←e,List.take_append_drop]
theorem suffix_iff {s:ByteArray}{k:Nat}(h:s.size=k+1):Lib.hasSuffix s.data.toList [58]=true↔s[k]=58:=by
 unfold Lib.hasSuffix
 rw[List.isSuffixOf_iff_suffix]
 refine⟨fun⟨pre,hp⟩=> ?_,fun e=>⟨s.data.toList.take k,by rw[←e];exact(last_list h).symm⟩⟩
 rw[last_list h]at hp
 have:=(List.append_inj' hp rfl).2
 simpa using this.symm
theorem trim_ext {s:ByteArray}{k:Nat}(h:s.size=k+1)(h2:Lib.hasSuffix s.data.toList [58]=true):s.extract 0 k=trimB s:=by
 apply bytes_inj.1
 rw[ext_list]
 unfold trimB Lib.trimSuffix
 rw[if_pos h2]
 have hl:s.data.toList.length=k+1:=by simpa using h
 simp[hl]
theorem isLab_zero {s:ByteArray}(h:s.size=0):isLab s=false:=by
 unfold isLab
 have:s.data.toList=[]:=List.length_eq_zero_iff.1 (by simpa using h)
 rw[this]
 rfl
theorem isLab_no {s:ByteArray}{k:Nat}(h:s.size=k+1)(h2:s[k]≠58):isLab s=false:=by
 unfold isLab
 cases hq:Lib.hasSuffix s.data.toList [58]with
 |false=>rfl
 |true=>exact absurd ((suffix_iff h).1 hq) h2
theorem isLab_yes {s:ByteArray}{k:Nat}(h:s.size=k+1)(h2:s[k]=58):isLab s=labL (s.extract 0 k).data.toList:=by
 unfold isLab
 rw[(suffix_iff h).2 h2,trim_ext h ((suffix_iff h).2 h2)]
 rfl
theorem isLab_some {s:ByteArray}(h:isLab s=true):∃k,s.size=k+1∧s.extract 0 k=trimB s:=by
 obtain⟨k,hk⟩:∃k,s.size=k+1:=⟨s.size - 1,by
  have:s.size≠0:=fun e=>by rw[isLab_zero e]at h;cases h
  omega⟩
 have h2:Lib.hasSuffix s.data.toList [58]=true:=by
  unfold isLab at h
  rw[Bool.and_eq_true]at h
  exact h.1
 exact⟨k,hk,trim_ext hk h2⟩
theorem keeps_low {S:Nat→Prop}{a b c:World}(K:Keeps S a b)(B:Below b.heap.size b c):Keeps S a c:=K.trans (zkb (S:=fun _=>False) B) (fun _ _ f=>False.elim f)
theorem alloc_sz' (w:World)(o:Obj):(w.alloc o).heap.size=w.heap.size+1:=by simp
theorem err_read {init:List ByteArray}{q:(Int×Int)×RT}{r:(Int×Int)×List SR}{i:Nat}{x:ByteArray}{t:RT}{e:Int}(h1:readT init=r)(h2:readL init 0 rt0=q)(h3:(bif (readM i x t).1 !=0 then(((i:Int)+1,(readM i x t).1),(readM i x t).2)else readL (init.drop (i+1)) (i+1) (readM i x t).2)=q)(he:(readM i x t).1=e)(hne:e≠0):(((i:Int)+1,e),[])=r:=by
 have hb:(e !=0)=true:=by simpa using hne
 rw[he,hb,cond_true]at h3
 rw[←h1]
 unfold readT
 rw[h2,←h3]
 simp only[hb,cond_true]
theorem ok_read {init:List ByteArray}{q:(Int×Int)×RT}{i:Nat}{x:ByteArray}{t t':RT}(h3:(bif (readM i x t).1 !=0 then(((i:Int)+1,(readM i x t).1),(readM i x t).2)else readL (init.drop (i+1)) (i+1) (readM i x t).2)=q)(he:readM i x t=(0,t')):readL (init.drop (i+1)) (i+1) t'=q:=by
 rw[he]at h3
 exact h3
theorem two_sets {w wz:World}(B:Below w.heap.size w wz)(x y:Value):Below w.heap.size w ((wz.setCell ⟨w.heap.size,0,none⟩ x).setCell ⟨w.heap.size,1,none⟩ y):=
 B.trans ((Keeps.setCell (S:=fun j=>j=w.heap.size) (p:=⟨w.heap.size,1,none⟩) (Keeps.setCell (S:=fun j=>j=w.heap.size) (p:=⟨w.heap.size,0,none⟩) (Keeps.refl _ wz) (.inl rfl) x) (.inl rfl) y).below B.size (fun j _ e=>by have e:j=w.heap.size:=e;omega))
theorem end_read {init:List ByteArray}{r:(Int×Int)×List SR}{t:RT}(h1:readT init=r)(h2:readL init 0 rt0=((0,0),t)):(bif (firstBad t t.out.length t.out).2 !=0 then(firstBad t t.out.length t.out,[])else(((0:Int),(0:Int)),t.out.map (fixF t)))=r:=by
 rw[←h1]
 unfold readT
 rw[h2]
 rfl
theorem readM_ops {i:Nat}{s:ByteArray}{t:RT}(h:∀x∈t.out,0≤x.op∧x.op<33):∀x∈(readM i s t).2.out,0≤x.op∧x.op<33:=by
 have hf:=line_fit s
 unfold readM
 cases hm:lineM s with
 |lab l=>
  dsimp only
  split
  ·exact h
  ·exact h
 |bad e=>exact h
 |ins op a=>
  rw[hm]at hf
  intro x hx
  rcases List.mem_append.1 hx with hx|hx
  ·exact h x hx
  ·rw[List.mem_singleton.1 hx,(stepR_op i s op).1]
   exact ok_range.1 hf.2.1
 |jmp op l=>
  rw[hm]at hf
  intro x hx
  rcases List.mem_append.1 hx with hx|hx
  ·exact h x hx
  ·rw[List.mem_singleton.1 hx,(stepR_op i s op).1]
   exact ok_range.1 hf.2
theorem readL_ops:∀(ls:List ByteArray) (i:Nat) (t:RT),(∀x∈t.out,0≤x.op∧x.op<33)→∀x∈(readL ls i t).2.out,0≤x.op∧x.op<33
 |[],_,_,h=>h
 |s::r,i,t,h=>by
  rw[readL]
  cases((readM i s t).1 !=0)with
  |true=>exact readM_ops h
  |false=>exact readL_ops r (i+1) _ (readM_ops h)
theorem RdS.setN {N:Nat}{W:World}{g off n cap:Nat}{v6 v7:Value}{t:RT}{cur:List SR}(R:RdS N W (.slice (some ⟨g,off,none⟩) n cap) v6 v7 {t with out:=cur}){i:Nat}{x:SR}(hx:cur[i]? =some x)(a:Int):RdS N (W.setCell ⟨g,off+i*8+1,none⟩ (.int .i64 a)) (.slice (some ⟨g,off,none⟩) n cap) v6 v7 {t with out:=cur.set i {x with n:=a}}:=by
 have K:Keeps (fun j=>j=g) W (W.setCell ⟨g,off+i*8+1,none⟩ (.int .i64 a)):=Keeps.setCell (S:=fun j=>j=g) (p:=⟨g,off+i*8+1,none⟩) (Keeps.refl _ _) (.inl rfl) _
 have h5:=R.o5 g rfl
 refine⟨R.out.setN (fun h=>h.2.1 rfl) hx a,R.names.keep K (fun j hj e=>h5.2.1 (e▸hj)),R.at_.keep K (fun j hj e=>h5.2.2 (e▸hj)),R.o5,R.o6,R.o7⟩
theorem cur_at {t:RT}{l:List SR}{j:Nat}{x:SR}(h:l[j]? =some x):((l.take j).map (fixF t)++l.drop j)[j]? =some x:=by
 have hl:=lt_of_get h
 rw[List.getElem?_append_right (by simp;omega),List.length_map,List.length_take,Nat.min_eq_left (by omega),Nat.sub_self,List.getElem?_drop,Nat.add_zero]
 exact h
theorem cur_set {t:RT}{l:List SR}{j:Nat}{x:SR}(h:l[j]? =some x):((l.take j).map (fixF t)++l.drop j).set j (fixF t x)=(l.take (j+1)).map (fixF t)++l.drop (j+1):=by
 have hl:=lt_of_get h
 have e:((l.take j).map (fixF t)).length=j:=by simp;omega
 rw[List.set_append_right _ _ (by omega),e,Nat.sub_self,drop_get h,List.set_cons_zero,List.take_add_one,h,List.map_append,List.append_assoc]
 rfl
theorem cur_len {t:RT}{l:List SR}{j:Nat}(h:j≤l.length):((l.take j).map (fixF t)++l.drop j).length=l.length:=by
 simp
 omega
theorem set_self {α:Type}:∀{l:List α} {i:Nat} {x:α},l[i]? =some x→l.set i x=l
 |[],_,_,h=>by simp at h
 |y::r,0,x,h=>by simp at h;rw[h];rfl
 |y::r,i+1,x,h=>by rw[List.set_cons_succ,set_self (by simpa using h)]
theorem cur_same {t:RT}{l:List SR}{j:Nat}{x:SR}(h:l[j]? =some x)(h4:(ofL x.op).1.operand≠4):(l.take j).map (fixF t)++l.drop j=(l.take (j+1)).map (fixF t)++l.drop (j+1):=by
 rw[←cur_set h]
 have:fixF t x=x:=by unfold fixF;rw[if_neg h4]
 rw[this]
 have hc:=cur_at (t:=t) h
 exact(set_self hc).symm
theorem bad_next {t:RT}{len:Int}{l:List SR}{j:Nat}{x:SR}(h:l[j]? =some x):firstBad t len (l.drop j)=if(ofL x.op).1.operand=4∧(fixN t x<0∨fixN t x=len)then(x.line,120)else firstBad t len (l.drop (j+1)):=by
 rw[drop_get h,firstBad]
theorem look_next {l:ByteArray}{names:List ByteArray}{at_:List Int}{m:Nat}{y:ByteArray}{k:Int}{acc:Int}(h1:names[m]? =some y)(h2:at_[m]? =some k):lookN l (names.drop m) (at_.drop m) acc=lookN l (names.drop (m+1)) (at_.drop (m+1)) (if y=l then k else acc):=by
 rw[drop_get h1,drop_get h2,lookN]
theorem StB.fill {w:World}{b:Nat}{op n line:Int}{c0:VC}{l:ByteArray}(h:StB w b op n line c0 l)(c:VC)(y:ByteArray)(dv:Int):StB ((((((w.setCell ⟨b,3,none⟩ (.int .i64 c.kind)).setCell ⟨b,4,none⟩ (.int .i64 c.n)).setCell ⟨b,5,none⟩ (.string c.s)).setCell ⟨b,6,none⟩ (.slice c.la c.ln c.lc)).setCell ⟨b,7,none⟩ (.string y)).setCell ⟨b,1,none⟩ (.int .i64 dv)) b op dv line c y:=by
 unfold StB at h⊢
 simp[World.setCell,Array.getElem?_modify,h]
theorem six_one (w':World)(b:Nat)(v1 v2 v3 v4 v5 v6:Value):
  Keeps (fun j=>j=b) w' ((((((w'.setCell ⟨b,3,none⟩ v1).setCell ⟨b,4,none⟩ v2).setCell ⟨b,5,none⟩ v3).setCell ⟨b,6,none⟩ v4).setCell ⟨b,7,none⟩ v5).setCell ⟨b,1,none⟩ v6):=by
 have k0:Keeps (fun j=>j=b) w' w':=Keeps.refl _ _
 have k1:=Keeps.setCell (p:=⟨b,3,none⟩) k0 (.inl rfl) v1
 have k2:=Keeps.setCell (p:=⟨b,4,none⟩) k1 (.inl rfl) v2
 have k3:=Keeps.setCell (p:=⟨b,5,none⟩) k2 (.inl rfl) v3
 have k4:=Keeps.setCell (p:=⟨b,6,none⟩) k3 (.inl rfl) v4
 have k5:=Keeps.setCell (p:=⟨b,7,none⟩) k4 (.inl rfl) v5
 exact Keeps.setCell (p:=⟨b,1,none⟩) k5 (.inl rfl) v6
end Go.Proofs.YtakljipkaoahnaaGreatDoor
