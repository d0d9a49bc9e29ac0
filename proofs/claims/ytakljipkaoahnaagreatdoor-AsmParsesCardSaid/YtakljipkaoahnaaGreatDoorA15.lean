/- Parts of the proof: what the functions and the plain laws give that later parts lean on. Conditions: none beyond those that each theorem names. -/
import Derived.Shelf.LaysM
import Derived.Shelf.LaysC
import Derived.Shelf.Strings.OnBuilder
import Derived.Shelf.Strings.BuilderK
import Derived.Test.YtakljipkaoahnaaGreatDoorProg
import Derived.Test.YtakljipkaoahnaaGreatDoorA14
set_option maxRecDepth 100000
set_option maxHeartbeats 8000000
namespace Go.Proofs.YtakljipkaoahnaaGreatDoor
open Go.RowKit Go.Own Go.Own.MapTy Go.Va Go.Sort
open Go.Own.Cells (sz enc)
theorem codeErr_ok {p:Img}:∀{l:List In},codeErr p l=0→∀c∈l,(ofL c.op).2=true∧0≤c.a∧c.a<mostL p (ofL c.op).1.operand
 |[],_,c,hc=>by cases hc
 |d::r,h,c,hc=>by
  rw[codeErr]at h
  cases h1:(ofL d.op).2 with
  |false=>rw[h1]at h;simp at h
  |true=>
   rw[h1]at h
   simp only[Bool.not_true,cond_false]at h
   cases h2:(decide (d.a<0)||decide (mostL p (ofL d.op).1.operand≤d.a))with
   |true=>rw[h2]at h;simp at h
   |false=>
    rw[h2]at h
    simp only[cond_false]at h
    rw[Bool.or_eq_false_iff,decide_eq_false_iff_not,decide_eq_false_iff_not]at h2
    rcases List.mem_cons.1 hc with rfl|hc
    ·exact⟨h1,by omega,by omega⟩
    ·exact codeErr_ok h c hc
theorem imgL_ok {p:Img}(h:imgL p=0):0<p.code.length∧p.code.length≤512∧p.consts.length≤64∧p.names.length≤32∧0≤p.places∧p.places≤16∧constErr p.consts=0∧nameErr p.names=0∧∀c∈p.code,(ofL c.op).2=true∧0≤c.a∧c.a<mostL p (ofL c.op).1.operand:=by
 unfold imgL at h
 by_cases h0:p.code.length=0
 ·rw[decide_eq_true h0]at h
  simp at h
 ·rw[decide_eq_false h0]at h
  simp only[cond_false]at h
  cases h1:(decide (512<p.code.length)||(decide (64<p.consts.length)||decide (32<p.names.length)))with
  |true=>rw[h1]at h;simp at h
  |false=>
   rw[h1]at h
   simp only[cond_false]at h
   cases h2:(decide (p.places<0)||decide (16<p.places))with
   |true=>rw[h2]at h;simp at h
   |false=>
    rw[h2]at h
    simp only[cond_false]at h
    cases h3:(constErr p.consts !=0)with
    |true=>
     rw[h3]at h
     simp only[cond_true]at h
     rw[h]at h3
     cases h3
    |false=>
     rw[h3]at h
     simp only[cond_false]at h
     cases h4:(nameErr p.names !=0)with
     |true=>
      rw[h4]at h
      simp only[cond_true]at h
      rw[h]at h4
      cases h4
     |false=>
      rw[h4]at h
      simp only[cond_false]at h
      simp only[Bool.or_eq_false_iff,decide_eq_false_iff_not]at h1 h2
      exact⟨by omega,by omega,by omega,by omega,by omega,by omega,by simpa using h3,by simpa using h4,codeErr_ok h⟩
def text1:ByteArray:=⟨#[108,49,58,10,32,32,115,105,103,110,97,108,32,34,103,111,34,10,32,32,112,111,112,10,32,32,106,117,109,112,32,108,49,10]⟩
def img1:Img:=⟨[⟨22,0⟩,⟨2,0⟩,⟨11,0⟩],[],[⟨#[103,111]⟩],0⟩
theorem asm_any {N:Nat}(s:ByteArray)(w:World)(G:Gl Tryz.prog N w):Calls Tryz.prog 10 #[.string s] w (APost w (asmL s)):=by
 unfold asmL
 by_cases h:65536<s.size
 ·rw[decide_eq_true h]
  exact asm_long s w h
 ·rw[decide_eq_false h]
  simp only[cond_false]
  cases hn:Lib.hasSuffix s.data.toList [10]with
  |false=>exact asm_form s w (by omega) hn
  |true=>
   have hz:∀x∈textL s,x.size≤65536:=fun x hx=>Nat.le_trans (textL_size x hx) (by omega)
   exact asm_lines s w G (by omega) hn (fun x hx=>⟨fun b v st n W R G' hZ m hm h1 h2 h3 h4 hp=>line_any b v st n x W R (hz x hx) G' hZ m hm h1 h2 h3 h4 hp _ rfl,fun line n st h1 h2=>lineL_small (hz x hx) h1 h2⟩) _ rfl _ rfl
end Go.Proofs.YtakljipkaoahnaaGreatDoor
namespace Go.Proofs
open Go.Shelf
def Tryz.lays169_ren:Go.Shelf.Ren:=⟨fun|169=>78|n=>n,fun|70=>139|9=>9|0=>0|72=>142|37=>140|127=>190|3=>3|5=>5|n=>n,fun|n=>n⟩
theorem Tryz.lays169:Go.Proofs.Lays.n169 Tryz.prog Tryz.lays169_ren:={
 mixed:=by kernel_rfl
 f169:=Tryz.func78.trans (congrArg some (by kernel_rfl))
 t0:=Tryz.underlying0
 a0:=Tryz.isAgg0
 z0:=Tryz.sizeOf0
 v0:=Tryz.zeroValue0
 t3:=Tryz.underlying3
 a3:=Tryz.isAgg3
 z3:=Tryz.sizeOf3
 v3:=Tryz.zeroValue3
 t9:=Tryz.underlying9
 a9:=Tryz.isAgg9
 z9:=Tryz.sizeOf9
 v9:=Tryz.zeroValue9
 t37:=Tryz.underlying140
 a37:=Tryz.isAgg140
 z37:=Tryz.sizeOf140
 v37:=Tryz.zeroValue140
 t70:=Tryz.underlying139
 a70:=Tryz.isAgg139
 z70:=Tryz.sizeOf139
 v70:=Tryz.zeroValue139
 t72:=Tryz.underlying142
 a72:=Tryz.isAgg142
 z72:=Tryz.sizeOf142
 v72:=Tryz.zeroValue142
 t127:=Tryz.underlying190
 a127:=Tryz.isAgg190
 z127:=Tryz.sizeOf190
 v127:=Tryz.zeroValue190}
def Tryz.lays156_ren:Go.Shelf.Ren:=⟨fun|156=>112|165=>148|166=>72|169=>78|240=>110|241=>170|276=>147|277=>184|n=>n,fun|31=>25|9=>9|3=>3|4=>4|0=>0|20=>20|72=>142|76=>145|70=>139|37=>140|75=>144|127=>190|164=>215|5=>5|80=>69|n=>n,fun|n=>n⟩
theorem Tryz.lays156:Go.Proofs.Lays.n156 Tryz.prog Tryz.lays156_ren:={
 mixed:=by kernel_rfl
 f156:=Tryz.func112.trans (congrArg some (by kernel_rfl))
 f165:=Tryz.func148.trans (congrArg some (by kernel_rfl))
 f166:=Tryz.func72.trans (congrArg some (by kernel_rfl))
 f169:=Tryz.func78.trans (congrArg some (by kernel_rfl))
 f240:=Tryz.func110.trans (congrArg some (by kernel_rfl))
 f241:=Tryz.func170.trans (congrArg some (by kernel_rfl))
 f276:=Tryz.func147.trans (congrArg some (by kernel_rfl))
 f277:=Tryz.func184.trans (congrArg some (by kernel_rfl))
 t0:=Tryz.underlying0
 a0:=Tryz.isAgg0
 z0:=Tryz.sizeOf0
 v0:=Tryz.zeroValue0
 t3:=Tryz.underlying3
 a3:=Tryz.isAgg3
 z3:=Tryz.sizeOf3
 v3:=Tryz.zeroValue3
 t4:=Tryz.underlying4
 a4:=Tryz.isAgg4
 z4:=Tryz.sizeOf4
 v4:=Tryz.zeroValue4
 t9:=Tryz.underlying9
 a9:=Tryz.isAgg9
 z9:=Tryz.sizeOf9
 v9:=Tryz.zeroValue9
 t20:=Tryz.underlying20
 a20:=Tryz.isAgg20
 z20:=Tryz.sizeOf20
 v20:=Tryz.zeroValue20
 t31:=Tryz.underlying25
 a31:=Tryz.isAgg25
 z31:=Tryz.sizeOf25
 v31:=Tryz.zeroValue25
 t37:=Tryz.underlying140
 a37:=Tryz.isAgg140
 z37:=Tryz.sizeOf140
 v37:=Tryz.zeroValue140
 t70:=Tryz.underlying139
 a70:=Tryz.isAgg139
 z70:=Tryz.sizeOf139
 v70:=Tryz.zeroValue139
 t72:=Tryz.underlying142
 a72:=Tryz.isAgg142
 z72:=Tryz.sizeOf142
 v72:=Tryz.zeroValue142
 t75:=Tryz.underlying144
 a75:=Tryz.isAgg144
 z75:=Tryz.sizeOf144
 v75:=Tryz.zeroValue144
 t76:=Tryz.underlying145
 a76:=Tryz.isAgg145
 z76:=Tryz.sizeOf145
 v76:=Tryz.zeroValue145
 t127:=Tryz.underlying190
 a127:=Tryz.isAgg190
 z127:=Tryz.sizeOf190
 v127:=Tryz.zeroValue190
 t164:=Tryz.underlying215
 a164:=Tryz.isAgg215
 z164:=Tryz.sizeOf215
 v164:=Tryz.zeroValue215}
end Go.Proofs
namespace Go.Va
open Go.Own Go.RowKit
structure SK (b:Nat)(w w':World):Prop where
 below:Below b w w'
 kept:Lib.OthersKept 5 (some b) w w'
theorem SK.refl (b:Nat)(w:World):SK b w w:=⟨Below.refl _ _,Lib.OthersKept.refl _ _ _⟩
theorem SK.heap {b:Nat}{w w':World}(h:SK b w w'){k:Nat}{cs:Array Value}{t:TypeId}{fr:Nat×Nat}(hk:w.heap[k]? =some (.cells cs t fr))(hb:k≠b)(ht:t≠5):w'.heap[k]? =some (.cells cs t fr):=
 h.kept k _ hk (by simpa using hb) (fun c fz e=>by cases e;exact ht rfl)
end Go.Va
namespace Go.Proofs.YtakljipkaoahnaaGreatDoor
open Go.RowKit Go.Own Go.Own.MapTy Go.Va Go.Sort
open Go.Own.Cells (sz enc)
def SB (b:Nat)(l:List UInt8)(w:World):Prop:=Lib.IsBuilder 142 5 b b (Lib.byteCells l) w
theorem SB.lt {b:Nat}{l:List UInt8}{w:World}(h:SB b l w):b<w.heap.size:=by
 rcases h with h|h<;>exact h.lt
theorem SB.ext {b:Nat}{l:List UInt8}{w w':World}(h:SB b l w)(K:Below w.heap.size w w'):SB b l w':=by
 have hlt:=h.lt
 have go:∀p,Lib.BuilderAt 142 5 b b p (Lib.byteCells l) w→Lib.BuilderAt 142 5 b b p (Lib.byteCells l) w':=by
  rintro p ⟨hB,v,hb,hown,hne⟩
  exact⟨hB,v,(K.block b hlt).trans hb,hown.kept (row:=none) ⟨K.os,K.tape,K.output,K.size,fun k hk _=>K.block k hk⟩ (by cases hv:v.ownBlock<;>simp),hne⟩
 rcases h with h|h
 ·exact .inl (go _ h)
 ·exact .inr (go _ h)
theorem SB.new (w:World):SB w.heap.size [] (w.alloc (.cells #[.pointer none,.slice none 0 0] 142)):=Lib.fresh_isBuilder _ _ w
theorem infoBl:(Tryz.prog.info? 142).map (·.size)=some 2:=by kernel_rfl
theorem liesBl:liesAt Tryz.prog Tryz.prog.depth 142 (2/Tryz.prog.cellsOf 142) 0 142 1=true:=by kernel_rfl
set_option maxHeartbeats 4000000 in
theorem copyCheck_used (b:Nat)(w:World)(h0:w.cell? ⟨b,0,none⟩=some (.pointer (some ⟨b,0,none⟩))):
  Calls Tryz.prog 110 #[.pointer (some ⟨b,0,none⟩)] w fun e w'=>e= .returned (.tuple #[])∧w'=w:=by
 obtain⟨j,hj,_⟩:=Option.map_eq_some_iff.1 infoBl
 go_enter Tryz.func110,Tryz.ntmps110
 go_wp2
 rw[Lib.run_neq_ptr_same w _ Tryz.underlying139 hj]
 go_wp2
 go_end0
 exact⟨rfl,rfl⟩
set_option maxHeartbeats 4000000 in
theorem copyCheck_fresh (b:Nat)(w:World)(h0:w.cell? ⟨b,0,none⟩=some (.pointer none))(hsh:w.shape? b=some (142,2))(hfz:w.frozen? ⟨b,0,none⟩=false):
  Calls Tryz.prog 110 #[.pointer (some ⟨b,0,none⟩)] w fun e w'=>e= .returned (.tuple #[])∧w'=w.setCell ⟨b,0,none⟩ (.pointer (some ⟨b,0,none⟩)):=by
 obtain⟨j,hj,hjs⟩:=Option.map_eq_some_iff.1 infoBl
 go_enter Tryz.func110,Tryz.ntmps110
 go_wp2
 rw[Lib.run_to_unsafe w ⟨b,0,none⟩ Tryz.underlying139 Tryz.underlying215 hj (by rw[hjs];decide) hsh (Nat.zero_lt_succ 1)]
 simp only[Result.andThen]
 rw[Oper.upon_value]
 go_wp2
 rw[run_callFunc_extern Tryz.func147 (by kernel_rfl) (by kernel_rfl) (by kernel_rfl) (e:=Extern.AbiNoEscape.same) (by kernel_rfl)]
 rw[Lib.run_noEscape]
 simp only[Result.andThen]
 rw[Oper.upon_value]
 go_wp2
 rw[Lib.run_from_unsafe w ⟨b,0,none⟩ Tryz.underlying215 Tryz.underlying139 hj hsh liesBl]
 simp only[Result.andThen]
 rw[Oper.upon_value]
 go_wp2
 go_end0
 exact⟨rfl,rfl⟩
theorem copyCheck_any (b:Nat)(bs:List Value)(w:World)(h:Lib.IsBuilder 142 5 b b bs w):
  Calls Tryz.prog 110 #[.pointer (some ⟨b,0,none⟩)] w fun e w'=>e= .returned (.tuple #[])∧(Lib.BuilderAt 142 5 b b (.pointer (some ⟨b,0,none⟩)) bs w'∧SK b w w'):=by
 rcases h with h|h
 ·refine(copyCheck_fresh b w h.cell0 h.shape h.frozen0).mono ?_
  rintro e w' ⟨rfl,rfl⟩
  exact⟨rfl,h.used _,(Below.refl b w).setCell (p:=⟨b,0,none⟩) (Nat.le_refl _) _,(Lib.OthersKept.refl _ _ w).setCell ⟨b,0,none⟩ rfl _⟩
 ·refine(copyCheck_used b w h.cell0).mono ?_
  rintro e w' ⟨rfl,rfl⟩
  exact⟨rfl,h,SK.refl _ _⟩
theorem own_kind {w:World}{B:Nat}{v:Value}{n:Nat}{xs:List Value}(h:w.ownsRow B 5 1 v n xs):∀g,v.ownBlock=some g→∃c fz,w.heap[g]? =some (.cells c 5 fz):=by
 intro g hg
 rcases h.2 with⟨rfl,_⟩|⟨g',cap,cur,rfl,_,hgg,_⟩
 ·simp[Value.ownBlock]at hg
 ·simp[Value.ownBlock]at hg
  subst hg
  exact⟨cur,_,hgg⟩
set_option maxHeartbeats 4000000 in
theorem writeString_any (b:Nat)(l:List UInt8)(s:ByteArray)(w:World)(h:SB b l w)(hlen:l.length+s.size≤140737488355328):
  Calls Tryz.prog 72 #[.pointer (some ⟨b,0,none⟩),.string s] w fun e w'=>e= .returned (.tuple #[.int .i64 s.size,.nilIface])∧Hid (SB b (l++s.data.toList) w'∧SK b w w'):=by
 obtain⟨i0,hi,hz0,hz1,hz2⟩:=info_parts infoB
 have hlB:(Lib.byteCells l).length=l.length:=Lib.byteCells_length l
 have b0:=h.lt
 go_enter Tryz.func72,Tryz.ntmps72
 go_wp2_with (go_at_call 110;refine(copyCheck_any b _ _ h).mono ?_)
 rintro e w1 ⟨rfl,h1,hk1⟩
 obtain⟨hB,v,hbk,hown,hne⟩:=h1
 have c0:w1.cell? ⟨b,0,none⟩=some (.pointer (some ⟨b,0,none⟩)):=by rw[Lib.cell_of_heap hbk];rfl
 have c1:w1.cell? ⟨b,1,none⟩=some v:=by rw[Lib.cell_of_heap hbk];rfl
 go_wp2_with (at_builtin;refine Lib.wpList_append_own_string _ rfl _ _ 140 9 rfl b 5 i0 Tryz.underlying140 Tryz.underlying9 hi hz0 hz1 hz2 _ _ _ rfl hown s rfl ?c3 ?c4 ?c5 ?_)
 case c3=>unfold maxLen;omega
 case c4=>omega
 case c5=>have:=zlt hbk;omega
 intro v' w2 hown' hgrow _
 have hlt:=zlt hbk
 have hb2:w2.heap[b]? =some (.cells #[.pointer (some ⟨b,0,none⟩),v] 142 (0,0)):=by
  rw[hgrow.block b hlt (fun e=>hne e.symm)]
  exact hbk
 have d0:w2.cell? ⟨b,0,none⟩=some (.pointer (some ⟨b,0,none⟩)):=by rw[Lib.cell_of_heap hb2];rfl
 have d1:w2.cell? ⟨b,1,none⟩=some v:=by rw[Lib.cell_of_heap hb2];rfl
 have f1:w2.frozen? ⟨b,1,none⟩=false:=Lib.frozen_of_heap hb2 1
 obtain⟨ao,n',cap,rfl⟩:∃ao n' cap,v'= .slice ao n' cap:=by
  rcases hown'.2 with⟨hv,_⟩|⟨g,cap,cur,hv,_⟩
  ·exact⟨_,_,_,hv⟩
  ·exact⟨_,_,_,hv⟩
 go_wp2
 go_ret2
 have e1:Lib.byteCells l++Lib.strCells s=Lib.byteCells (l++s.data.toList):=by simp[Lib.byteCells,Lib.strCells]
 refine⟨rfl,zhd ⟨?_,?_⟩⟩
 ·rw[e1]at hown'
  exact .inr (Lib.BuilderAt.put (T:=142) (e:=5) hB hb2 (bs':=Lib.byteCells (l++s.data.toList)) (by simpa[Lib.byteCells_length,hlB]using hown') (by decide))
 ·exact⟨(hk1.below.grown hgrow (by omega) (fun k hk=>(hown.lt k hk).1)).setCell (p:=⟨b,1,none⟩) hB _,(hk1.kept.grown hgrow (own_kind hown)).setCell ⟨b,1,none⟩ rfl _⟩
set_option maxHeartbeats 4000000 in
theorem writeByte_any (b:Nat)(l:List UInt8)(c:UInt8)(w:World)(h:SB b l w)(hlen:l.length+1≤140737488355328):
  Calls Tryz.prog 77 #[.pointer (some ⟨b,0,none⟩),.int .u8 c.toNat] w fun e w'=>e= .returned .nilIface∧Hid (SB b (l++[c]) w'∧SK b w w'):=by
 obtain⟨i0,hi,hz0,hz1,hz2⟩:=info_parts infoB
 have hlB:(Lib.byteCells l).length=l.length:=Lib.byteCells_length l
 have b0:=h.lt
 go_enter Tryz.func77,Tryz.ntmps77
 go_wp2_with (go_at_call 110;refine(copyCheck_any b _ _ h).mono ?_)
 rintro e w1 ⟨rfl,h1,hk1⟩
 obtain⟨hB,v,hbk,hown,hne⟩:=h1
 have c0:w1.cell? ⟨b,0,none⟩=some (.pointer (some ⟨b,0,none⟩)):=by rw[Lib.cell_of_heap hbk];rfl
 have c1:w1.cell? ⟨b,1,none⟩=some v:=by rw[Lib.cell_of_heap hbk];rfl
 go_wp2_with (at_builtin;refine wpList_append_own _ rfl _ _ 140 rfl b 5 i0 (.int .u8 0) 1 1 Tryz.underlying140 hi hz0 hz1 hz2 rfl (by decide) _ _ _ rfl (hown.alloc _) ⟨w1.heap.size,0,none⟩ 1 1 [.int .u8 c.toNat] rfl rfl ?c1 ?c2 ?c3 ?c4 ?c5 ?_)
 case c1=>
  intro j u hj
  match j,hj with
  |0,hj=>simp at hj;subst hj;simp[Addr.add]
 case c2=>intro u hu;simp at hu;subst hu;rfl
 case c3=>unfold maxLen;omega
 case c4=>omega
 case c5=>have:=zlt hbk;simp;omega
 intro v' w2 hown' hgrow _
 have hlt:=zlt hbk
 have hb2:w2.heap[b]? =some (.cells #[.pointer (some ⟨b,0,none⟩),v] 142 (0,0)):=by
  rw[hgrow.block b (by simp;omega) (fun e=>hne e.symm),Lib.alloc_old w1 _ b hlt]
  exact hbk
 have d0:w2.cell? ⟨b,0,none⟩=some (.pointer (some ⟨b,0,none⟩)):=by rw[Lib.cell_of_heap hb2];rfl
 have d1:w2.cell? ⟨b,1,none⟩=some v:=by rw[Lib.cell_of_heap hb2];rfl
 have f1:w2.frozen? ⟨b,1,none⟩=false:=Lib.frozen_of_heap hb2 1
 obtain⟨ao,n',cap,rfl⟩:∃ao n' cap,v'= .slice ao n' cap:=by
  rcases hown'.2 with⟨hv,_⟩|⟨g,cap,cur,hv,_⟩
  ·exact⟨_,_,_,hv⟩
  ·exact⟨_,_,_,hv⟩
 go_wp2
 go_ret
 have e1:Lib.byteCells l++[Value.int .u8 c.toNat]=Lib.byteCells (l++[c]):=by simp[Lib.byteCells]
 refine⟨rfl,zhd ⟨?_,?_⟩⟩
 ·rw[e1]at hown'
  exact .inr (Lib.BuilderAt.put (T:=142) (e:=5) hB hb2 (bs':=Lib.byteCells (l++[c])) (by simpa[Lib.byteCells_length,hlB]using hown') (by decide))
 ·exact⟨((hk1.below.alloc (by have:=hk1.below.size;omega) _).grown hgrow (by have:=hk1.below.size;simp;omega) (fun k hk=>(hown.lt k hk).1)).setCell (p:=⟨b,1,none⟩) hB _,((hk1.kept.alloc _).grown hgrow (own_kind (hown.alloc _))).setCell ⟨b,1,none⟩ rfl _⟩
theorem extraB:Builder.Extra Tryz.prog Tryz.lays169_ren:=⟨⟨by kernel_rfl,by kernel_rfl⟩,Tryz.underlying5,Tryz.isAgg5,Tryz.sizeOf5,Tryz.zeroValue5,by kernel_rfl,by kernel_rfl,by kernel_rfl,by decide⟩
theorem string_any (b:Nat)(l:List UInt8)(w:World)(h:SB b l w):
  Calls Tryz.prog 78 #[.pointer (some ⟨b,0,none⟩)] w fun e w'=>e= .returned (.string ⟨l.toArray⟩)∧Below b w w':=
 Any.Builder_String_any Tryz.lays169 extraB b b l w h (Nat.le_of_lt h.lt)
end Go.Proofs.YtakljipkaoahnaaGreatDoor
namespace Go.Va
open Go.Own Go.RowKit
def hexD (n:Nat):UInt8:=if n<10 then UInt8.ofNat (48+n)else UInt8.ofNat (87+n)
def escL (c:UInt8):List UInt8:=if c.toNat=34∨c.toNat=92 then[92,c]else if c.toNat<32∨126<c.toNat then[92,120,hexD (c.toNat/16),hexD (c.toNat%16)]else[c]
def quoteL (s:List UInt8):List UInt8:=34::(s.flatMap escL++[34])
theorem escL_len (c:UInt8):(escL c).length≤4:=by
 unfold escL
 split
 ·simp
 ·split<;>simp
theorem quoteL_take {s:ByteArray}{k:Nat}(h:k<s.size):(34::(s.data.toList.take (k+1)).flatMap escL)=(34::(s.data.toList.take k).flatMap escL)++escL s[k]:=by
 have h':k<s.data.toList.length:=by simpa using h
 rw[List.take_succ_eq_append_getElem h',List.flatMap_append]
 simp
 rfl
theorem esc_all (l:List UInt8):(l.flatMap escL).length≤4*l.length:=by
 induction l with
 |nil=>simp
 |cons c r ih=>have:=escL_len c;simp[List.flatMap_cons];simp at ih;omega
def QtRel (w:World)(s:ByteArray)(k:Nat)(v3 v4:Value)(wr:World):Prop:=
 v4= .int .i64 k∧k≤s.size∧Hid (RowAt wr 5 v3 (34::(s.data.toList.take k).flatMap escL)∧Below w.heap.size w wr∧∀g,v3.ownBlock=some g→w.heap.size≤g)
theorem QtRel.app {w wx w6:World}{s:ByteArray}{k:Nat}{v3 v6:Value}{o:Obj}(h:Hid (RowAt wx 5 v3 (34::(s.data.toList.take k).flatMap escL)∧Below w.heap.size w wx∧∀g,v3.ownBlock=some g→w.heap.size≤g))(hk:k<s.size)
  {ys:List UInt8}(hy:escL s[k]=ys)(hr:RowAt w6 5 v6 ((34::(s.data.toList.take k).flatMap escL)++ys))(hk6:Keeps (fun j=>v3.ownBlock=some j) (wx.alloc o) w6)(hf6:∀g,v6.ownBlock=some g→v3.ownBlock=some g∨(wx.alloc o).heap.size≤g):
  QtRel w s (k+1) v6 (.int .i64 ((k:Int)+1)) w6:=by
 obtain⟨hR,hB,hO⟩:=h.out
 have hsz:=hB.size
 refine⟨by simp,hk,zhd ⟨by rw[quoteL_take hk,hy];exact hr,?_,fun g hg=> ?_⟩⟩
 ·exact((hB.alloc (by omega) o).trans (hk6.below (by simp;omega) (fun j hj e=>by have:=hO j e;omega)))
 ·rcases hf6 g hg with e|e
  ·exact hO g e
  ·have e':wx.heap.size+1≤g:=by simpa using e
   omega
end Go.Va
namespace Go.Proofs.YtakljipkaoahnaaGreatDoor
open Go.RowKit Go.Own Go.Own.MapTy Go.Va Go.Sort
open Go.Own.Cells (sz enc)
theorem itoa_any {N:Nat}(n:Int)(h0: -9223372036854775808≤n)(h1:n≤9223372036854775807)(w:World)(G:Gl Tryz.prog N w):
  Calls Tryz.prog 76 #[.int .i64 n] w fun e w'=>e= .returned (.string ⟨(Lib.itoa n).toArray⟩)∧Below w.heap.size w w':=by
 refine(Any.strconv_Itoa Tryz.laysM171 n h0 h1 w G.tab).mono ?_
 rintro e w' ⟨rfl,k,os,rfl⟩
 exact⟨rfl,below_grow w k os⟩
theorem news2 {w:World}{x y:UInt8}{m n:Int}{t:TypeId}(h1:m=(x.toNat:Int))(h2:n=(y.toNat:Int)):∀j u,(([x,y]:List UInt8).flatMap Cells.enc)[j]? =some u→(w.alloc (.cells #[.int .u8 m,.int .u8 n] t)).cell? ((⟨w.heap.size,0,none⟩:Addr).add j)=some u:=by
 intro j u hu
 rw[Addr.add_lit,zch (heap_alloc_new w _),Nat.zero_add,h1,h2]
 match j,hu with
 |0,hu=>simpa[Cells.enc]using hu
 |1,hu=>simpa[Cells.enc]using hu
theorem wp_appN {W:World}{ops:Array Oper}{rest:List Oper}{o:Oper}{a:Act}{Q:Exit→Act→World→Prop}(hg:o.guard=none)(s x:Operand)
  (hop:o.op=Op.call {callee:=Callee.builtin Builtin.append,args:=#[s,x],argTypes:=#[140,140]})
  {l:List UInt8}{v:Value}(ho:RowAt W 5 v l)(hs:a.eval s=v)
  (ad:Addr)(c n:Nat)(ys:List UInt8)(hx:a.eval x= .slice (some ad) n c)(hn:n=ys.length)(hc:∀j u,(ys.flatMap Cells.enc)[j]? =some u→W.cell? (ad.add j)=some u)(N:Nat)(hN:N=l.length+ys.length∧N≤1099511627776)
  (hK:∀a1 q1 w',RowAt w' 5 (.slice a1 N q1) (l++ys)→Keeps (fun j=>v.ownBlock=some j) W w'→(∀g,(Value.slice a1 N q1).ownBlock=some g→v.ownBlock=some g∨W.heap.size≤g)→wpList Tryz.prog ops Q rest (a.put o.dst (.slice a1 N q1)) w'):wpList Tryz.prog ops Q (o::rest) a W:=by
 obtain⟨rfl,hN2⟩:=hN
 subst hn
 exact wp_appL hg s x hop ho hs ad c ys hx hc hN2 hK
theorem lit4 {w:World}{x y z v:UInt8}{m n o p:Int}{t:TypeId}(h1:m=(x.toNat:Int))(h2:n=(y.toNat:Int))(h3:o=(z.toNat:Int))(h4:p=(v.toNat:Int)):RowAt (w.alloc (.cells #[.int .u8 m,.int .u8 n,.int .u8 o,.int .u8 p] t)) t (.slice (some ⟨w.heap.size,0,none⟩) 4 4) [x,y,z,v]:=by
 refine .inr ⟨w.heap.size,0,4,_,rfl,heap_alloc_new _ _,Nat.le_refl _,by unfold maxLen;omega,Nat.le_refl _,?_⟩
 intro j u hu
 rw[Nat.zero_add,h1,h2,h3,h4]
 match j,hu with
 |0,hu=>simpa[Cells.enc]using hu
 |1,hu=>simpa[Cells.enc]using hu
 |2,hu=>simpa[Cells.enc]using hu
 |3,hu=>simpa[Cells.enc]using hu
theorem and15 (c:UInt8):bits BinOp.and IntKind.u8 (c.toNat:Int) 15=(c.toNat:Int)%16:=by
 have h:∀k:Fin 256,bits BinOp.and IntKind.u8 (k.val:Int) 15=(k.val:Int)%16:=by decide+kernel
 exact h ⟨c.toNat,c.toNat_lt⟩
def hexs:ByteArray:=⟨#[48,49,50,51,52,53,54,55,56,57,97,98,99,100,101,102]⟩
theorem hex_at:∀m:Fin 16,(hexs[m.val]'(by exact m.isLt))=hexD m.val:=by decide+kernel
theorem run_hex (W:World)(i:Int)(m:Nat)(h:i=(m:Int))(hm:m<16):(Instr.index 9 (.string hexs) (.int .u8 i)).run Tryz.prog W= .ok (.int .u8 (hexD m).toNat) W:=by
 subst h
 rw[run_index_string (P:=Tryz.prog) W 9 hexs .u8 (m:Int) Tryz.underlying9]
 rw[dif_pos ⟨by omega,by show(m:Int)<16;omega⟩]
 exact congrArg (fun c:UInt8=>Result.ok (Value.int .u8 (c.toNat:Int)) W) (hex_at ⟨m,hm⟩)
theorem quote_any (s:ByteArray)(w:World)(hs:s.size≤4294967280):
  Calls Tryz.prog 75 #[.string s] w fun e w'=>e= .returned (.string ⟨(quoteL s.data.toList).toArray⟩)∧Below w.heap.size w w':=by
 go_enter Tryz.func75,Tryz.ntmps75
 go_wp2_with fail
 go_loopg [3,4] (s.size) (fun gk v3 v4 wr=>∃k,gk=s.size - k∧QtRel w s k v3 v4 wr)
 case atStart=>
  refine⟨0,rfl,rfl,Nat.zero_le _,zhd ⟨RowAt.lit (α:=UInt8) (y:=34) (heap_alloc_new _ _),zal,fun g hg=>by simp[Value.ownBlock]at hg;omega⟩⟩
 case round=>
  obtain⟨k,hgk,rfl,hk,HR⟩:=hrel
  obtain⟨a3,c3,rfl⟩:=HR.out.1.slice
  have HG:=zhd hgk
  obtain⟨n0,hn0⟩:∃n0,n0=(34::(s.data.toList.take k).flatMap escL).length:=⟨_,rfl⟩
  rw[←hn0]at HR⊢
  clear hgk hn0
  by_cases hkn:k<s.size
  ·have e0:(k:Int)<s.size:=by omega
   have hw:wrap64 ((k:Int)+1)=(k:Int)+1:=by unfold wrap64;omega
   by_cases h34:s[k].toNat=34
   ·
    have HC:=zhd (show escL s[k]=[92,34]from by unfold escL;rw[if_pos (by omega)];rw[show s[k]=34 from UInt8.toNat_inj.1 h34])
    obtain⟨N,hN⟩:∃N,N=(34::(s.data.toList.take k).flatMap escL).length+([92,34]:List UInt8).length:=⟨_,rfl⟩
    have HL:=zhd (show N=(34::(s.data.toList.take k).flatMap escL).length+([92,34]:List UInt8).length∧N≤1099511627776 from⟨hN,by have:=esc_all (s.data.toList.take k);simp at this hN⊢;omega⟩)
    clear hN
    go_wp2_with (at_builtin;go_must (refine wp_appN rfl (.tmp 27) (.tmp 29) rfl (HR.out.1.alloc _) rfl ⟨wr.heap.size,0,none⟩ 2 2 [92,34] rfl rfl (news2 rfl rfl) N HL.out ?_);intro a1 q1 w' hr' hk' hf')
    go_roundg (s.size - (k+1))
    case measure=>have:=HG.out;omega
    case rel=>exact⟨k+1,rfl,QtRel.app HR hkn HC.out hr' hk' hf'⟩
   ·by_cases h92:s[k].toNat=92
    ·
     have HC:=zhd (show escL s[k]=[92,92]from by unfold escL;rw[if_pos (by omega)];rw[show s[k]=92 from UInt8.toNat_inj.1 h92])
     obtain⟨N,hN⟩:∃N,N=(34::(s.data.toList.take k).flatMap escL).length+([92,92]:List UInt8).length:=⟨_,rfl⟩
     have HL:=zhd (show N=(34::(s.data.toList.take k).flatMap escL).length+([92,92]:List UInt8).length∧N≤1099511627776 from⟨hN,by have:=esc_all (s.data.toList.take k);simp at this hN⊢;omega⟩)
     clear hN
     go_wp2_with (at_builtin;go_must (refine wp_appN rfl (.tmp 27) (.tmp 29) rfl (HR.out.1.alloc _) rfl ⟨wr.heap.size,0,none⟩ 2 2 [92,92] rfl rfl (news2 rfl rfl) N HL.out ?_);intro a1 q1 w' hr' hk' hf')
     go_roundg (s.size - (k+1))
     case measure=>have:=HG.out;omega
     case rel=>exact⟨k+1,rfl,QtRel.app HR hkn HC.out hr' hk' hf'⟩
    ·have n1:((s[k].toNat:Int)==34)=false:=by rw[beq_eq_false_iff_ne];omega
     have n2:((s[k].toNat:Int)==92)=false:=by rw[beq_eq_false_iff_ne];omega
     by_cases hb:s[k].toNat<32∨126<s[k].toNat
     ·
      have HC:=zhd (show escL s[k]=[92,120,hexD (s[k].toNat/16),hexD (s[k].toNat%16)]from by unfold escL;rw[if_neg (by omega),if_pos hb])
      obtain⟨N,hN⟩:∃N,N=(34::(s.data.toList.take k).flatMap escL).length+([92,120,hexD (s[k].toNat/16),hexD (s[k].toNat%16)]:List UInt8).length:=⟨_,rfl⟩
      have HL:=zhd (show N=(34::(s.data.toList.take k).flatMap escL).length+([92,120,hexD (s[k].toNat/16),hexD (s[k].toNat%16)]:List UInt8).length∧N≤1099511627776 from⟨hN,by have:=esc_all (s.data.toList.take k);simp at this hN⊢;omega⟩)
      clear hN
      by_cases hlo:s[k].toNat<32
      ·have e1:((s[k].toNat:Int)<32):=by omega
       have R1:=fun W=>run_hex W ((s[k].toNat:Int)/16) (s[k].toNat/16) (by omega) (by have:=s[k].toNat_lt;omega)
       have R2:=fun W=>run_hex W ((s[k].toNat:Int)%16) (s[k].toNat%16) (by omega) (by omega)
       have d5:bits BinOp.and IntKind.u8 (s[k].toNat:Int) 15=(s[k].toNat:Int)%16:=and15 _
       unfold hexs at R1 R2
       obtain⟨x1,hx1⟩:∃x1,x1=hexD (s[k].toNat/16):=⟨_,rfl⟩
       obtain⟨x2,hx2⟩:∃x2,x2=hexD (s[k].toNat%16):=⟨_,rfl⟩
       rw[←hx1,←hx2]at HC HL
       rw[←hx1]at R1
       rw[←hx2]at R2
       clear hx1 hx2
       go_wp2_with fail
       go_region_law ((refine step_apps (α:=UInt8) (o:=⟨some 46,_,_,_,_,_⟩) elemB (by rfl) (.tmp 38) (.tmp 45) (by rfl) (v:=.slice a3 n0 c3) (u:=.slice (some ⟨wr.heap.size,0,none⟩) 4 4) (by rfl) (by rfl) (xs:=34::(s.data.toList.take k).flatMap escL) (ys:=[92,120,x1,x2]) ((HR.out.1.drew).alloc _) (lit4 rfl rfl rfl rfl) (by have:=HL.out;omega) (by have:=HL.out;unfold maxLen;omega) N HL.out.1.symm ?_;intro a1 q1 w' hr' hk' hf'))
       all_goals
        go_wp2_with fail
        go_roundg (s.size - (k+1))
        case measure=>have:=HG.out;omega
        case rel=>exact⟨k+1,rfl,QtRel.app (wx:=wr.drew) (zhd ⟨HR.out.1.drew,HR.out.2.1.drew,HR.out.2.2⟩) hkn HC.out hr' hk' hf'⟩
      ·have e1:¬((s[k].toNat:Int)<32):=by omega
       have e2:((126:Int)<(s[k].toNat:Int)):=by omega
       have R1:=fun W=>run_hex W ((s[k].toNat:Int)/16) (s[k].toNat/16) (by omega) (by have:=s[k].toNat_lt;omega)
       have R2:=fun W=>run_hex W ((s[k].toNat:Int)%16) (s[k].toNat%16) (by omega) (by omega)
       have d5:bits BinOp.and IntKind.u8 (s[k].toNat:Int) 15=(s[k].toNat:Int)%16:=and15 _
       unfold hexs at R1 R2
       obtain⟨x1,hx1⟩:∃x1,x1=hexD (s[k].toNat/16):=⟨_,rfl⟩
       obtain⟨x2,hx2⟩:∃x2,x2=hexD (s[k].toNat%16):=⟨_,rfl⟩
       rw[←hx1,←hx2]at HC HL
       rw[←hx1]at R1
       rw[←hx2]at R2
       clear hx1 hx2
       go_wp2_with fail
       go_region_law ((refine step_apps (α:=UInt8) (o:=⟨some 46,_,_,_,_,_⟩) elemB (by rfl) (.tmp 38) (.tmp 45) (by rfl) (v:=.slice a3 n0 c3) (u:=.slice (some ⟨wr.heap.size,0,none⟩) 4 4) (by rfl) (by rfl) (xs:=34::(s.data.toList.take k).flatMap escL) (ys:=[92,120,x1,x2]) ((HR.out.1.drew).alloc _) (lit4 rfl rfl rfl rfl) (by have:=HL.out;omega) (by have:=HL.out;unfold maxLen;omega) N HL.out.1.symm ?_;intro a1 q1 w' hr' hk' hf'))
       all_goals
        go_wp2_with fail
        go_roundg (s.size - (k+1))
        case measure=>have:=HG.out;omega
        case rel=>exact⟨k+1,rfl,QtRel.app (wx:=wr.drew) (zhd ⟨HR.out.1.drew,HR.out.2.1.drew,HR.out.2.2⟩) hkn HC.out hr' hk' hf'⟩
     ·have e1:¬((s[k].toNat:Int)<32):=by omega
      have e2:¬((126:Int)<(s[k].toNat:Int)):=by omega
      have HC:=zhd (show escL s[k]=[s[k]]from by unfold escL;rw[if_neg (by omega),if_neg hb])
      obtain⟨N,hN⟩:∃N,N=(34::(s.data.toList.take k).flatMap escL).length+([s[k]]:List UInt8).length:=⟨_,rfl⟩
      have HL:=zhd (show N=(34::(s.data.toList.take k).flatMap escL).length+([s[k]]:List UInt8).length∧N≤1099511627776 from⟨hN,by have:=esc_all (s.data.toList.take k);simp at this hN⊢;omega⟩)
      clear hN
      go_wp2_with (at_builtin;go_must (refine wp_appN rfl (.tmp 16) (.tmp 18) rfl (HR.out.1.alloc _) rfl ⟨wr.heap.size,0,none⟩ 1 1 [s[k]] rfl rfl (new_byteV _ _ _ _ rfl) N HL.out ?_);intro a1 q1 w' hr' hk' hf')
      go_roundg (s.size - (k+1))
      case measure=>have:=HG.out;omega
      case rel=>exact⟨k+1,rfl,QtRel.app HR hkn HC.out hr' hk' hf'⟩
  ·
   have e0:¬(k:Int)<s.size:=by omega
   have ek:k=s.size:=by omega
   have HE:=zhd (show s.data.toList.take k=s.data.toList from List.take_of_length_le (by simp;omega))
   obtain⟨N,hN⟩:∃N,N=(34::(s.data.toList.take k).flatMap escL).length+([34]:List UInt8).length:=⟨_,rfl⟩
   have HL:=zhd (show N=(34::(s.data.toList.take k).flatMap escL).length+([34]:List UInt8).length∧N≤1099511627776 from⟨hN,by have:=esc_all (s.data.toList.take k);simp at this hN⊢;omega⟩)
   clear hN
   clear ek
   go_wp2_with (at_builtin;go_must (refine wp_appN rfl (.tmp 47) (.tmp 48) rfl (HR.out.1.alloc _) rfl ⟨wr.heap.size,0,none⟩ 1 1 [34] rfl rfl (new_byteV _ _ _ _ rfl) N HL.out ?_);intro a1 q1 w' hr' hk' hf';have hcv:=run_str hr' 140 9 5 Tryz.underlying140 Tryz.underlying5 Tryz.underlying9)
   go_ret
   refine⟨by rw[HE.out];rfl,?_⟩
   have hsz:=HR.out.2.1.size
   exact((HR.out.2.1.alloc (by omega) _).trans (hk'.below (by simp;omega) (fun j hj e=>by have:=HR.out.2.2 j e;omega)))
end Go.Proofs.YtakljipkaoahnaaGreatDoor
namespace Go.Va
open Go.Own Go.RowKit
instance:Cells Nat where
 sz:=1
 enc:=fun n=>[.int .i64 (n:Int)]
 len:=fun _=>rfl
 one:=by
  intro x v hv
  simp at hv
  subst hv
  rfl
end Go.Va
namespace Go.Proofs.YtakljipkaoahnaaGreatDoor
open Go.RowKit Go.Own Go.Own.MapTy Go.Va Go.Sort
open Go.Own.Cells (sz enc)
theorem of_rule (op:Int)(inf:Inf)(ok:Bool)(h:ofL op=(inf,ok))(W:World):Calls Tryz.prog 73 #[.int .i64 op] W (fun e w'=>e= .returned (.tuple #[.agg #[.string inf.name,.int .i64 inf.operand,.int .i64 inf.i,.int .i64 inf.o,.bool inf.blocks,.bool inf.ends,.bool inf.flow],.bool ok])∧Below W.heap.size W w'):=by
 have:=of_any op W
 rw[h]at this
 exact this
end Go.Proofs.YtakljipkaoahnaaGreatDoor
