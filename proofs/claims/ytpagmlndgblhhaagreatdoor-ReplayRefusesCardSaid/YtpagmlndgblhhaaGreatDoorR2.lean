/- Parts of the proof: what the functions and the plain laws give that later parts lean on. Conditions: none beyond those that each theorem names. -/
import Derived.Test.YtpagmlndgblhhaaGreatDoorRows
import Derived.Deep.CutBlock
import Derived.RangeFuncRecord
import Derived.Shelf.LaysM
import Derived.Shelf.LaysC
import Derived.Shelf.Small.Strs
import Derived.Shelf.Small.Wraps
import Derived.Shelf.Strings.Prefix
import Derived.Shelf.Strings.Cut
import Derived.Shelf.Strings.Split
import Derived.Shelf.Strings.OnBuilder
import Derived.Shelf.Strconv.Itoa3
import Derived.Shelf.Strconv.Itoa4
import Derived.Shelf.Strconv.AtoiAll
import Derived.Shelf.Strconv.ParseIntPublic10
import Derived.Test.YtpagmlndgblhhaaGreatDoorProg
import Derived.Lib.IndexLaws
import Derived.Laws.IdiomStrings
import Derived.Lib.LaidTab
import Derived.Lib.ParseIntB
import Derived.Lib.ItoaNum
import Derived.Shelf.Strconv.ErrVarAll
import Derived.Lib.SmallJoins
import Derived.Test.YtpagmlndgblhhaaGreatDoorR1
set_option maxRecDepth 100000
set_option maxHeartbeats 8000000
namespace Go.Va
structure Inf where
 name:ByteArray
 operand:Int
 i:Int
 o:Int
 blocks:Bool
 ends:Bool
 flow:Bool
def Inf.cells (x:Inf):Array Value:=#[.string x.name,.int .i64 x.operand,.int .i64 x.i,.int .i64 x.o,.bool x.blocks,.bool x.ends,.bool x.flow]
def yck (op:Int):Inf×Bool:=
 bif op==17 then(⟨⟨#[116,105,109,101,114]⟩,0,1,1,false,false,false⟩,true)else
 bif op==18 then(⟨⟨#[119,97,105,116]⟩,0,1,1,true,false,false⟩,true)else
 bif op==19 then(⟨⟨#[99,97,110,99,101,108]⟩,0,1,1,false,false,false⟩,true)else
 bif op==20 then(⟨⟨#[99,97,108,108]⟩,2,2,1,false,false,false⟩,true)else
 bif op==21 then(⟨⟨#[106,111,105,110]⟩,0,1,2,true,false,false⟩,true)else
 bif op==22 then(⟨⟨#[115,105,103,110,97,108]⟩,2,0,1,true,false,false⟩,true)else
 bif op==23 then(⟨⟨#[112,111,108,108]⟩,2,0,2,false,false,false⟩,true)else
 bif op==24 then(⟨⟨#[97,115,107,101,100]⟩,0,0,1,false,false,false⟩,true)else
 bif op==25 then(⟨⟨#[114,101,116,117,114,110]⟩,0,1,0,false,true,false⟩,true)else
 bif op==26 then(⟨⟨#[102,97,105,108]⟩,2,0,0,false,true,false⟩,true)else
 bif op==27 then(⟨⟨#[97,103,97,105,110]⟩,0,1,0,false,true,false⟩,true)else
 bif op==28 then(⟨⟨#[101,105,116,104,101,114]⟩,2,1,2,true,false,false⟩,true)else
 bif op==29 then(⟨⟨#[112,97,99,107]⟩,5,0,1,false,false,false⟩,true)else
 bif op==30 then(⟨⟨#[105,116,101,109]⟩,0,2,1,false,false,false⟩,true)else
 bif op==31 then(⟨⟨#[115,105,122,101]⟩,0,1,1,false,false,false⟩,true)else
 bif op==32 then(⟨⟨#[99,97,116]⟩,0,2,1,false,false,false⟩,true)else
 (⟨⟨#[]⟩,0,0,0,false,false,false⟩,false)
def ofL (op:Int):Inf×Bool:=
 bif op==0 then(⟨⟨#[110,111,112]⟩,0,0,0,false,false,false⟩,true)else
 bif op==1 then(⟨⟨#[112,117,115,104]⟩,1,0,1,false,false,false⟩,true)else
 bif op==2 then(⟨⟨#[112,111,112]⟩,0,1,0,false,false,false⟩,true)else
 bif op==3 then(⟨⟨#[100,117,112]⟩,0,1,2,false,false,false⟩,true)else
 bif op==4 then(⟨⟨#[115,119,97,112]⟩,0,2,2,false,false,false⟩,true)else
 bif op==5 then(⟨⟨#[97,100,100]⟩,0,2,1,false,false,false⟩,true)else
 bif op==6 then(⟨⟨#[115,117,98]⟩,0,2,1,false,false,false⟩,true)else
 bif op==7 then(⟨⟨#[109,117,108]⟩,0,2,1,false,false,false⟩,true)else
 bif op==8 then(⟨⟨#[115,97,109,101]⟩,0,2,1,false,false,false⟩,true)else
 bif op==9 then(⟨⟨#[108,101,115,115]⟩,0,2,1,false,false,false⟩,true)else
 bif op==10 then(⟨⟨#[110,111,116]⟩,0,1,1,false,false,false⟩,true)else
 bif op==11 then(⟨⟨#[106,117,109,112]⟩,4,0,0,false,false,true⟩,true)else
 bif op==12 then(⟨⟨#[117,110,108,101,115,115]⟩,4,1,0,false,false,true⟩,true)else
 bif op==13 then(⟨⟨#[108,111,97,100]⟩,3,0,1,false,false,false⟩,true)else
 bif op==14 then(⟨⟨#[115,116,111,114,101]⟩,3,1,0,false,false,false⟩,true)else
 bif op==15 then(⟨⟨#[105,110,112,117,116]⟩,0,0,1,false,false,false⟩,true)else
 bif op==16 then(⟨⟨#[110,111,119]⟩,0,0,1,false,false,false⟩,true)else
 yck op
end Go.Va
namespace Go.Proofs.YtpagmlndgblhhaaGreatDoor
open Go.RowKit Go.Own Go.Own.MapTy Go.Va
open Go.Own.Cells (sz enc)
set_option maxHeartbeats 4000000 in
theorem yiZ (op:Int)(w:World):Calls Tryz.prog 127 #[.int .i64 op] w fun e w'=>e= .returned (.tuple #[.agg (yck op).1.cells,.bool (yck op).2])∧Below w.heap.size w w':=by
 go_enter Tryz.func127,Tryz.ntmps127;go_wp2_with fail
 all_goals
  refine zng (v:=.tuple #[.agg (yck op).1.cells,.bool (yck op).2]) ?_ rfl ⟨rfl,zal⟩;simp only[yck, *,znm,znl,Inf.cells];simp only[results,Tryz.results127];go_simp
set_option maxHeartbeats 4000000 in
theorem yfz (op:Int)(w:World):Calls Tryz.prog 92 #[.int .i64 op] w fun e w'=>e= .returned (.tuple #[.agg (ofL op).1.cells,.bool (ofL op).2])∧Below w.heap.size w w':=by
 go_enter Tryz.func92,Tryz.ntmps92;go_wp2_with fail
 all_goals try
  refine zng (v:=.tuple #[.agg (ofL op).1.cells,.bool (ofL op).2]) ?_ rfl ⟨rfl,zal⟩;simp only[ofL, *,znm,znl,Inf.cells];simp only[results,Tryz.results92];go_simp
 have e:ofL op=yck op:=by simp only[ofL, *,znl]
 refine(yiZ op _).mono ?_;rintro e w1 ⟨rfl,hB⟩;generalize hp:yck op=p at*;obtain⟨x,b⟩:=p;have hh:w1.heap[w.heap.size]? =some (.cells #[.string .empty,.int .i64 0,.int .i64 0,.int .i64 0,.bool false,.bool false,.bool false] 169):=by
  refine((zkb hB).block (S:=fun _=>False) w.heap.size (by simp) (fun f=>f)).trans (World.alloc_heap_new _ _)
 have c0:=zca hh 0 rfl;have c1:=zca hh 1 rfl;have c2:=zca hh 2 rfl;have c3:=zca hh 3 rfl;have c4:=zca hh 4 rfl;have c5:=zca hh 5 rfl;have c6:=zca hh 6 rfl;have f0:∀o,w1.frozen? ⟨w.heap.size,o,none⟩=false:=fun o=>zfr hh o;simp only[Inf.cells];clear hh;go_wp2_with fail;refine zng (v:=.tuple #[.agg (ofL op).1.cells,.bool (ofL op).2]) ?_ rfl ⟨rfl,?_⟩
 ·rw[e]
  simp only[results,Tryz.results92,Inf.cells];go_simp
 ·have hB0:=((znv w.heap.size w).alloc (znc _) _).trans (hB.mono (by simp))
  exact((((((hB0.setCell (znc _) _).setCell (znc _) _).setCell (znc _) _).setCell (znc _) _).setCell (znc _) _).setCell (znc _) _).setCell (znc _) _
def ybZ (name:ByteArray):Nat→Nat→Option Nat
 |0,_=>none
 |n+1,k=>bif (ofL k).2&&(ofL k).1.name.data.toList==name.data.toList then some k else ybZ name n (k+1)
def yet (name:ByteArray):Option Nat:=ybZ name 33 0
def yjU (r:Option Nat):Value:=.tuple #[.int .i64 (r.getD 0:Nat),.bool r.isSome]
set_option maxHeartbeats 4000000 in
theorem yjT (name:ByteArray)(w:World):Calls Tryz.prog 91 #[.string name] w fun e w'=>e= .returned (yjU (yet name))∧Below w.heap.size w w':=by
 go_enter Tryz.func91,Tryz.ntmps91;go_wp2_with fail
 go_loopw [7] (fun v7 wr=>∃k:Nat,v7= .int .i64 k∧k≤33∧Below w.heap.size w wr∧ybZ name (33 - k) k=yet name) (fun v7 _=>33 - (intOf v7).toNat)
 case atStart=>exact⟨0,rfl,znq _,znv _ _,rfl⟩
 case round=>
  obtain⟨k,rfl,hk,hB,hf⟩:=hrel;by_cases hkn:k<33
  ·have e0:((k:Int)<33):=by omega
   have OF:=zhd (yfz k wr);have HB:=zh2 hB hf;clear hB hf;go_wp2_with fail;refine OF.o.mono ?_;rintro e w1 ⟨rfl,hB1⟩;have hh:=zhd hB1;clear hB1;generalize hp:ofL k=p;obtain⟨x,b⟩:=p;simp only[Inf.cells];have hst:ybZ name (33 - k) k=bif b&&x.name.toList==name.toList then some k else ybZ name (33 - (k+1)) (k+1):=by
    have e1:33 - k=(33 - (k+1))+1:=by omega
    rw[e1,ybZ,hp,zml,zml]
   have hst:=zhd hst;clear hp;cases b<;>cases hn:x.name.toList==name.toList
   all_goals go_wp2_with fail
   all_goals have hB:=hh.o.mono HB.o.1.size
   all_goals have hB2:=(HB.o.1.trans hB).alloc (znf HB.o.1.size hh.o.size) (.cells #[.string x.name,.int .i64 x.operand,.int .i64 x.i,.int .i64 x.o,.bool x.blocks,.bool x.ends,.bool x.flow] 169)
   all_goals try
    refine⟨⟨k+1,by simp,by omega,hB2,?_⟩,by simp[intOf];omega⟩;rw[←HB.o.2,hst.o,hn];rfl
   refine zng (v:=yjU (yet name)) ?_ rfl ⟨rfl,hB2⟩;rw[←HB.o.2,hst.o,hn];simp only[results,Tryz.results91,yjU];go_simp
  ·obtain rfl:k=33:=by omega
   have HB:=zh2 hB hf;clear hB hf;go_wp2_with fail;refine zng (v:=yjU (yet name)) ?_ rfl ⟨rfl,HB.o.1⟩;rw[←HB.o.2,show 33 - 33=0 from rfl,ybZ];simp only[results,Tryz.results91,yjU];go_simp
end Go.Proofs.YtpagmlndgblhhaaGreatDoor
namespace Go.Proofs
open Go.Shelf
def Tryz.lays106_ren:Go.Shelf.Ren:=⟨fun|106=>111|213=>140|265=>165|n=>n,fun|9=>9|3=>3|n=>n,fun|n=>n⟩
theorem Tryz.lays106:Go.Proofs.Lays.n106 Tryz.prog Tryz.lays106_ren:={
 mixed:=by kernel_rfl
 f106:=Tryz.func111.trans (congrArg some (by kernel_rfl))
 f213:=Tryz.func140.trans (congrArg some (by kernel_rfl))
 f265:=Tryz.func165.trans (congrArg some (by kernel_rfl))
 t3:=Tryz.underlying3
 a3:=Tryz.isAgg3
 z3:=Tryz.sizeOf3
 v3:=Tryz.zeroValue3
 t9:=Tryz.underlying9
 a9:=Tryz.isAgg9
 z9:=Tryz.sizeOf9
 v9:=Tryz.zeroValue9}
def Tryz.lays137_ren:Go.Shelf.Ren:=⟨fun|137=>98|217=>137|266=>155|n=>n,fun|9=>9|5=>5|3=>3|n=>n,fun|n=>n⟩
theorem Tryz.lays137:Go.Proofs.Lays.n137 Tryz.prog Tryz.lays137_ren:={
 mixed:=by kernel_rfl
 f137:=Tryz.func98.trans (congrArg some (by kernel_rfl))
 f217:=Tryz.func137.trans (congrArg some (by kernel_rfl))
 f266:=Tryz.func155.trans (congrArg some (by kernel_rfl))
 t3:=Tryz.underlying3
 a3:=Tryz.isAgg3
 z3:=Tryz.sizeOf3
 v3:=Tryz.zeroValue3
 t5:=Tryz.underlying5
 a5:=Tryz.isAgg5
 z5:=Tryz.sizeOf5
 v5:=Tryz.zeroValue5
 t9:=Tryz.underlying9
 a9:=Tryz.isAgg9
 z9:=Tryz.sizeOf9
 v9:=Tryz.zeroValue9}
def Tryz.lays103_ren:Go.Shelf.Ren:=⟨fun|103=>89|210=>125|206=>150|n=>n,fun|9=>9|4=>4|24=>98|3=>3|n=>n,fun|n=>n⟩
theorem Tryz.lays103:Go.Proofs.Lays.n103 Tryz.prog Tryz.lays103_ren:={
 mixed:=by kernel_rfl
 f103:=Tryz.func89.trans (congrArg some (by kernel_rfl))
 f206:=Tryz.func150.trans (congrArg some (by kernel_rfl))
 f210:=Tryz.func125.trans (congrArg some (by kernel_rfl))
 t3:=Tryz.underlying3
 a3:=Tryz.isAgg3
 z3:=Tryz.sizeOf3
 v3:=Tryz.zeroValue3
 t4:=Tryz.underlying4
 a4:=Tryz.isAgg4
 z4:=Tryz.sizeOf4
 v4:=Tryz.zeroValue4
 t9:=Tryz.underlying9
 a9:=Tryz.isAgg9
 z9:=Tryz.sizeOf9
 v9:=Tryz.zeroValue9
 t24:=Tryz.underlying98
 a24:=Tryz.isAgg98
 z24:=Tryz.sizeOf98
 v24:=Tryz.zeroValue98}
def Tryz.lays104_ren:Go.Shelf.Ren:=⟨fun|104=>45|211=>86|207=>121|n=>n,fun|9=>9|4=>4|24=>98|3=>3|n=>n,fun|n=>n⟩
theorem Tryz.lays104:Go.Proofs.Lays.n104 Tryz.prog Tryz.lays104_ren:={
 mixed:=by kernel_rfl
 f104:=Tryz.func45.trans (congrArg some (by kernel_rfl))
 f207:=Tryz.func121.trans (congrArg some (by kernel_rfl))
 f211:=Tryz.func86.trans (congrArg some (by kernel_rfl))
 t3:=Tryz.underlying3
 a3:=Tryz.isAgg3
 z3:=Tryz.sizeOf3
 v3:=Tryz.zeroValue3
 t4:=Tryz.underlying4
 a4:=Tryz.isAgg4
 z4:=Tryz.sizeOf4
 v4:=Tryz.zeroValue4
 t9:=Tryz.underlying9
 a9:=Tryz.isAgg9
 z9:=Tryz.sizeOf9
 v9:=Tryz.zeroValue9
 t24:=Tryz.underlying98
 a24:=Tryz.isAgg98
 z24:=Tryz.sizeOf98
 v24:=Tryz.zeroValue98}
def Tryz.lays99_ren:Go.Shelf.Ren:=⟨fun|99=>170|206=>150|n=>n,fun|9=>9|4=>4|3=>3|n=>n,fun|n=>n⟩
theorem Tryz.lays99:Go.Proofs.Lays.n99 Tryz.prog Tryz.lays99_ren:={
 mixed:=by kernel_rfl
 f99:=Tryz.func170.trans (congrArg some (by kernel_rfl))
 f206:=Tryz.func150.trans (congrArg some (by kernel_rfl))
 t3:=Tryz.underlying3
 a3:=Tryz.isAgg3
 z3:=Tryz.sizeOf3
 v3:=Tryz.zeroValue3
 t4:=Tryz.underlying4
 a4:=Tryz.isAgg4
 z4:=Tryz.sizeOf4
 v4:=Tryz.zeroValue4
 t9:=Tryz.underlying9
 a9:=Tryz.isAgg9
 z9:=Tryz.sizeOf9
 v9:=Tryz.zeroValue9}
def Tryz.lays145_ren:Go.Shelf.Ren:=⟨fun|145=>90|220=>126|219=>149|217=>137|225=>167|224=>168|267=>169|266=>155|314=>183|n=>n,fun|9=>9|4=>4|59=>165|3=>3|5=>5|46=>219|146=>273|51=>229|n=>n,fun|1=>0|n=>n⟩
theorem Tryz.lays145:Go.Proofs.Lays.n145 Tryz.prog Tryz.lays145_ren:={
 mixed:=by kernel_rfl
 f145:=Tryz.func90.trans (congrArg some (by kernel_rfl))
 f217:=Tryz.func137.trans (congrArg some (by kernel_rfl))
 f219:=Tryz.func149.trans (congrArg some (by kernel_rfl))
 f220:=Tryz.func126.trans (congrArg some (by kernel_rfl))
 f224:=Tryz.func168.trans (congrArg some (by kernel_rfl))
 f225:=Tryz.func167.trans (congrArg some (by kernel_rfl))
 f266:=Tryz.func155.trans (congrArg some (by kernel_rfl))
 f267:=Tryz.func169.trans (congrArg some (by kernel_rfl))
 f314:=Tryz.func183.trans (congrArg some (by kernel_rfl))
 t3:=Tryz.underlying3
 a3:=Tryz.isAgg3
 z3:=Tryz.sizeOf3
 v3:=Tryz.zeroValue3
 t4:=Tryz.underlying4
 a4:=Tryz.isAgg4
 z4:=Tryz.sizeOf4
 v4:=Tryz.zeroValue4
 t5:=Tryz.underlying5
 a5:=Tryz.isAgg5
 z5:=Tryz.sizeOf5
 v5:=Tryz.zeroValue5
 t9:=Tryz.underlying9
 a9:=Tryz.isAgg9
 z9:=Tryz.sizeOf9
 v9:=Tryz.zeroValue9
 t46:=Tryz.underlying219
 a46:=Tryz.isAgg219
 z46:=Tryz.sizeOf219
 v46:=Tryz.zeroValue219
 t51:=Tryz.underlying229
 a51:=Tryz.isAgg229
 z51:=Tryz.sizeOf229
 v51:=Tryz.zeroValue229
 t59:=Tryz.underlying165
 a59:=Tryz.isAgg165
 z59:=Tryz.sizeOf165
 v59:=Tryz.zeroValue165
 t146:=Tryz.underlying273
 a146:=Tryz.isAgg273
 z146:=Tryz.sizeOf273
 v146:=Tryz.zeroValue273
 g1:=by kernel_rfl}
def Tryz.lays146_ren:Go.Shelf.Ren:=⟨fun|146=>46|221=>87|268=>122|138=>123|143=>124|195=>146|197=>147|218=>148|219=>149|260=>166|217=>137|225=>167|224=>168|267=>169|266=>155|314=>183|n=>n,fun|9=>9|31=>26|3=>3|4=>4|0=>0|105=>243|21=>21|5=>5|46=>219|119=>269|139=>272|138=>271|146=>273|51=>229|n=>n,fun|1=>0|3=>1|4=>2|n=>n⟩
theorem Tryz.lays146:Go.Proofs.Lays.n146 Tryz.prog Tryz.lays146_ren:={
 mixed:=by kernel_rfl
 f138:=Tryz.func123.trans (congrArg some (by kernel_rfl))
 f143:=Tryz.func124.trans (congrArg some (by kernel_rfl))
 f146:=Tryz.func46.trans (congrArg some (by kernel_rfl))
 f195:=Tryz.func146.trans (congrArg some (by kernel_rfl))
 f197:=Tryz.func147.trans (congrArg some (by kernel_rfl))
 f217:=Tryz.func137.trans (congrArg some (by kernel_rfl))
 f218:=Tryz.func148.trans (congrArg some (by kernel_rfl))
 f219:=Tryz.func149.trans (congrArg some (by kernel_rfl))
 f221:=Tryz.func87.trans (congrArg some (by kernel_rfl))
 f224:=Tryz.func168.trans (congrArg some (by kernel_rfl))
 f225:=Tryz.func167.trans (congrArg some (by kernel_rfl))
 f260:=Tryz.func166.trans (congrArg some (by kernel_rfl))
 f266:=Tryz.func155.trans (congrArg some (by kernel_rfl))
 f267:=Tryz.func169.trans (congrArg some (by kernel_rfl))
 f268:=Tryz.func122.trans (congrArg some (by kernel_rfl))
 f314:=Tryz.func183.trans (congrArg some (by kernel_rfl))
 t0:=Tryz.underlying0
 a0:=Tryz.isAgg0
 z0:=Tryz.sizeOf0
 v0:=Tryz.zeroValue0
 t3:=Tryz.underlying3
 a3:=Tryz.isAgg3
 z3:=Tryz.sizeOf3
 v3:=Tryz.zeroValue3
 t4:=Tryz.underlying4
 a4:=Tryz.isAgg4
 z4:=Tryz.sizeOf4
 v4:=Tryz.zeroValue4
 t5:=Tryz.underlying5
 a5:=Tryz.isAgg5
 z5:=Tryz.sizeOf5
 v5:=Tryz.zeroValue5
 t9:=Tryz.underlying9
 a9:=Tryz.isAgg9
 z9:=Tryz.sizeOf9
 v9:=Tryz.zeroValue9
 t21:=Tryz.underlying21
 a21:=Tryz.isAgg21
 z21:=Tryz.sizeOf21
 v21:=Tryz.zeroValue21
 t31:=Tryz.underlying26
 a31:=Tryz.isAgg26
 z31:=Tryz.sizeOf26
 v31:=Tryz.zeroValue26
 t46:=Tryz.underlying219
 a46:=Tryz.isAgg219
 z46:=Tryz.sizeOf219
 v46:=Tryz.zeroValue219
 t51:=Tryz.underlying229
 a51:=Tryz.isAgg229
 z51:=Tryz.sizeOf229
 v51:=Tryz.zeroValue229
 t105:=Tryz.underlying243
 a105:=Tryz.isAgg243
 z105:=Tryz.sizeOf243
 v105:=Tryz.zeroValue243
 t119:=Tryz.underlying269
 a119:=Tryz.isAgg269
 z119:=Tryz.sizeOf269
 t138:=Tryz.underlying271
 a138:=Tryz.isAgg271
 z138:=Tryz.sizeOf271
 v138:=Tryz.zeroValue271
 t139:=Tryz.underlying272
 a139:=Tryz.isAgg272
 z139:=Tryz.sizeOf272
 v139:=Tryz.zeroValue272
 t146:=Tryz.underlying273
 a146:=Tryz.isAgg273
 z146:=Tryz.sizeOf273
 v146:=Tryz.zeroValue273
 g1:=by kernel_rfl
 g3:=by kernel_rfl
 g4:=by kernel_rfl}
def Tryz.laysM173_ren:Go.Shelf.Ren:=⟨fun|173=>186|246=>192|283=>196|284=>197|285=>198|286=>199|129=>203|317=>202|318=>204|319=>205|320=>206|337=>207|338=>208|n=>n,fun|2=>2|3=>3|9=>9|4=>4|171=>288|0=>0|53=>188|37=>55|5=>5|173=>291|212=>298|51=>229|20=>20|213=>299|46=>219|232=>238|233=>302|n=>n,fun|17=>5|18=>6|19=>7|n=>n⟩
theorem Tryz.laysM173:Go.Proofs.LaysM.n173 Tryz.prog Tryz.laysM173_ren:={
 mixed:=by kernel_rfl
 f129:=Tryz.func203.trans (congrArg some (by kernel_rfl))
 f173:=Tryz.func186.trans (congrArg some (by kernel_rfl))
 f246:=Tryz.func192.trans (congrArg some (by kernel_rfl))
 f283:=Tryz.func196.trans (congrArg some (by kernel_rfl))
 f284:=Tryz.func197.trans (congrArg some (by kernel_rfl))
 f285:=Tryz.func198.trans (congrArg some (by kernel_rfl))
 f286:=Tryz.func199.trans (congrArg some (by kernel_rfl))
 f317:=Tryz.func202.trans (congrArg some (by kernel_rfl))
 f318:=Tryz.func204.trans (congrArg some (by kernel_rfl))
 f319:=Tryz.func205.trans (congrArg some (by kernel_rfl))
 f320:=Tryz.func206.trans (congrArg some (by kernel_rfl))
 f337:=Tryz.func207.trans (congrArg some (by kernel_rfl))
 f338:=Tryz.func208.trans (congrArg some (by kernel_rfl))
 t0:=Tryz.underlying0
 a0:=Tryz.isAgg0
 z0:=Tryz.sizeOf0
 v0:=Tryz.zeroValue0
 t2:=Tryz.underlying2
 a2:=Tryz.isAgg2
 z2:=Tryz.sizeOf2
 v2:=Tryz.zeroValue2
 t3:=Tryz.underlying3
 a3:=Tryz.isAgg3
 z3:=Tryz.sizeOf3
 v3:=Tryz.zeroValue3
 t4:=Tryz.underlying4
 a4:=Tryz.isAgg4
 z4:=Tryz.sizeOf4
 v4:=Tryz.zeroValue4
 t5:=Tryz.underlying5
 a5:=Tryz.isAgg5
 z5:=Tryz.sizeOf5
 v5:=Tryz.zeroValue5
 t9:=Tryz.underlying9
 a9:=Tryz.isAgg9
 z9:=Tryz.sizeOf9
 v9:=Tryz.zeroValue9
 t20:=Tryz.underlying20
 a20:=Tryz.isAgg20
 z20:=Tryz.sizeOf20
 v20:=Tryz.zeroValue20
 t37:=Tryz.underlying55
 a37:=Tryz.isAgg55
 z37:=Tryz.sizeOf55
 v37:=Tryz.zeroValue55
 t46:=Tryz.underlying219
 a46:=Tryz.isAgg219
 z46:=Tryz.sizeOf219
 v46:=Tryz.zeroValue219
 t51:=Tryz.underlying229
 a51:=Tryz.isAgg229
 z51:=Tryz.sizeOf229
 v51:=Tryz.zeroValue229
 t53:=Tryz.underlying188
 a53:=Tryz.isAgg188
 z53:=Tryz.sizeOf188
 v53:=Tryz.zeroValue188
 t171:=Tryz.underlying288
 a171:=Tryz.isAgg288
 z171:=Tryz.sizeOf288
 v171:=Tryz.zeroValue288
 t173:=Tryz.underlying291
 a173:=Tryz.isAgg291
 z173:=Tryz.sizeOf291
 v173:=Tryz.zeroValue291
 t212:=Tryz.underlying298
 a212:=Tryz.isAgg298
 z212:=Tryz.sizeOf298
 v212:=Tryz.zeroValue298
 t213:=Tryz.underlying299
 a213:=Tryz.isAgg299
 z213:=Tryz.sizeOf299
 t232:=Tryz.underlying238
 a232:=Tryz.isAgg238
 z232:=Tryz.sizeOf238
 v232:=Tryz.zeroValue238
 t233:=Tryz.underlying302
 a233:=Tryz.isAgg302
 z233:=Tryz.sizeOf302
 v233:=Tryz.zeroValue302
 g17:=by kernel_rfl
 g18:=by kernel_rfl
 g19:=by kernel_rfl
 i0:=by kernel_rfl
 i2:=by kernel_rfl
 i3:=by kernel_rfl
 i4:=by kernel_rfl
 i5:=by kernel_rfl
 i9:=by kernel_rfl
 i20:=by kernel_rfl
 i37:=by kernel_rfl
 i46:=by kernel_rfl
 i51:=by kernel_rfl
 i53:=by kernel_rfl
 i171:=by kernel_rfl
 i173:=by kernel_rfl
 i212:=by kernel_rfl
 i232:=by kernel_rfl
 i233:=by kernel_rfl
 m17:=by kernel_rfl
 m18:=by kernel_rfl
 m19:=by kernel_rfl}
def Tryz.laysC174_ren:Go.Shelf.Ren:=⟨fun|174=>185|247=>187|245=>175|287=>193|279=>188|280=>189|281=>190|282=>191|321=>200|322=>201|316=>194|171=>153|205=>195|243=>176|246=>192|283=>196|284=>197|285=>198|286=>199|129=>203|317=>202|318=>204|319=>205|320=>206|337=>207|338=>208|n=>n,fun|9=>9|3=>3|2=>2|75=>250|85=>276|4=>4|167=>279|5=>5|53=>188|175=>283|46=>219|168=>280|37=>55|0=>0|210=>286|21=>21|127=>294|145=>297|143=>295|171=>288|173=>291|212=>298|51=>229|20=>20|213=>299|232=>238|233=>302|80=>224|n=>n,fun|15=>3|16=>4|17=>5|18=>6|19=>7|n=>n⟩
theorem Tryz.laysC174:Go.Proofs.LaysC.n174 Tryz.prog Tryz.laysC174_ren:={
 mixed:=by kernel_rfl
 f129:=Tryz.func203.trans (congrArg some (by kernel_rfl))
 f171:=Tryz.func153.trans (congrArg some (by kernel_rfl))
 f174:=Tryz.func185.trans (congrArg some (by kernel_rfl))
 f205:=Tryz.func195.trans (congrArg some (by kernel_rfl))
 f243:=Tryz.func176.trans (congrArg some (by kernel_rfl))
 f245:=Tryz.func175.trans (congrArg some (by kernel_rfl))
 f246:=Tryz.func192.trans (congrArg some (by kernel_rfl))
 f247:=Tryz.func187.trans (congrArg some (by kernel_rfl))
 f279:=Tryz.func188.trans (congrArg some (by kernel_rfl))
 f280:=Tryz.func189.trans (congrArg some (by kernel_rfl))
 f281:=Tryz.func190.trans (congrArg some (by kernel_rfl))
 f282:=Tryz.func191.trans (congrArg some (by kernel_rfl))
 f283:=Tryz.func196.trans (congrArg some (by kernel_rfl))
 f284:=Tryz.func197.trans (congrArg some (by kernel_rfl))
 f285:=Tryz.func198.trans (congrArg some (by kernel_rfl))
 f286:=Tryz.func199.trans (congrArg some (by kernel_rfl))
 f287:=Tryz.func193.trans (congrArg some (by kernel_rfl))
 f316:=Tryz.func194.trans (congrArg some (by kernel_rfl))
 f317:=Tryz.func202.trans (congrArg some (by kernel_rfl))
 f318:=Tryz.func204.trans (congrArg some (by kernel_rfl))
 f319:=Tryz.func205.trans (congrArg some (by kernel_rfl))
 f320:=Tryz.func206.trans (congrArg some (by kernel_rfl))
 f321:=Tryz.func200.trans (congrArg some (by kernel_rfl))
 f322:=Tryz.func201.trans (congrArg some (by kernel_rfl))
 f337:=Tryz.func207.trans (congrArg some (by kernel_rfl))
 f338:=Tryz.func208.trans (congrArg some (by kernel_rfl))
 t0:=Tryz.underlying0
 a0:=Tryz.isAgg0
 z0:=Tryz.sizeOf0
 v0:=Tryz.zeroValue0
 t2:=Tryz.underlying2
 a2:=Tryz.isAgg2
 z2:=Tryz.sizeOf2
 v2:=Tryz.zeroValue2
 t3:=Tryz.underlying3
 a3:=Tryz.isAgg3
 z3:=Tryz.sizeOf3
 v3:=Tryz.zeroValue3
 t4:=Tryz.underlying4
 a4:=Tryz.isAgg4
 z4:=Tryz.sizeOf4
 v4:=Tryz.zeroValue4
 t5:=Tryz.underlying5
 a5:=Tryz.isAgg5
 z5:=Tryz.sizeOf5
 v5:=Tryz.zeroValue5
 t9:=Tryz.underlying9
 a9:=Tryz.isAgg9
 z9:=Tryz.sizeOf9
 v9:=Tryz.zeroValue9
 t20:=Tryz.underlying20
 a20:=Tryz.isAgg20
 z20:=Tryz.sizeOf20
 v20:=Tryz.zeroValue20
 t21:=Tryz.underlying21
 a21:=Tryz.isAgg21
 z21:=Tryz.sizeOf21
 v21:=Tryz.zeroValue21
 t37:=Tryz.underlying55
 a37:=Tryz.isAgg55
 z37:=Tryz.sizeOf55
 v37:=Tryz.zeroValue55
 t46:=Tryz.underlying219
 a46:=Tryz.isAgg219
 z46:=Tryz.sizeOf219
 v46:=Tryz.zeroValue219
 t51:=Tryz.underlying229
 a51:=Tryz.isAgg229
 z51:=Tryz.sizeOf229
 v51:=Tryz.zeroValue229
 t53:=Tryz.underlying188
 a53:=Tryz.isAgg188
 z53:=Tryz.sizeOf188
 v53:=Tryz.zeroValue188
 t75:=Tryz.underlying250
 a75:=Tryz.isAgg250
 z75:=Tryz.sizeOf250
 v75:=Tryz.zeroValue250
 t85:=Tryz.underlying276
 a85:=Tryz.isAgg276
 z85:=Tryz.sizeOf276
 v85:=Tryz.zeroValue276
 t127:=Tryz.underlying294
 a127:=Tryz.isAgg294
 z127:=Tryz.sizeOf294
 v127:=Tryz.zeroValue294
 t143:=Tryz.underlying295
 a143:=Tryz.isAgg295
 z143:=Tryz.sizeOf295
 v143:=Tryz.zeroValue295
 t145:=Tryz.underlying297
 a145:=Tryz.isAgg297
 z145:=Tryz.sizeOf297
 v145:=Tryz.zeroValue297
 t167:=Tryz.underlying279
 a167:=Tryz.isAgg279
 z167:=Tryz.sizeOf279
 v167:=Tryz.zeroValue279
 t168:=Tryz.underlying280
 a168:=Tryz.isAgg280
 z168:=Tryz.sizeOf280
 v168:=Tryz.zeroValue280
 t171:=Tryz.underlying288
 a171:=Tryz.isAgg288
 z171:=Tryz.sizeOf288
 v171:=Tryz.zeroValue288
 t173:=Tryz.underlying291
 a173:=Tryz.isAgg291
 z173:=Tryz.sizeOf291
 v173:=Tryz.zeroValue291
 t175:=Tryz.underlying283
 a175:=Tryz.isAgg283
 z175:=Tryz.sizeOf283
 v175:=Tryz.zeroValue283
 t210:=Tryz.underlying286
 a210:=Tryz.isAgg286
 z210:=Tryz.sizeOf286
 v210:=Tryz.zeroValue286
 t212:=Tryz.underlying298
 a212:=Tryz.isAgg298
 z212:=Tryz.sizeOf298
 v212:=Tryz.zeroValue298
 t213:=Tryz.underlying299
 a213:=Tryz.isAgg299
 z213:=Tryz.sizeOf299
 t232:=Tryz.underlying238
 a232:=Tryz.isAgg238
 z232:=Tryz.sizeOf238
 v232:=Tryz.zeroValue238
 t233:=Tryz.underlying302
 a233:=Tryz.isAgg302
 z233:=Tryz.sizeOf302
 v233:=Tryz.zeroValue302
 g15:=by kernel_rfl
 g16:=by kernel_rfl
 g17:=by kernel_rfl
 g18:=by kernel_rfl
 g19:=by kernel_rfl
 t80:=Tryz.underlying224
 a80:=Tryz.isAgg224
 z80:=Tryz.sizeOf224
 v80:=Tryz.zeroValue224
 i0:=by kernel_rfl
 i2:=by kernel_rfl
 i3:=by kernel_rfl
 i4:=by kernel_rfl
 i5:=by kernel_rfl
 i9:=by kernel_rfl
 i20:=by kernel_rfl
 i21:=by kernel_rfl
 i37:=by kernel_rfl
 i46:=by kernel_rfl
 i51:=by kernel_rfl
 i53:=by kernel_rfl
 i75:=by kernel_rfl
 i80:=by kernel_rfl
 i85:=by kernel_rfl
 i127:=by kernel_rfl
 i143:=by kernel_rfl
 i145:=by kernel_rfl
 i167:=by kernel_rfl
 i168:=by kernel_rfl
 i171:=by kernel_rfl
 i173:=by kernel_rfl
 i175:=by kernel_rfl
 i210:=by kernel_rfl
 i212:=by kernel_rfl
 i232:=by kernel_rfl
 i233:=by kernel_rfl
 m15:=by kernel_rfl
 m16:=by kernel_rfl
 m17:=by kernel_rfl
 m18:=by kernel_rfl
 m19:=by kernel_rfl
 c0:=by kernel_rfl
 c2:=by kernel_rfl
 c3:=by kernel_rfl
 c4:=by kernel_rfl
 c5:=by kernel_rfl
 c9:=by kernel_rfl
 c20:=by kernel_rfl
 c21:=by kernel_rfl
 c37:=by kernel_rfl
 c46:=by kernel_rfl
 c51:=by kernel_rfl
 c53:=by kernel_rfl
 c75:=by kernel_rfl
 c80:=by kernel_rfl
 c85:=by kernel_rfl
 c127:=by kernel_rfl
 c143:=by kernel_rfl
 c145:=by kernel_rfl
 c167:=by kernel_rfl
 c168:=by kernel_rfl
 c171:=by kernel_rfl
 c173:=by kernel_rfl
 c175:=by kernel_rfl
 c210:=by kernel_rfl
 c212:=by kernel_rfl
 c213:=by kernel_rfl
 c232:=by kernel_rfl
 c233:=by kernel_rfl}
end Go.Proofs
namespace Go.Va
def yo4 (i:Nat)(c:UInt8):Bool:=decide ((97≤c.toNat∧c.toNat≤122)∨(0<i∧48≤c.toNat∧c.toNat≤57))
def yjG:Nat→List UInt8→Bool
 |_,[]=>true
 |i,c::r=>yo4 i c&&yjG (i+1) r
def yoN (s:List UInt8):Bool:=yjG 0 s&&(1≤s.length&&s.length≤16)
def ynY (c:UInt8):Int:=Lib.indexByte [48,49,50,51,52,53,54,55,56,57,97,98,99,100,101,102] c
def yd4 (s:List UInt8)(at_:Nat)(c:UInt8):Bool:=match s[at_]? with|some x=>x==c|none=>false
end Go.Va
namespace Go.Proofs.YtpagmlndgblhhaaGreatDoor
open Go.RowKit Go.Own Go.Own.MapTy Go.Va
open Go.Own.Cells (sz enc)
theorem yhl (b:Bool)(w:World):Calls Tryz.prog 110 #[.bool b] w fun e w'=>e= .returned (.int .i64 (bif b then -1 else 1))∧w'=w:=by
 go_enter Tryz.func110,Tryz.ntmps110;cases b
 all_goals
  go_wp2_with fail;go_ret;exact⟨rfl,rfl⟩
def TX (w:World)(b:Nat)(s:ByteArray)(at_:Nat)(deep:Bool):Prop:=w.heap[b]? =some (.cells #[.string s,.int .i64 at_,.bool deep] 246)
set_option maxHeartbeats 4000000 in
theorem ynr (b:Nat)(s:ByteArray)(at_:Nat)(deep:Bool)(c:UInt8)(w:World)(H:TX w b s at_ deep)(hn:yd4 s.data.toList at_ c=false):
  Calls Tryz.prog 171 #[.pointer (some ⟨b,0,none⟩),.int .u8 c.toNat] w fun e w'=>e= .returned (.bool false)∧w'=w.drew:=by
 have b0:b<w.heap.size:=zlt H;have c0:=zca H 0 rfl;have c1:=zca H 1 rfl;clear H;go_enter Tryz.func171,Tryz.ntmps171;by_cases h:at_<s.size
 ·have e0:(at_:Int)<s.size:=by omega
  have hg:s.data.toList[at_]? =some s[at_]:=by simp[h];rfl
  rw[yd4,hg]at hn;have hc:(s[at_]==c)=false:=hn;have h1:((s[at_].toNat:Int)==(c.toNat:Int))=false:=by
   rw[zna]at hc⊢;exact fun e=>hc (UInt8.toNat_inj.1 (by omega))
  go_wp2_with fail;go_region;go_wp2_with fail;go_ret;exact⟨rfl,rfl⟩
 ·have e0:¬(at_:Int)<s.size:=by omega
  go_wp2_with fail;go_region;go_wp2_with fail;go_ret;exact⟨rfl,rfl⟩
set_option maxHeartbeats 4000000 in
theorem ymy (b:Nat)(s:ByteArray)(at_:Nat)(deep:Bool)(c:UInt8)(w:World)(H:TX w b s at_ deep)(hs:s.size≤4294967280)(h:at_<s.size)(hn:yd4 s.data.toList at_ c=true):
  Calls Tryz.prog 171 #[.pointer (some ⟨b,0,none⟩),.int .u8 c.toNat] w fun e w'=>e= .returned (.bool true)∧w'=(w.setCell ⟨b,1,none⟩ (.int .i64 (at_+1))).drew:=by
 have b0:b<w.heap.size:=zlt H;have c0:=zca H 0 rfl;have c1:=zca H 1 rfl;have f0:∀o,w.frozen? ⟨b,o,none⟩=false:=fun o=>zfr H o;clear H;go_enter Tryz.func171,Tryz.ntmps171;have e0:(at_:Int)<s.size:=by omega
 have hg:s.data.toList[at_]? =some s[at_]:=by simp[h];rfl
 rw[yd4,hg]at hn;have hc:(s[at_]==c)=true:=hn;have h1:((s[at_].toNat:Int)==(c.toNat:Int))=true:=by
  rw[beq_iff_eq]at hc⊢;rw[hc]
 have hw:wrap64 ((at_:Int)+1)=(at_:Int)+1:=by unfold wrap64;omega
 go_wp2_with fail;go_region;go_wp2_with fail;go_ret;exact⟨rfl,rfl⟩
theorem TX.move {w:World}{b:Nat}{s:ByteArray}{at_:Nat}{deep:Bool}(H:TX w b s at_ deep)(k:Nat):TX (w.setCell ⟨b,1,none⟩ (.int .i64 k)) b s k deep:=by
 unfold TX at H⊢;simp[World.setCell,zni,H]
theorem TX.c0 {w:World}{b:Nat}{s:ByteArray}{at_:Nat}{deep:Bool}(H:TX w b s at_ deep):w.cell? ⟨b,0,none⟩=some (.string s):=by rw[zch H];rfl
theorem TX.c1 {w:World}{b:Nat}{s:ByteArray}{at_:Nat}{deep:Bool}(H:TX w b s at_ deep):w.cell? ⟨b,1,none⟩=some (.int .i64 at_):=by rw[zch H];rfl
theorem TX.c2 {w:World}{b:Nat}{s:ByteArray}{at_:Nat}{deep:Bool}(H:TX w b s at_ deep):w.cell? ⟨b,2,none⟩=some (.bool deep):=by rw[zch H];rfl
theorem TX.fr {w:World}{b:Nat}{s:ByteArray}{at_:Nat}{deep:Bool}(H:TX w b s at_ deep)(o:Nat):w.frozen? ⟨b,o,none⟩=false:=zfr H o
theorem TX.lt {w:World}{b:Nat}{s:ByteArray}{at_:Nat}{deep:Bool}(H:TX w b s at_ deep):b<w.heap.size:=zlt H
theorem TX.drew {w:World}{b:Nat}{s:ByteArray}{at_:Nat}{deep:Bool}(H:TX w b s at_ deep):TX w.drew b s at_ deep:=H
theorem TX.keep {w w':World}{b:Nat}{s:ByteArray}{at_:Nat}{deep:Bool}{S:Nat→Prop}(H:TX w b s at_ deep)(K:Keeps S w w')(hs:¬S b):TX w' b s at_ deep:=(K.block b (zlt H) hs).trans H
end Go.Proofs.YtpagmlndgblhhaaGreatDoor
namespace Go.Va
open Go.Own Go.RowKit
instance:Cells UInt8 where
 sz:=1
 enc:=fun c=>[.int .u8 c.toNat]
 len:=fun _=>rfl
 one:=by
  intro x v hv;simp at hv;subst hv;rfl
def yof (a b:UInt8):Int:=(16*ynY a+ynY b)%256
def yni (a b:UInt8):Bool:=decide (ynY a<0∨ynY b<0∨(32≤yof a b∧yof a b≤126))
def yjj (acc:List UInt8)(k:Nat):List UInt8→Option (List UInt8×Nat)
 |[]=>none
 |c::r=>
  if c.toNat=34 then some (acc,k+1)else
  if c.toNat<32∨126<c.toNat then none else
  if c.toNat≠92 then yjj (acc++[c]) (k+1) r else
  match r with
  |[]=>none
  |d::r1=>
   if d.toNat=34 then yjj (acc++[34]) (k+2) r1 else
   if d.toNat=92 then yjj (acc++[92]) (k+2) r1 else
   if d.toNat≠120 then none else
   match r1 with
   |a::b::r2=>if yni a b then none else yjj (acc++[UInt8.ofNat (yof a b).toNat]) (k+4) r2
   |_=>none
end Go.Va
namespace Go.Va
open Go.Own Go.RowKit
open Cells (sz enc)
def RdF {α:Type}[Cells α](F:Nat→Prop)(w:World)(v:Value)(xs:List α):Prop:=
 ∃a cap,v= .slice a xs.length cap∧xs.length≤cap∧cap≤maxLen∧∀i x,xs[i]? =some x→∃g off,a=some ⟨g,off,none⟩∧F g∧g<w.heap.size∧∀j u,(enc x)[j]? =some u→w.cell? ⟨g,off+(i*sz α+j),none⟩=some u
section
variable{α:Type} [Cells α] {F G:Nat→Prop} {w w':World} {v:Value} {xs:List α}
theorem RdF.slice (h:RdF F w v xs):∃a cap,v= .slice a xs.length cap:=by obtain⟨a,cap,h,_⟩:=h;exact⟨a,cap,h⟩
theorem RdF.length_le (h:RdF F w v xs):xs.length≤maxLen:=by obtain⟨a,cap,_,h1,h2,_⟩:=h;omega
theorem RdF.keep {S:Nat→Prop}(h:RdF F w v xs)(K:Keeps S w w')(hs:∀g,F g→¬S g):RdF F w' v xs:=by
 obtain⟨a,cap,rfl,h1,h2,h3⟩:=h;refine⟨a,cap,rfl,h1,h2,fun i x hx=> ?_⟩;obtain⟨g,off,rfl,hF,hg,hc⟩:=h3 i x hx;exact⟨g,off,rfl,hF,znj hg K.size,fun j u hu=>(K.cell (p:=⟨g,_,none⟩) hg (hs g hF)).trans (hc j u hu)⟩
theorem RdF.mono (h:RdF F w v xs)(hs:∀g,F g→g<w.heap.size→G g):RdF G w v xs:=by
 obtain⟨a,cap,rfl,h1,h2,h3⟩:=h;refine⟨a,cap,rfl,h1,h2,fun i x hx=> ?_⟩;obtain⟨g,off,rfl,hF,hg,hc⟩:=h3 i x hx;exact⟨g,off,rfl,hs g hF hg,hg,hc⟩
theorem RdF.at_ {a:Option Addr}{n cap:Nat}(h:RdF F w (.slice a n cap) xs){i:Nat}{x:α}(hx:xs[i]? =some x):∃g off,a=some ⟨g,off,none⟩∧F g∧g<w.heap.size∧∀j u,(enc x)[j]? =some u→w.cell? ⟨g,off+(i*sz α+j),none⟩=some u:=by
 obtain⟨a',cap',hv,_,_,h3⟩:=h;cases hv;exact h3 i x hx
theorem RdF.of_row {e:TypeId}(h:RowAt w e v xs)(hF:∀g,v.ownBlock=some g→F g):RdF F w v xs:=by
 rcases h with⟨rfl,rfl⟩|⟨g,off,cap,cur,rfl,hh,hl,hm,hs,hc⟩
 ·exact⟨none,0,rfl,znc _,znq _,fun i x hx=>by simp at hx⟩
 ·refine⟨_,cap,rfl,hl,hm,fun i x hx=>⟨g,off,rfl,hF g rfl,zlt hh,fun j u hu=> ?_⟩⟩
  have hj:j<sz α:=by have:=(zge hu).1;rwa[Cells.len]at this
  rw[zch hh];exact hc _ u (by rw[ya4 xs i j x hx hj];exact hu)
theorem RdF.nil (F:Nat→Prop)(w:World):RdF (α:=α) F w (.slice none 0 0) []:=⟨none,0,rfl,znc _,znq _,fun i x hx=>by simp at hx⟩
end
inductive VF (F:Nat→Prop) (w:World):Value→List Val→Prop
 |mk (v:Value) (cs:List VC) (l:List Val) (hr:RdF F w v cs) (hl:cs.length=l.length) (h:∀(i:Nat) (c:VC) (x:Val),cs[i]? =some c→l[i]? =some x→c.kind=x.kind∧c.n=x.num∧c.s=x.txt)
   (hv:∀(i:Nat) (c:VC) (x:Val),cs[i]? =some c→l[i]? =some x→VF F w (.slice c.la c.ln c.lc) x.list):VF F w v l
theorem VF.keep {F S:Nat→Prop}{w w':World}(K:Keeps S w w')(hs:∀g,F g→¬S g){v:Value}{l:List Val}(h:VF F w v l):VF F w' v l:=by
 induction h with
 |mk v cs l hr hl h0 _ ih=>exact .mk v cs l (hr.keep K hs) hl h0 ih
theorem VF.mono {F G:Nat→Prop}{w:World}(hs:∀g,F g→g<w.heap.size→G g){v:Value}{l:List Val}(h:VF F w v l):VF G w v l:=by
 induction h with
 |mk v cs l hr hl h0 _ ih=>exact .mk v cs l (hr.mono hs) hl h0 ih
theorem VF.nil (F:Nat→Prop)(w:World):VF F w (.slice none 0 0) []:=.mk _ [] [] (RdF.nil F w) rfl (fun i c x h=>by simp at h) (fun i c x h=>by simp at h)
structure CF (F:Nat→Prop)(w:World)(c:VC)(x:Val):Prop where
 kind:c.kind=x.kind
 n:c.n=x.num
 s:c.s=x.txt
 l:VF F w (.slice c.la c.ln c.lc) x.list
theorem CF.keep {F S:Nat→Prop}{w w':World}{c:VC}{x:Val}(h:CF F w c x)(K:Keeps S w w')(hs:∀g,F g→¬S g):CF F w' c x:=⟨h.kind,h.n,h.s,h.l.keep K hs⟩
theorem CF.mono {F G:Nat→Prop}{w:World}{c:VC}{x:Val}(h:CF F w c x)(hs:∀g,F g→g<w.heap.size→G g):CF G w c x:=⟨h.kind,h.n,h.s,h.l.mono hs⟩
def VRow (F:Nat→Prop)(w:World)(e:TypeId)(v:Value)(l:List Val):Prop:=
 ∃cs:List VC,RowAt w e v cs∧cs.length=l.length∧∀(i:Nat) (c:VC) (x:Val),cs[i]? =some c→l[i]? =some x→CF F w c x
theorem VRow.vf {F G:Nat→Prop}{w:World}{e:TypeId}{v:Value}{l:List Val}(h:VRow F w e v l)(hF:∀g,F g→G g)(hG:∀g,v.ownBlock=some g→G g):VF G w v l:=by
 obtain⟨cs,h1,h2,h3⟩:=h;exact .mk v cs l (RdF.of_row h1 hG) h2 (fun i c x hc hx=>⟨(h3 i c x hc hx).kind,(h3 i c x hc hx).n,(h3 i c x hc hx).s⟩) (fun i c x hc hx=>(h3 i c x hc hx).l.mono (fun g h _=>hF g h))
theorem VRow.slice {F:Nat→Prop}{w:World}{e:TypeId}{v:Value}{l:List Val}(h:VRow F w e v l):∃a cap,v= .slice a l.length cap:=by
 obtain⟨cs,h1,h2,h3⟩:=h;obtain⟨a,cap,h⟩:=h1.slice;exact⟨a,cap,by rw[←h2];exact h⟩
theorem VRow.nil (F:Nat→Prop)(w:World)(e:TypeId):VRow F w e (.slice none 0 0) []:=⟨[],.inl ⟨rfl,rfl⟩,rfl,fun i c x h=>by simp at h⟩
theorem VRow.keep {F S:Nat→Prop}{w w':World}{e:TypeId}{v:Value}{l:List Val}(h:VRow F w e v l)(K:Keeps S w w')(hs:∀g,F g→¬S g)(hv:∀g,v.ownBlock=some g→¬S g):VRow F w' e v l:=by
 obtain⟨cs,h1,h2,h3⟩:=h;exact⟨cs,h1.keep K hv,h2,fun i c x hc hx=>(h3 i c x hc hx).keep K hs⟩
theorem VRow.mono {F G:Nat→Prop}{w:World}{e:TypeId}{v:Value}{l:List Val}(h:VRow F w e v l)(hs:∀g,F g→g<w.heap.size→G g):VRow G w e v l:=by
 obtain⟨cs,h1,h2,h3⟩:=h;exact⟨cs,h1,h2,fun i c x hc hx=>(h3 i c x hc hx).mono hs⟩
theorem VRow.app {F G:Nat→Prop}{w w1:World}{e:TypeId}{v v1:Value}{cs:List VC}{l:List Val}{c:VC}{x:Val}(h2:cs.length=l.length)(h3:∀(i:Nat) (c:VC) (x:Val),cs[i]? =some c→l[i]? =some x→CF F w c x)(hc:CF F w c x)
  (h1:RowAt w1 e v1 (cs++[c]))(K:Keeps (fun j=>v.ownBlock=some j) w w1)(hF:∀g,F g→¬v.ownBlock=some g)(hG:∀g,F g→g<w.heap.size→G g):VRow G w1 e v1 (l++[x]):=by
 refine⟨cs++[c],h1,by simp[h2],fun i c' x' hc' hx'=> ?_⟩;have hk:∀{c x},CF F w c x→CF G w1 c x:=fun hx=>(hx.mono (G:=fun g=>F g∧G g) (fun g h hl=>⟨h,hG g h hl⟩)).keep K (fun g h=>hF g h.1)|>.mono (fun g h _=>h.2);by_cases hi:i<cs.length
 ·rw[List.getElem?_append_left hi]at hc'
  rw[List.getElem?_append_left (by omega)]at hx';exact hk (h3 i c' x' hc' hx')
 ·rw[List.getElem?_append_right (by omega)]at hc' hx'
  rw[h2]at hc';cases hj:i - l.length with
  |zero=>
   rw[hj]at hc' hx';simp at hc' hx';subst hc' hx';exact hk hc
  |succ j=>rw[hj]at hc';simp at hc'
theorem VF.elem {F:Nat→Prop}{w:World}{a:Option Addr}{n cap:Nat}{l:List Val}(h:VF F w (.slice a n cap) l):n=l.length∧∀(i:Nat) (x:Val),l[i]? =some x→∃c g off,CF F w c x∧a=some ⟨g,off,none⟩∧F g∧g<w.heap.size∧
  w.cell? ⟨g,off+i*4,none⟩=some (.int .i64 c.kind)∧w.cell? ⟨g,off+i*4+1,none⟩=some (.int .i64 c.n)∧w.cell? ⟨g,off+i*4+2,none⟩=some (.string c.s)∧w.cell? ⟨g,off+i*4+3,none⟩=some (.slice c.la c.ln c.lc):=by
 cases h with
 |mk _ cs _ hr hl h hv4=>
  obtain⟨a',cap',hv⟩:=hr.slice;cases hv;refine⟨hl,fun i x hx=> ?_⟩;have hi:i<cs.length:=by rw[hl];exact(zge hx).1
  have hc:cs[i]? =some cs[i]:=List.getElem?_eq_getElem hi;obtain⟨h1,h2,h3⟩:=h i _ x hc hx;have h4:=hv4 i _ x hc hx;obtain⟨g,off,hg,hF,hgl,hcs⟩:=hr.at_ hc;exact⟨cs[i],g,off,⟨h1,h2,h3,h4⟩,hg,hF,hgl,hcs 0 _ rfl,by rw[zmm];exact hcs 1 _ rfl,by rw[zmm];exact hcs 2 _ rfl,by rw[zmm];exact hcs 3 _ rfl⟩
theorem VF.elems {F:Nat→Prop}{w:World}{a:Option Addr}{n cap:Nat}{l:List Val}(h:VF F w (.slice a n cap) l):n=l.length∧n≤maxLen∧(l=[]∨∃g off,a=some ⟨g,off,none⟩∧F g∧g<w.heap.size∧∀(i:Nat) (x:Val),l[i]? =some x→∃c,CF F w c x∧
  w.cell? ⟨g,off+i*4,none⟩=some (.int .i64 c.kind)∧w.cell? ⟨g,off+i*4+1,none⟩=some (.int .i64 c.n)∧w.cell? ⟨g,off+i*4+2,none⟩=some (.string c.s)∧w.cell? ⟨g,off+i*4+3,none⟩=some (.slice c.la c.ln c.lc)):=by
 obtain⟨h1,h2⟩:=h.elem;refine⟨h1,?_,?_⟩
 ·cases h with
  |mk _ cs _ hr hl h hv4=>
   have:=hr.length_le;omega
 ·cases l with
  |nil=>exact .inl rfl
  |cons x r=>
   obtain⟨c,g,off,hc,ha,hF,hg,_⟩:=h2 0 x rfl;refine .inr ⟨g,off,ha,hF,hg,fun i y hy=> ?_⟩;obtain⟨c',g',off',hc',ha',_,_,h3⟩:=h2 i y hy;rw[ha]at ha';cases ha';exact⟨c',hc',h3⟩
structure Gl (P:Program)(N:Nat)(w:World):Prop where
 m:∃m:Int,w.cell? ⟨0,0,none⟩=some (.int .i64 m)
 es:∃tp p,w.var? P "strconv.ErrSyntax" =some #[.iface tp p]
 er:∃tp p,w.var? P "strconv.ErrRange" =some #[.iface tp p]
 tab:Lib.TabIs P w "internal/strconv.uint64pow10" .u64 Lib.pow10Tab
 gs:∃g1 g2 g3,P.globalNamed "strconv.ErrSyntax" =some g1∧P.globalNamed "strconv.ErrRange" =some g2∧P.globalNamed "internal/strconv.uint64pow10" =some g3∧g1<N∧g2<N∧g3<N
 n0:0<N
 n:N≤w.heap.size
theorem yeS {P:Program}{w w':World}{s:String}{g:Nat}(hg:P.globalNamed s=some g)(h:w'.heap[g]? =w.heap[g]?):w'.var? P s=w.var? P s:=by
 simp[World.var?,hg,h]
theorem Gl.keep {P:Program}{N:Nat}{S:Nat→Prop}{w w':World}(h:Gl P N w)(K:Keeps S w w')(hs:∀j,S j→N≤j):Gl P N w':=by
 obtain⟨h1,h2,h3,h4,⟨g1,g2,g3,e1,e2,e3,l1,l2,l3⟩,h6,h7⟩:=h;have hb:∀g,g<N→w'.heap[g]? =w.heap[g]? :=fun g hg=>K.block g (by omega) (fun hS=>by have:=hs g hS;omega);refine⟨?_,?_,?_,?_,⟨g1,g2,g3,e1,e2,e3,l1,l2,l3⟩,h6,znf h7 K.size⟩
 ·rw[znt (w:=w) (hb 0 h6)];exact h1
 ·rw[yeS e1 (hb g1 l1)];exact h2
 ·rw[yeS e2 (hb g2 l2)];exact h3
 ·unfold Lib.TabIs;rw[yeS e3 (hb g3 l3)];exact h4
theorem Gl.below {P:Program}{N:Nat}{w w':World}(h:Gl P N w)(K:Below w.heap.size w w'):Gl P N w':=h.keep (S:=fun _=>False) (zkb K) (fun _ f=>f.elim)
theorem Gl.alloc {P:Program}{N:Nat}{w:World}(h:Gl P N w)(o:Obj):Gl P N (w.alloc o):=h.keep ((Keeps.refl (fun _=>False) w).alloc o) (fun _ f=>f.elim)
end Go.Va
namespace Go.Va
open Go.Own Go.RowKit
inductive PR where
 |ok (x:Val) (k:Nat)
 |deep
 |bad
def ymQ (c:UInt8):Bool:=decide (48≤c.toNat∧c.toNat≤57)
def ylK:List UInt8→Nat
 |[]=>0
 |c::r=>bif ymQ c then ylK r+1 else 0
theorem yj5:∀l:List UInt8,ylK l≤l.length
 |[]=>znc _
 |c::r=>by
  have:=yj5 r;rw[ylK];cases ymQ c<;>simp<;>omega
def yes (s:List UInt8)(k:Nat):Nat:=if yd4 s k 45 then k+1 else k
def ybO (s:List UInt8)(k:Nat):Nat:=yes s k+ylK (s.drop (yes s k))
theorem yj4 {s:List UInt8}{k:Nat}{c:UInt8}(h:yd4 s k c=true):k<s.length:=by
 unfold yd4 at h;cases hx:s[k]? with
 |none=>rw[hx]at h;cases h
 |some x=>exact(zge hx).1
theorem yhv {s:List UInt8}{k:Nat}(h:k≤s.length):k≤yes s k∧yes s k≤s.length:=by
 unfold yes;split
 ·rename_i he
  have:=yj4 he;omega
 ·omega
theorem yfB {s:List UInt8}{k:Nat}(h:k≤s.length):k≤ybO s k∧ybO s k≤s.length:=by
 have h1:=yhv h;have h2:=yj5 (s.drop (yes s k));simp at h2;unfold ybO;omega
def ynT (s:List UInt8)(k:Nat):List UInt8:=(s.drop k).take (ybO s k - k)
def yfA (s:List UInt8)(k:Nat):PR:=
 match Lib.parseIntB 64 (ynT s k)with
 | .ok v=>if Lib.itoa v=ynT s k then .ok (.mk 1 v ⟨#[]⟩ []) (ybO s k)else .bad
 |_=>.bad
end Go.Va
namespace Go.Proofs.YtpagmlndgblhhaaGreatDoor
open Go.RowKit Go.Own Go.Own.MapTy Go.Va Go.Sort
open Go.Own.Cells (sz enc)
def yoF (w:World)(b:Nat)(s:ByteArray)(k:Nat)(deep:Bool)(e:Ending)(w':World):Prop:=
 TX w' b s (ybO s.data.toList k) deep∧Keeps (fun j=>j=b) w w'∧match yfA s.data.toList k with
  | .ok x k2=>(e= .returned (.tuple #[.int .i64 x.num,.bool true])∧x= .mk 1 x.num ⟨#[]⟩ []∧k2=ybO s.data.toList k)
  |_=>∃n:Int,e= .returned (.tuple #[.int .i64 n,.bool false])
theorem ylI {s:ByteArray}{k:Nat}(h:k<s.size):s.data.toList.drop k=s[k]::s.data.toList.drop (k+1):=by
 have h':k<s.data.toList.length:=by simpa using h
 rw[znr h'];rfl
def ypc (b:Nat)(s:ByteArray)(k:Nat)(deep:Bool)(c:UInt8)(w:World)(e:Ending)(w':World):Prop:=
 e= .returned (.bool (yd4 s.data.toList k c))∧Hid (TX w' b s (bif yd4 s.data.toList k c then k+1 else k) deep∧Keeps (fun j=>j=b) w w')
theorem yj3 (b:Nat)(s:ByteArray)(k:Nat)(deep:Bool)(c:UInt8)(w:World)(H:TX w b s k deep)(hs:s.size≤4294967280):
  Calls Tryz.prog 171 #[.pointer (some ⟨b,0,none⟩),.int .u8 c.toNat] w (ypc b s k deep c w):=by
 cases he:yd4 s.data.toList k c with
 |false=>
  refine(ynr b s k deep c w H he).mono ?_;rintro e w' ⟨rfl,rfl⟩;exact⟨by rw[he],zhd ⟨by rw[he];exact H.drew,(Keeps.refl _ _).drew⟩⟩
 |true=>
  have hk:k<s.size:=by have:=yj4 he;simpa using this
  refine(ymy b s k deep c w H hs hk he).mono ?_;rintro e w' ⟨rfl,rfl⟩;exact⟨by rw[he],zhd ⟨by rw[he];exact(H.move (k+1)).drew,(Keeps.setCell (S:=fun j=>j=b) (p:=⟨b,1,none⟩) (Keeps.refl _ _) (.inl rfl) _).drew⟩⟩
def yoI (w:World)(s:ByteArray)(e:Ending)(w':World):Prop:=
 Below w.heap.size w w'∧match Lib.parseIntB 64 s.data.toList with
  | .ok v=>e= .returned (.tuple #[.int .i64 v,.nilIface])
  |_=>∃(n:Int) (t:TypeId) (p:Value),e= .returned (.tuple #[.int .i64 n,.iface t p])
theorem yfy {N:Nat}(s:ByteArray)(w:World)(hs:s.size≤4294967280)(G:Gl Tryz.prog N w):
  Calls Tryz.prog 185 #[.string s,.int .i64 10,.int .i64 64] w (yoI w s):=by
 cases hp:Lib.parseIntB 64 s.data.toList with
 |ok v=>
  refine(Any.strconv_ParseInt_10_at64_ok Tryz.laysC174 s (by omega) v hp w).mono ?_;rintro e w' ⟨rfl,hw⟩;refine⟨?_,by rw[hp]⟩;rcases hw with rfl|⟨t,rfl⟩
  ·exact znv _ _
  ·exact Joins.below_bytesWorld _ _ _ _ (znc _)
 |range=>
  obtain⟨tp,p,hv⟩:=G.er;refine(Any.strconv_ParseInt_10_at64_range Tryz.laysC174 s (by omega) hp (.iface tp p) w (by have h0:=World.var?_cell Tryz.laysC174.m16 hv 0;simpa using h0) (Or.inr ⟨tp,p,rfl⟩)).mono ?_;rintro e w' ⟨n,rfl,_,_,hB⟩;exact⟨hB,by rw[hp];exact⟨_,_,_,rfl⟩⟩
 |_=>
  obtain⟨tp,p,hv⟩:=G.es;refine(Any.strconv_ParseInt_10_at64_syntax Tryz.laysC174 s (by omega) hp (.iface tp p) w (by have h0:=World.var?_cell Tryz.laysC174.m15 hv 0;simpa using h0) (Or.inr ⟨tp,p,rfl⟩)).mono ?_;rintro e w' ⟨n,rfl,_,_,hB⟩;exact⟨hB,by rw[hp];exact⟨_,_,_,rfl⟩⟩
theorem yiK (w:World)(k:Nat)(os:Array Obj):Below w.heap.size w (grow (w.drewN k) os):=
 ⟨rfl,rfl,rfl,by simp[grow,World.drewN],fun j hj=>by simp[grow,World.drewN,Array.getElem?_append_left hj]⟩
theorem ye6 {N:Nat}(n:Int)(h0: -9223372036854775808≤n)(h1:n≤9223372036854775807)(w:World)(G:Gl Tryz.prog N w):
  Calls Tryz.prog 186 #[.int .i64 n,.int .i64 10] w fun e w'=>e= .returned (.string ⟨(Lib.itoa n).toArray⟩)∧Below w.heap.size w w':=by
 refine(Any.strconv_FormatInt_10 Tryz.laysM173 n h0 h1 w G.tab).mono ?_;rintro e w' ⟨rfl,k,os,rfl⟩;exact⟨rfl,yiK w k os⟩
def ypm (w:World)(b:Nat)(s:ByteArray)(j0:Nat)(deep:Bool)(gk:Nat)(wr:World):Prop:=
 ∃k,gk=s.size - k∧k≤s.size∧TX wr b s k deep∧Keeps (fun j=>j=b) w wr∧k+ylK (s.data.toList.drop k)=ybO s.data.toList j0
theorem yeq {l:List UInt8}{v:Int}(h:Lib.parseIntB 64 l= .ok v): -9223372036854775808≤v∧v≤9223372036854775807:=by
 unfold Lib.parseIntB at h;cases l with
 |nil=>cases h
 |cons c r=>
  dsimp only at h;split at h
  ·cases h
  ·cases h
  ·rename_i u hu
   split at h
   ·cases h
   ·rename_i h1
    split at h
    ·cases h
    ·rename_i h2
     cases h;by_cases hn:c.toNat=45
     ·simp[hn]at h2⊢
      omega
     ·simp[hn]at h1⊢
      omega
theorem yit {N:Nat}(b:Nat)(s:ByteArray)(j0:Nat)(deep:Bool)(w:World)(H:TX w b s j0 deep)(hs:s.size≤4294967280)(ha:j0≤s.size)(G:Gl Tryz.prog N w)(hN:N≤b):
  Calls Tryz.prog 173 #[.pointer (some ⟨b,0,none⟩)] w (yoF w b s j0 deep):=by
 have b0:b<w.heap.size:=H.lt;have c0:=H.c0;have c1:=H.c1;have HH:=zh2 H G;clear H G;have EA:=zhd (show Calls Tryz.prog 171 #[.pointer (some ⟨b,0,none⟩),.int .u8 45] w _ from yj3 b s j0 deep 45 w HH.o.1 hs);go_enter Tryz.func173,Tryz.ntmps173;go_wp2_with fail;refine EA.o.mono ?_;rintro e w1 ⟨rfl,H1⟩;clear EA c0 c1;have hle:=zhd (yhv (s:=s.data.toList) (k:=j0) (by simpa using ha));have H1:=zhd (show TX w1 b s (yes s.data.toList j0) deep∧Keeps (fun j=>j=b) w w1 from⟨by
  have h:=H1.o.1;unfold yes;cases he:yd4 s.data.toList j0 45<;>simpa[he]using h,H1.o.2⟩)
 generalize hb1:yd4 s.data.toList j0 45=be;go_wp2_with fail;go_loopg [] (s.size - yes s.data.toList j0) (fun gk wr=>ypm w b s j0 deep gk wr)
 case atStart=>
  refine⟨yes s.data.toList j0,rfl,?_,H1.o.1,H1.o.2,rfl⟩;have:=hle.o.2;simpa using this
 case round=>
  obtain⟨k,hgk,hk,hT,hK,hd⟩:=hrel;have b1:b<wr.heap.size:=hT.lt;have c0:=hT.c0;have c1:=hT.c1;have f0:=hT.fr;have HX:=zh4 hT hK hgk hd;clear hT hK hgk hd;by_cases hgo:k<s.size∧ymQ (s.data.toList.getD k 0)=true
  ·obtain⟨hkn,hdc⟩:=hgo
   have e0:(k:Int)<s.size:=by omega
   have hg:s.data.toList.getD k 0=s[k]:=by simp[List.getD,hkn];rfl
   rw[hg]at hdc;have hdc2:=zhd hdc;unfold ymQ at hdc;rw[decide_eq_true_eq]at hdc;have e1:(48:Int)≤s[k].toNat:=by omega
   have e2:(s[k].toNat:Int)≤57:=by omega
   clear hdc hg;have hw:IntKind.i64.wrap ((k:Int)+1)=(k:Int)+1:=zmk _ (by omega);go_wp2_with fail;refine yaC (by kernel_rfl) (by kernel_rfl) ?_
   repeat(go_big_quiet_step (fail))
   refine wpQuiet_nil ?_;intro w7 hB7;have T7:=HX.o.1.keep (S:=fun _=>False) (zkb hB7) (fun f=>f);have K7:=HX.o.2.1.trans (T:=fun _=>False) (zkb hB7) (fun _ _ f=>f.elim);have T8:TX (w7.setCell ⟨b,1,none⟩ (.int .i64 ((k:Int)+1))) b s (k+1) deep:=T7.move (k+1);have K8:=Keeps.setCell (p:=⟨b,1,none⟩) K7 (.inl rfl) (.int .i64 ((k:Int)+1));have H8:=zh2 T8 K8;clear c0 c1 f0;have c0:=T7.c0;have c1:=T7.c1;have f0:=T7.fr;have b7:=T7.lt;clear T7 K7 T8 K8 hB7;go_wp2_with fail;go_roundg (s.size - (k+1))
   case measure=>have:=HX.o.2.2.1;omega
   case rel=>
    refine⟨k+1,rfl,hkn,H8.o.1,H8.o.2,?_⟩;have h:=HX.o.2.2.2;rw[ylI hkn,ylK,hdc2.o]at h;simp only[znm]at h;omega
  ·have hend:=zhd (show k=ybO s.data.toList j0 from by
    have h:=HX.o.2.2.2;by_cases hkn:k<s.size
    ·have hg:s.data.toList.getD k 0=s[k]:=by simp[List.getD,hkn];rfl
     rw[hg]at hgo;rw[ylI hkn,ylK]at h;cases hd:ymQ s[k]with
     |false=>rw[hd]at h;simpa using h
     |true=>exact absurd ⟨hkn,hd⟩ hgo
    ·rw[zns (by simp;omega)]at h
     simpa[ylK]using h)
   have hj0:j0≤k:=by
    have:=(yfB (s:=s.data.toList) (k:=j0) (by simpa using ha)).1;have:=hend.o;omega
   have HT:=zhd (show(s.extract j0 k).data.toList=ynT s.data.toList j0 from by
    unfold ynT;rw[←hend.o];simp[ByteArray.data_extract])
   have hsz:(s.extract j0 k).size≤4294967280:=by simp;omega
   have PI:=zhd (fun W (HG:Gl Tryz.prog N W)=>yfy (s.extract j0 k) W hsz HG);have cs:(¬(k:Int)<s.size∧decide (k<s.size)=false)∨(∃h:k<s.size,(k:Int)<s.size∧¬(48:Int)≤s[k].toNat∧decide ((48:Int)≤(s[k].toNat:Int))=false)∨
     (∃h:k<s.size,(k:Int)<s.size∧(48:Int)≤s[k].toNat∧¬(s[k].toNat:Int)≤57∧decide ((s[k].toNat:Int)≤57)=false):=by
    by_cases hkn:k<s.size
    ·have hg:s.data.toList.getD k 0=s[k]:=by simp[List.getD,hkn];rfl
     rw[hg]at hgo;have hdc:¬(48≤s[k].toNat∧s[k].toNat≤57):=fun h=>hgo ⟨hkn,by unfold ymQ;rw[decide_eq_true_eq];exact h⟩;by_cases h48:48≤s[k].toNat
     ·exact .inr (.inr ⟨hkn,by omega,by omega,by omega,by rw[znz];omega⟩)
     ·exact .inr (.inl ⟨hkn,by omega,by omega,by rw[znz];omega⟩)
    ·exact .inl ⟨by omega,by rw[znz];omega⟩
   clear hgo;rcases cs with⟨e0,e3⟩|⟨hkn,e0,e1,e3⟩|⟨hkn,e0,e1,e2,e3⟩
   all_goals
    go_wp2_with fail;refine yaC (by kernel_rfl) (by kernel_rfl) ?_
    repeat(go_big_quiet_step (fail))
    refine wpQuiet_nil ?_;intro w7 hB7;have T7:=HX.o.1.keep (S:=fun _=>False) (zkb hB7) (fun f=>f);have K7:=HX.o.2.1.trans (T:=fun _=>False) (zkb hB7) (fun _ _ f=>f.elim);have H7:=zh2 T7 K7;clear c0 c1 f0;have c0:=T7.c0;have c1:=T7.c1;have f0:=T7.fr;have b7:=T7.lt;clear T7 K7 hB7;go_wp2_with fail;refine yaC (by kernel_rfl) (by kernel_rfl) ?_
    repeat(go_big_quiet_step (fail))
    refine wpQuiet_nil ?_;intro w8 hB8;have T8:=H7.o.1.keep (S:=fun _=>False) (zkb hB8) (fun f=>f);have K8:=H7.o.2.trans (T:=fun _=>False) (zkb hB8) (fun _ _ f=>f.elim);have G8:=HH.o.2.keep K8 (fun j e=>by omega);have H8:=zh3 T8 K8 G8;clear c0 c1 f0 T8 K8 G8 hB8;go_wp2_with fail;refine(PI.o _ H8.o.2.2).mono ?_;rintro e w9 ⟨hB9,HI⟩;have T9:=H8.o.1.keep (S:=fun _=>False) (zkb hB9) (fun f=>f);have K9:=H8.o.2.1.trans (T:=fun _=>False) (zkb hB9) (fun _ _ f=>f.elim);have G9:=H8.o.2.2.below hB9;have H9:=zh3 T9 K9 G9;clear T9 K9 G9 hB9;cases hp:Lib.parseIntB 64 (s.extract j0 k).data.toList with
    |ok v=>
     rw[hp]at HI;have bd:=yeq hp;rw[HT.o]at hp;have HP:=zhd hp;obtain rfl:=HI;clear hp;have FI:=zhd (ye6 v bd.1 bd.2 w9 H9.o.2.2);cases hq:(Lib.itoa v==(s.extract j0 k).data.toList)
     all_goals
      have e5:((⟨(Lib.itoa v).toArray⟩:ByteArray).toList==(s.extract j0 k).toList)=(Lib.itoa v==(s.extract j0 k).data.toList):=by rw[zml,zml]
      rw[hq]at e5;rw[HT.o]at hq;have HQ:=zhd hq;clear hq;go_wp2_with fail;refine FI.o.mono ?_;rintro e w10 ⟨rfl,hB10⟩;have T10:=H9.o.1.keep (S:=fun _=>False) (zkb hB10) (fun f=>f);have K10:=H9.o.2.1.trans (T:=fun _=>False) (zkb hB10) (fun _ _ f=>f.elim);have H10:=zh2 T10 K10;clear T10 K10 hB10;go_wp2_with fail
      first
      |(refine zng (v:=.tuple #[.int .i64 v,.bool true]) (by simp only[results,Tryz.results173];go_simp;rw[zml,HT.o];exact beq_iff_eq.1 HQ.o) rfl ⟨by rw[←hend.o];exact H10.o.1,H10.o.2,?_⟩
        have hn:yfA s.data.toList j0= .ok (.mk 1 v ⟨#[]⟩ []) (ybO s.data.toList j0):=by
         unfold yfA;rw[HP.o];exact if_pos (beq_iff_eq.1 HQ.o)
        rw[hn];exact⟨rfl,rfl,rfl⟩)
      |(refine zng (v:=.tuple #[.int .i64 v,.bool false]) (by simp only[results,Tryz.results173];go_simp;rw[zml,HT.o];exact fun e=>by have:=HQ.o;rw[beq_iff_eq.2 e]at this;cases this) rfl ⟨by rw[←hend.o];exact H10.o.1,H10.o.2,?_⟩
        have hn:yfA s.data.toList j0= .bad:=by
         unfold yfA;rw[HP.o];exact if_neg (fun e=>by have:=HQ.o;rw[beq_iff_eq.2 e]at this;cases this)
        rw[hn];exact⟨_,rfl⟩)
    |range=>
     rw[hp]at HI;obtain⟨n,t,p,rfl⟩:=HI;rw[HT.o]at hp;have HP:=zhd hp;clear hp;go_wp2_with fail;refine zng (v:=.tuple #[.int .i64 n,.bool false]) (by simp only[results,Tryz.results173];go_simp) rfl ⟨by rw[←hend.o];exact H9.o.1,H9.o.2.1,?_⟩;have hn:yfA s.data.toList j0= .bad:=by
      unfold yfA;rw[HP.o]
     rw[hn];exact⟨n,rfl⟩
    |_=>
     rw[hp]at HI;obtain⟨n,t,p,rfl⟩:=HI;rw[HT.o]at hp;have HP:=zhd hp;clear hp;go_wp2_with fail;refine zng (v:=.tuple #[.int .i64 n,.bool false]) (by simp only[results,Tryz.results173];go_simp) rfl ⟨by rw[←hend.o];exact H9.o.1,H9.o.2.1,?_⟩;have hn:yfA s.data.toList j0= .bad:=by
      unfold yfA;rw[HP.o]
     rw[hn];exact⟨n,rfl⟩
end Go.Proofs.YtpagmlndgblhhaaGreatDoor
