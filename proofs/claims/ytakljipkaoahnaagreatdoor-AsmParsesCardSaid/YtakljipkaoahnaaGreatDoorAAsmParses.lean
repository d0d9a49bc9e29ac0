/- The row of AsmParses and its tied card: any text is a program, or is not, why, and in which line; what is read does what its lines say. The conditions: those of the row and of the card. (The frame of the row is the kit's skeleton; ahead of it the walk of the law, and what rows with listed variables ask.) -/
import Derived.HandedShaped
import Derived.LaidMore
import Derived.Lay
import Derived.MakeChecks
import Derived.Stop.LaidErr
import Derived.Shelf.Vars
import Derived.ChangeOld
import Derived.Test.YtakljipkaoahnaaGreatDoorRows
import Derived.Test.YtakljipkaoahnaaGreatDoorTie
import Derived.Test.YtakljipkaoahnaaGreatDoorCards
import Derived.WalkKit
import Derived.ProofKit
import Derived.OpenShut
import Derived.ShutString
import Derived.Below
import Derived.SevenTiedAt
import Derived.Stop.Joined
import Derived.Test.YtakljipkaoahnaaGreatDoorA28
import Derived.Test.YtakljipkaoahnaaGreatDoorA30
set_option maxRecDepth 100000
set_option maxHeartbeats 8000000
namespace Go
variable{H:Type} {enc:TypeId×Value→H}
theorem handed_both {a:Assume}{C:Checked}{os:Os}{f:FuncId}{fn:Func}{s:ChangeSpec}{conds:List PathCond}{apart fresh handsOn again:Bool}{X:World→Array Value→Prop}
  (hX:∀(w w':World) (args:Array Value),w.heap=w'.heap→X w args→X w' args)
  (own:ownKnob C.prog.godebug=none)(started:os.Started)(noInit:C.prog.inits.idxOf? f=none)(hfn:C.prog.funcs[f]? =some fn)
  (witness:∃(w:World) (tape:Tape) (i:Input),w.os=os∧(w.forCall tape i).Shaped C.prog∧i.vars=[]∧Input.okWide C.prog (w.forCall tape i) .any w.heap.size f i∧
    ((s.pre enc C.prog fn conds apart (w.forCall tape i).memory i.args∧X (w.forCall tape i).memory i.args)∧sizedMet enc C.prog fn (OpenSpec.ofChange s) apart (w.forCall tape i).memory i.args)∧a.holds C.prog (lone (Frame.enter C.prog f i.args .normal) [] (w.forCall tape i)))
  (contract:∀(W:World) (base:Nat) (args:Array Value) (ds gs:List (DataW H)) (before:List MemPlace),
    (∀(j:Nat) t v,fn.params[j]? =some t→args[j]? =some v→Value.okWide C.prog W .any base t v)→
    DataW.Whole enc C.prog fn.params.toList s.vars apart W args.toList ds gs before→X W args→W.ShapedOpen C.prog→
    Calls C.prog f args W fun e W'=>∃v,e= .returned v∧s.post enc C.prog fn apart fresh handsOn again W args v W'):
  ReturnsInHanded a C os f .any (fun w args=>(s.pre enc C.prog fn conds apart w args∧X w args)∧sizedMet enc C.prog fn (OpenSpec.ofChange s) apart w args) (s.post enc C.prog fn apart fresh handsOn again):=by
 refine returnsInHanded_of_calls own started noInit witness ?_
 intro w tape i _ hsh _ hok hpre _
 obtain⟨_,_,_,fn',hfn',_,_,_,_,hval⟩:=hok
 have e:fn'=fn:=Option.some.inj (hfn'.symm.trans hfn)
 subst e
 obtain⟨⟨⟨ds,gs,before,hw,hc⟩,hx⟩,hz⟩:=hpre
 have hw':=DataW.Whole.of_heap (w':=w.forCall tape i) (by rfl) hw
 refine(contract (w.forCall tape i) w.heap.size i.args ds gs before hval hw' (hX _ _ _ (by rfl) hx) hsh).mono fun e W' ⟨v,he,hp⟩=> ?_
 subst he
 exact ChangeSpec.post_blind hp
end Go
namespace Go.Proofs.YtakljipkaoahnaaGreatDoor
open Go.RowKit Go.Own Go.Own.MapTy Go.Va Go.Sort
theorem star: "*errors.errorString" = "*" ++ "errors.errorString" :=by kernel_rfl
theorem row_ptr (u:TypeId)(h:Tryz.prog.typeName? 3 u=some "*errors.errorString"):u=261:=
 typeName_ptr_named (nm:= "errors.errorString") (by rw[←star];kernel_rfl) (by kernel_rfl) (by decide) u (by rw[←star];exact h)
theorem gMax:Tryz.prog.globalNamed "internal/bytealg.MaxLen" =some 0:=by kernel_rfl
theorem gTab:Tryz.prog.globalNamed "internal/strconv.uint64pow10" =some 1:=by kernel_rfl
theorem gSyn:Tryz.prog.globalNamed "strconv.ErrSyntax" =some 4:=by kernel_rfl
theorem gRan:Tryz.prog.globalNamed "strconv.ErrRange" =some 5:=by kernel_rfl
theorem gl_max {W:World}(h:W.ShapedOpen Tryz.prog):∃m,W.cell? ⟨0,0,none⟩=some (.int .i64 m):=
 cell_of_shapedOpen_int (t:=3) (zero:=#[.int .i64 0]) h (of_decide_eq_true (by kernel_rfl)) (by kernel_rfl) (by kernel_rfl) (by kernel_rfl) (by kernel_rfl) (by kernel_rfl)
theorem var_lt {P:Program}{W:World}{s:String}{g:Nat}{cs:Array Value}(hg:P.globalNamed s=some g)(h:W.var? P s=some cs):g<W.heap.size:=by
 unfold World.var? at h
 rw[hg]at h
 by_cases hl:g<W.heap.size
 ·exact hl
 ·have:W.heap[g]? =none:=Array.getElem?_eq_none (by omega)
  simp[this]at h
theorem gl_of {W:World}(h:laidMetH Tryz.prog Rows.asmParsesRow.laid W)(hS:W.ShapedOpen Tryz.prog):Gl Tryz.prog 6 W:=by
 rw[MakeChecks.laidMetH_plain _ _ _ (by kernel_rfl)]at h
 have t2:=h.tail.tail
 have t4:=t2.tail.tail
 have t5:=t4.tail
 have hT:=Lib.tabIs_of_head (zs:=Lib.pow10Tab) (k:=.u64) (n:=20) gTab (t:=237) (by kernel_rfl) Tryz.underlying237 Tryz.underlying201 (by kernel_rfl) (by kernel_rfl) t2
 obtain⟨a5,s5,hv5,_⟩:=laid_sentinel (ti:=144) (tp:=261) (te:=263) (ts:=9) t4 gRan (by kernel_rfl) Tryz.underlying144 row_ptr Tryz.underlying261 Tryz.underlying263 rfl rfl Tryz.underlying9 (by kernel_rfl) (by kernel_rfl)
 obtain⟨a4,s4,hv4,_⟩:=laid_sentinel (ti:=144) (tp:=261) (te:=263) (ts:=9) t5 gSyn (by kernel_rfl) Tryz.underlying144 row_ptr Tryz.underlying261 Tryz.underlying263 rfl rfl Tryz.underlying9 (by kernel_rfl) (by kernel_rfl)
 exact⟨gl_max hS,⟨_,_,hv4⟩,⟨_,_,hv5⟩,hT,⟨4,5,1,gSyn,gRan,gTab,by decide,by decide,by decide⟩,by decide,by have:=var_lt gRan hv5;omega⟩
end Go.Proofs.YtakljipkaoahnaaGreatDoor
namespace Go.Proofs.YtakljipkaoahnaaGreatDoor
open Go.RowKit Go.Own Go.Own.MapTy Go.Va Go.Sort
open Go.Own.Cells (sz enc)
theorem linesR_wf:∀(ls:List ByteArray) (n:Nat) (st:RSt),Small n st→(∀x∈ls,x.size≤65536)→n+ls.length≤65537→∀x∈(linesR ls n st).2.consts,x.wf
 |[],_,st,h,_,_=>h.wf
 |s::r,n,st,h,hs,hn=>by
  rw[List.length_cons]at hn
  have h1:=lineL_small (line:=(n:Int)+1) (hs s List.mem_cons_self) (by omega) h
  rw[linesR]
  cases((lineL ((n:Int)+1) s st).1 !=0)with
  |true=>exact h1.wf
  |false=>exact linesR_wf r (n+1) _ h1 (fun x hx=>hs x (List.mem_cons_of_mem _ hx)) (by omega)
theorem textL_small {s:ByteArray}(h:s.size≤65536):(textL s).length≤65537∧∀x∈textL s,x.size≤65536:=by
 obtain⟨t,ht⟩:∃t:ByteArray,t=⟨(Lib.trimSuffix s.data.toList [10]).toArray⟩:=⟨_,rfl⟩
 have htl:t.size≤s.size:=by
  have e2:t.size=(Lib.trimSuffix s.data.toList [10]).length:=by rw[ht];show(Lib.trimSuffix s.data.toList [10]).toArray.size=_;simp
  rw[e2]
  unfold Lib.trimSuffix
  split<;>simp
 have e2:(textL s).length=Lib.countB t ⟨#[10]⟩+1:=by
  unfold textL
  rw[←ht]
  exact Lib.splitB_all ⟨#[10]⟩ (by decide) 0 _ t rfl
 have:=Lib.countB_le ⟨#[10]⟩ (by decide) t.size t (Nat.le_refl _)
 refine⟨by omega,fun x hx=>Nat.le_trans (splitB_size ⟨#[10]⟩ s.size _ _ (by rw[ht]at htl;exact htl) x hx) h⟩
theorem asmL_wf {s:ByteArray}(hz:s.size≤65536):∀x∈(asmL s).1.consts,x.wf:=by
 have hno:∀x∈noImg.consts,x.wf:=fun x hx=>by simp[noImg]at hx
 have hq:=linesR_wf (textL s) 0 st0 small0 (textL_small hz).2 (by have:=(textL_small hz).1;omega)
 unfold asmL
 cases decide (65536<s.size)with
 |true=>exact hno
 |false=>
  cases(!(Lib.hasSuffix s.data.toList [10]))with
  |true=>exact hno
  |false=>
   simp only[cond_false]
   cases((linesR (textL s) 0 st0).1.2 !=0)with
   |true=>exact hno
   |false=>
    simp only[cond_false]
    cases((jumpsR (linesR (textL s) 0 st0).2.labels (linesR (textL s) 0 st0).2.jumps (linesR (textL s) 0 st0).2.code).1.2 !=0)with
    |true=>exact hno
    |false=>
     simp only[cond_false]
     generalize(linesR (textL s) 0 st0).2=q at hq
     cases(imgL ⟨(jumpsR q.labels q.jumps q.code).2,q.consts,q.names,q.places⟩!=0)with
     |true=>exact hno
     |false=>exact hq
theorem parses_big {N:Nat}(s:ByteArray)(W:World)(G:Gl Tryz.prog N W)(hs:3000<s.size):Calls Tryz.prog 3 #[.string s] W fun en w'=>en= .returned (.bool true)∧Below W.heap.size W w':=by
 have HG:=zhd G
 have hs':(3000:Int)<s.size:=by omega
 clear G hs
 go_enter Tryz.func3,Tryz.ntmps3
 go_wp2_with fail
 refine(reads_true W HG.out).mono ?_
 rintro en w1 ⟨rfl,hB1⟩
 have H1:=zhd hB1
 clear hB1
 go_wp2_with fail
 go_ret
 exact⟨rfl,H1.out⟩
theorem parses_small {N:Nat}(s:ByteArray)(W:World)(G:Gl Tryz.prog N W)(hs:s.size≤3000):Calls Tryz.prog 3 #[.string s] W fun en w'=>en= .returned (.bool true)∧Below W.heap.size W w':=by
 have HG:=zhd G
 have hs':¬(3000:Int)<s.size:=by omega
 have hall:=parses_all s (by omega)
 have hwf:=asmL_wf (s:=s) (by omega)
 have PA:=zhd (fun W' (G:Gl Tryz.prog N W')=>asm_any s W' G)
 have RD:=zhd (fun W' (G:Gl Tryz.prog N W')=>read_any s W' G hs _ rfl)
 obtain⟨⟨p,fl,fe⟩,hA⟩:∃x,asmL s=x:=⟨_,rfl⟩
 obtain⟨⟨⟨gl,ge⟩,want⟩,hR⟩:∃x,readS s=x:=⟨_,rfl⟩
 rw[hA,hR]at hall
 rw[hA]at hwf PA
 rw[hR]at RD
 dsimp only at hall hwf
 clear G hs hA hR
 go_enter Tryz.func3,Tryz.ntmps3
 go_wp2_with fail
 refine(reads_true W HG.out).mono ?_
 rintro en w1 ⟨rfl,hB1⟩
 have H1:=zhd hB1
 clear hB1
 go_wp2_with fail
 refine(PA.out _ (HG.out.below H1.out)).mono ?_
 rintro en w2 ⟨⟨da,dn,dc,ea,en',ec,fa,fn,fc,pm⟩,rfl,hI,hB2⟩
 dsimp only
 have hlen:=hI.lens
 dsimp only at hlen
 have HLN:=zhd hlen
 clear hlen
 obtain⟨w3,hw3⟩:∃w3,w3=(w2.alloc (.cells #[.slice da dn dc,.slice ea en' ec,.slice fa fn fc,.int .i64 pm] 27)).alloc (.cells #[.int .i64 fl,.int .i64 fe] 30):=⟨_,rfl⟩
 have B3:Below w2.heap.size w2 w3:=by rw[hw3];exact(zal).alloc (by simp) _
 have Y3:BoxI w3 w2.heap.size ⟨da,dn,dc,ea,en',ec,fa,fn,fc,pm⟩:=by rw[hw3];exact heap_lt2
 have Z3:w3.heap[w2.heap.size+1]? =some (.cells #[.int .i64 fl,.int .i64 fe] 30 (0,0)):=by rw[hw3];exact heap_new2
 have BW3:=H1.out.trans ((hB2.trans (B3.mono hB2.size)).mono H1.out.size)
 have H3:=zh4 BW3 Y3 Z3 (hI.below B3)
 clear B3 Y3 Z3 BW3 hB2 hI PA
 go_wp2_with fail
 rw[←hw3]
 clear hw3
 refine(RD.out w3 (HG.out.below H3.out.1)).mono ?_
 rintro en w4 ⟨v,rfl,hS⟩
 have hS2:=hS.out
 obtain⟨va,vc,rfl⟩:=hS2.1.slice
 obtain⟨w5,hw5⟩:∃w5,w5=w4.alloc (.cells #[.int .i64 gl,.int .i64 ge] 30):=⟨_,rfl⟩
 have B5:=zba hw5
 have Z5:=zha hw5
 have B35:=hS2.2.trans (B5.mono hS2.2.size)
 have Y5:=H3.out.2.1.below B35
 have X5:=(B35.block (w2.heap.size+1) (zlt H3.out.2.2.1)).trans H3.out.2.2.1
 have H5:=zh6 (H3.out.1.trans (B35.mono H3.out.1.size)) Y5 (H3.out.2.2.2.below B35) (hS2.1.below B5) X5 Z5
 have k0:=Y5.c0
 have k1:=Y5.c1
 have k2:=Y5.c2
 have k3:=Y5.c3
 have lx:=Y5.lt
 dsimp only at k0 k1 k2 k3
 have h0:=zca X5 0 rfl
 have h1:=zca X5 1 rfl
 have lh:=zlt X5
 have g0:=zca Z5 0 rfl
 have g1:=zca Z5 1 rfl
 have lg:=zlt Z5
 clear B5 Z5 B35 Y5 X5 hS2 hS RD
 go_upto_region 7 with(fail)
 rw[←hw5]
 clear hw5
 rcases hall with⟨hne,he⟩|⟨h00,hrest⟩
 ·obtain⟨rfl,rfl,rfl⟩:p=noImg∧fl=gl∧fe=ge:=by
   injection he with h1 h2
   injection h2 with h2 h3
   exact⟨h1,h2,h3⟩
  have hdn:dn=0:=HLN.out.1
  subst hdn
  have hne':(fe==0)=false:=beq_eq_false_iff_ne.2 hne
  clear hwf he
  go_wp2_with fail
  go_ret
  exact⟨rfl,H5.out.1⟩
 ·obtain⟨rfl,rfl⟩:gl=0∧ge=0:=by injection h00 with h1 h2;exact⟨h1,h2⟩
  rcases hrest with⟨hff,hlaw⟩|⟨hp,hfl,hfe⟩
  ·obtain⟨rfl,rfl⟩:fl=0∧fe=0:=by injection hff with h1 h2;exact⟨h1,h2⟩
   have hdn:=HLN.out.1
   have hpl:(p.code.length:Int)=want.length:=by rw[hlaw.len]
   have TD:=zhd (fun W' (K:Below w5.heap.size w5 W')=>rtidy_walk _ W' ⟨da,dn,dc,ea,en',ec,fa,fn,fc,pm⟩ p (H5.out.2.2.1.below K) hlaw.ok hwf hlaw.tidy)
   have CK:=zhd (fun W' (K:Below w5.heap.size w5 W')=>rimg_any _ W' ⟨da,dn,dc,ea,en',ec,fa,fn,fc,pm⟩ p (H5.out.2.2.1.below K) 0 hwf hlaw.ok)
   dsimp only at TD CK
   subst hdn
   have HL:=zh2 hlaw HLN.out
   have hwl:want.length≤512:=by rw[←hlaw.len];exact(imgL_ok hlaw.ok).2.1
   clear hlaw hwf h00 hff HLN
   go_wp2_with fail
   refine(TD.out _ (Below.refl _ _)).mono ?_
   rintro en w6 ⟨rfl,hB6⟩
   have Y6:=H5.out.2.1.below hB6
   have k0:=Y6.c0
   have k1:=Y6.c1
   have k2:=Y6.c2
   have k3:=Y6.c3
   have lx:=Y6.lt
   dsimp only at k0 k1 k2 k3
   have H6:=zh2 hB6 Y6
   have CK6:=zhd (CK.out w6 hB6)
   clear hB6 Y6 TD CK h0 h1 lh g0 g1 lg
   go_wp2_with fail
   refine CK6.out.mono ?_
   rintro en w7 ⟨rfl,hB7⟩
   have B57:=H6.out.1.trans (hB7.mono H6.out.1.size)
   have Y7:=H6.out.2.below hB7
   have S7:=H5.out.2.2.2.1.below B57
   have I7:=H5.out.2.2.1.below B57
   have H7:=zh4 (H5.out.1.trans (B57.mono H5.out.1.size)) Y7 S7 I7
   clear hB7 B57 Y7 S7 I7 CK6 k0 k1 k2 k3 lx H6
   have k0:=H7.out.2.1.c0
   have lx:=H7.out.2.1.lt
   dsimp only at k0
   go_wp2_with fail
   clear k0 lx
   go_loopg [87] (want.length) (fun gk v87 wz=>∃i:Nat,v87= .int .i64 i∧i≤want.length∧gk=want.length - i∧Below w7.heap.size w7 wz)
   case atStart=>exact⟨0,rfl,Nat.zero_le _,rfl,Below.refl _ _⟩
   case round=>
    obtain⟨i,rfl,hi,hgk,hB⟩:=hrel
    have Yr:=H7.out.2.1.below hB
    have k0:=Yr.c0
    have k1:=Yr.c1
    have k2:=Yr.c2
    have k3:=Yr.c3
    have lx:=Yr.lt
    dsimp only at k0 k1 k2 k3
    have Sr:=H7.out.2.2.1.below hB
    have BWr:=H7.out.1.trans (hB.mono H7.out.1.size)
    clear Yr
    by_cases hin:i<want.length
    ·obtain⟨x,hx⟩:=elem_at hin
     obtain⟨c,hc⟩:=elem_at (l:=p.code) (k:=i) (by rw[HL.out.1.len];exact hin)
     obtain⟨vg,vo,y,rfl,hvl,hyf,hyz,e0,e1,e2,e3,e4,e5,e6,e7⟩:=Sr.at_ hx
     obtain⟨yop,yn,yl,⟨ck,cn,cs,la,ln,lc⟩,yb⟩:=y
     obtain rfl:yop=x.op:=hyf.op
     obtain rfl:yn=x.n:=hyf.n
     dsimp only at e0 e1 e2 e3 e4 e5 e6 e7
     obtain⟨cg,co,rfl,_,_,hcl,m0,m1⟩:=H7.out.2.2.2.code_at hB hc
     have hin':(i:Int)<want.length:=by omega
     have hcd:(i:Int)<p.code.length:=by rw[HL.out.1.len];exact hin'
     have HMS:=zhd (show want.length - (i+1)<gk from by omega)
     have hi1:i+1≤want.length:=by omega
     have HIW:=zhd (show wrap64 ((i:Int)+1)=(i:Int)+1 from by unfold wrap64;omega)
     obtain⟨hco,hc1,hc2,hc3⟩:=HL.out.1.say i c x hc hx
     have hok:=(imgL_ok HL.out.1.ok).2.2.2.2.2.2.2.2 c (mem_of_get hc)
     have hrg:=ok_range.1 hok.1
     obtain⟨op,a⟩:=c
     dsimp only at hco hc1 hc2 hc3 hok hrg m0 m1
     rw[←hco]at e0
     have OPC:=fun w=>operand_any op hrg.1 hrg.2 w
     have hb6:=operand_bd6 op
     obtain⟨kd,hkd⟩:∃kd,(ofL op).1.operand=kd:=⟨_,rfl⟩
     rw[hkd]at OPC hb6 hc1 hc2 hc3
     have OPC:=zhd OPC
     have HX:=zh5 hB BWr hyf hx hc
     clear hB BWr hyf hx hc hok hrg hkd hgk Sr hco hyz
     go_wp2_with fail
     obtain⟨w8,hw8⟩:∃w8,w8=(wr.alloc (.cells #[.int .i64 op,.int .i64 x.n,.int .i64 yl,.int .i64 ck,.int .i64 cn,.string cs,.slice la ln lc,.string yb] 41)).alloc (.cells #[.int .i64 op,.int .i64 a] 43):=⟨_,rfl⟩
     have B8:Below wr.heap.size wr w8:=by rw[hw8];exact(zal).alloc (by simp) _
     have X8:w8.heap[wr.heap.size]? =some (.cells #[.int .i64 op,.int .i64 x.n,.int .i64 yl,.int .i64 ck,.int .i64 cn,.string cs,.slice la ln lc,.string yb] 41 (0,0)):=by rw[hw8];exact heap_lt2
     have Z8:w8.heap[wr.heap.size+1]? =some (.cells #[.int .i64 op,.int .i64 a] 43 (0,0)):=by rw[hw8];exact heap_new2
     rw[←hw8]
     clear hw8
     refine(OPC.out _).mono ?_
     rintro en w9 ⟨rfl,hB9⟩
     have B9:=B8.trans (hB9.mono B8.size)
     have X9:=(hB9.block wr.heap.size (zlt X8)).trans X8
     have Z9:=(hB9.block (wr.heap.size+1) (zlt Z8)).trans Z8
     have s1:=zca X9 1 rfl
     have s3:=zca X9 3 rfl
     have s4:=zca X9 4 rfl
     have s5:=zca X9 5 rfl
     have s6:=zca X9 6 rfl
     have z1:=zca Z9 1 rfl
     have ls:=zlt X9
     have lz:=zlt Z9
     have Y9:=(H7.out.2.1.below HX.out.1).below B9
     clear k0 k1 k2 k3 lx
     have k0:=Y9.c0
     have k1:=Y9.c1
     have k2:=Y9.c2
     have k3:=Y9.c3
     have lx:=Y9.lt
     dsimp only at k0 k1 k2 k3
     have B79:=HX.out.1.trans (B9.mono HX.out.1.size)
     have HB9:=zh2 B79 B9
     clear B8 X8 Z8 hB9 X9 Z9 B9 Y9 OPC e0 e1 e2 e3 e4 e5 e6 e7 m0 m1
     obtain⟨ok,hok⟩:∃ok,opC kd=ok:=⟨_,rfl⟩
     rw[hok]
     rcases hb6 with rfl|rfl|rfl|rfl|rfl|rfl
     ·obtain rfl:ok=45:=hok.symm
      clear hc1 hc2 hc3 B79
      go_wp2_with fail
      go_roundg (want.length - (i+1))
      case measure=>exact HMS.out
      case rel=>exact⟨i+1,by simp,hi1,rfl,HB9.out.1⟩
     ·obtain rfl:ok=99:=hok.symm
      obtain⟨k,y,rfl,hk,hcl1⟩:=hc1 rfl
      obtain⟨eg,eo,⟨kk,kn,ks,ka,kl,kc⟩,rfl,_,_,hel,hcy,y0,y1,y2,y3⟩:=H7.out.2.2.2.const_at B79 hk
      have hkb:(k:Int)<en':=by have:=lt_of_get hk;have:=HL.out.2.2.1;omega
      have hk0:(0:Int)≤k:=Int.natCast_nonneg k
      have SA:=zhd (fun W' (K:Below w9.heap.size w9 W')=>same_any y x.v ⟨kk,kn,ks,ka,kl,kc⟩ ⟨ck,cn,cs,la,ln,lc⟩ _ _ W' (hcy.keep (S:=fun _=>False) (zkb K) (fun _ _ f=>f)) ((HX.out.2.2.1.v.keep (S:=fun _=>False) (zkb HB9.out.2) (fun _ _ f=>f)).keep (S:=fun _=>False) (zkb K) (fun _ _ f=>f)) true (by rw[beq_iff_eq];exact(cmp_zero _ _).2 hcl1))
      dsimp only at SA y0 y1 y2 y3
      clear hc1 hc2 hc3 B79 hcy hk hcl1
      go_wp2_with fail
      refine wp_region_ext (by kernel_rfl) (by kernel_rfl) ?_
      repeat(go_big_quiet_step ((go_at_call 15;exact ext_call (SA.out _ (Subtype.property _)))))
      refine wpQuiet_nil ?_
      intro w10 hB10
      have H10:=zhd (HB9.out.1.trans (hB10.mono HB9.out.1.size))
      clear hB10
      go_wp2_with fail
      go_roundg (want.length - (i+1))
      case measure=>exact HMS.out
      case rel=>exact⟨i+1,by simp,hi1,rfl,H10.out⟩
     ·obtain rfl:ok=110:=hok.symm
      obtain⟨k,rfl,hk⟩:=hc2 rfl
      obtain⟨ng,no,rfl,_,_,hnl,n0⟩:=H7.out.2.2.2.name_at B79 hk
      have hkb:(k:Int)<fn:=by have:=lt_of_get hk;have:=HL.out.2.2.2;omega
      have hk0:(0:Int)≤k:=Int.natCast_nonneg k
      obtain rfl:cs=x.v.txt:=HX.out.2.2.1.v.s
      have hne:(x.v.txt.toList !=x.v.txt.toList)=false:=by simp
      clear hc1 hc2 hc3 B79 hk
      go_wp2_with fail
      go_region
      all_goals
       go_wp2_with fail
       go_roundg (want.length - (i+1))
       case measure=>exact HMS.out
       case rel=>exact⟨i+1,by simp,hi1,rfl,by first|exact HB9.out.1|exact HB9.out.1.trans (((Below.refl _ _).drew).mono HB9.out.1.size)⟩
     ·obtain rfl:ok=112:=hok.symm
      obtain rfl:a=x.n:=hc3 (by decide) (by decide) (by decide)
      clear hc1 hc2 hc3 B79
      go_wp2_with fail
      go_roundg (want.length - (i+1))
      case measure=>exact HMS.out
      case rel=>exact⟨i+1,by simp,hi1,rfl,HB9.out.1⟩
     ·obtain rfl:ok=116:=hok.symm
      obtain rfl:a=x.n:=hc3 (by decide) (by decide) (by decide)
      clear hc1 hc2 hc3 B79
      go_wp2_with fail
      go_roundg (want.length - (i+1))
      case measure=>exact HMS.out
      case rel=>exact⟨i+1,by simp,hi1,rfl,HB9.out.1⟩
     ·obtain rfl:ok=107:=hok.symm
      obtain rfl:a=x.n:=hc3 (by decide) (by decide) (by decide)
      clear hc1 hc2 hc3 B79
      go_wp2_with fail
      go_roundg (want.length - (i+1))
      case measure=>exact HMS.out
      case rel=>exact⟨i+1,by simp,hi1,rfl,HB9.out.1⟩
    ·obtain rfl:i=want.length:=by omega
     have hii:¬(want.length:Int)<want.length:=by omega
     have HB:=zhd BWr
     clear hB BWr Sr hgk
     go_wp2_with fail
     go_ret
     exact⟨rfl,HB.out⟩
  ·subst hp
   have hdn:dn=0:=HLN.out.1
   subst hdn
   obtain rfl:fl=0:=hfl
   clear hwf h00
   rcases hfe with⟨h6,hw⟩|h2|h1
   ·obtain rfl:fe=6:=h6
    obtain rfl:want=[]:=hw
    go_wp2_with fail
    go_ret
    exact⟨rfl,H5.out.1⟩
   ·obtain rfl:fe=2:=h2
    go_wp2_with fail
    go_ret
    exact⟨rfl,H5.out.1⟩
   ·obtain rfl:fe=1:=h1
    go_wp2_with fail
    go_ret
    exact⟨rfl,H5.out.1⟩
theorem parses_walk {N:Nat}(s:ByteArray)(W:World)(G:Gl Tryz.prog N W):Calls Tryz.prog 3 #[.string s] W fun en w'=>en= .returned (.bool true)∧Below W.heap.size W w':=by
 by_cases h:3000<s.size
 ·exact parses_big s W G h
 ·exact parses_small s W G (by omega)
end Go.Proofs.YtakljipkaoahnaaGreatDoor
namespace Go.Proofs.YtakljipkaoahnaaGreatDoor.asmParses
open Go.ChangeShapes Go.WideShapes Go.ChangeAt Go.RowKit
open Go.ChangeMaps (open_string shut_string)
set_option linter.unusedVariables false
theorem own:ownKnob Tryz.prog.godebug=none:=by kernel_rfl
theorem laidOut:laidOutB Tryz.prog=true:=by kernel_rfl
theorem lifted (os:Os)(started:os.Started)(H:Type)(enc:TypeId×Value→H):
  ReturnsInHanded {} Tryz.checked os 3 .any (fun w args=>(Rows.asmParsesSpec.pre enc Tryz.prog Tryz.f3 Rows.asmParsesRow.domain false w args∧laidMetH Tryz.prog Rows.asmParsesRow.laid w)∧sizedMet enc Tryz.prog Tryz.f3 (OpenSpec.ofChange Rows.asmParsesSpec) false w args)
   (Rows.asmParsesSpec.post enc Tryz.prog Tryz.f3 false true false false):=by
 refine handed_both (C:=Tryz.checked) (X:=fun w _=>laidMetH Tryz.prog Rows.asmParsesRow.laid w) (fun _ _ _ hh h=>h.of_heap hh) own started (by kernel_rfl) Tryz.func3
  (ChangeSpec.witness_shaped (enc:=enc) (C:=Tryz.checked) (os:=os) (X:=fun w _=>laidMetH Tryz.prog Rows.asmParsesRow.laid w) false (World.laidAll Tryz.prog os Rows.asmParsesRow.laid) #[.string ⟨#[]⟩] 8 (World.laidAll_os _ _ _)
    (World.shaped_of_ZipB (by kernel_rfl) (by kernel_rfl)) (by kernel_rfl) (by kernel_rfl) (by kernel_rfl)
    (by rw[MakeChecks.laidMetH_plain _ _ _ (by kernel_rfl)];exact laidMet_laidAll _ (by kernel_rfl) (by kernel_rfl))) ?_
 intro W base args ds gs before hval0 hW hL hS
 have hval:∀(j:Nat) t v,Tryz.f3.params[j]? =some t→args[j]? =some v→Value.okWide Tryz.prog W .any base t v:=hval0
 have hW':=hW
 obtain⟨p,q,hA0,hV,rfl,hfz,hnd⟩:=hW
 have hA:DataW.TrodAll enc Tryz.prog W 0 (fun _=>true) true Tryz.f3.params.toList args.toList ds p:=hA0
 rw[Tryz.params3]at hA hval
 obtain⟨v0,vs0,d0,ds0,p0,q0,hargs,rfl,rfl,h0,r0⟩:=trodAll_cons hA
 obtain⟨rfl,rfl,rfl⟩:=trodAll_nil r0
 obtain rfl:args=#[v0]:=by cases args;simp_all
 obtain⟨rfl,rfl⟩:=trodVars_none hV
 obtain⟨a0,rfl,rfl,rfl,w0⟩:=open_string Tryz.underlying9 (hval 0 9 v0 rfl rfl) h0
 have gl:=gl_of hL hS
 clear hA0 hval0 hL hS
 refine(parses_walk a0 W gl).mono fun e W' ⟨he,bel⟩=> ?_
 subst he
 exact⟨_,rfl,_,_,_,[],_,[],hW',trodAll_mk1 (shut_bool Tryz.underlying4 _),(trodAll_cons_mk (shut_string Tryz.underlying9 w0) trodAll_mk0),rfl,bel.frame _,fun h=>by cases h⟩
theorem over:Rows.asmParsesRow.holds Tryz.pinned (OpenSpec.ofChange Rows.asmParsesSpec):=
 OpenClaim.holds_of_wide 3 Tryz.f3 rfl rfl rfl rfl rfl rfl rfl ⟨rfl,rfl,rfl,rfl,rfl⟩ rfl rfl rfl rfl rfl (by kernel_rfl) Tryz.func3 (by kernel_rfl)
  (of_decide_eq_true (by kernel_rfl)) (by unfold Func.isWrapper;first|(rw[if_pos (by decide+kernel)];kernel_rfl)|(rw[if_neg (by decide+kernel)];exact⟨rfl,rfl⟩))
  (fun os started H enc _=>lifted os started H enc)
theorem card:Claim7.holds Tryz.pinned (.plain (OpenSpec.ofChange Rows.asmParsesSpec)) Rows.asmParsesCard:=
 Claim7.holds_tied_plain_at .later [] [.data,.data,.data,.data,.sentinel,.sentinel,.pinned] true (true, "40dcb24738789103b325b23e544dff8a8d3a07023493d51d14f917cc92103862") true over (fun _ h=>by cases h) (by kernel_rfl) (fun _ h=>by cases h) asmParses_row_tie rfl ⟨rfl,rfl⟩ (by kernel_rfl) rfl
  (fun f fn hf hfn=>by
    obtain rfl:f=3:=Option.some.inj ((show Tryz.prog.funcNamed "foliot/foliotlaw12.AsmParses" =some 3 by kernel_rfl).symm.trans hf)|>.symm
    obtain rfl:fn=Tryz.f3:=(Option.some.inj (Tryz.func3.symm.trans hfn)).symm
    exact⟨by kernel_rfl,fun j t ht=>by
     rw[Tryz.params3]at ht
     have hm:t∈[9]:=by simpa using Array.mem_of_getElem? ht
     have hall:([9].all fun u=> !Tryz.prog.wantsStandIn u)=true:=by kernel_rfl
     exact(show Tryz.prog.wantsStandIn t=false by simpa using List.all_eq_true.1 hall t hm)⟩)
  (by kernel_rfl)
end Go.Proofs.YtakljipkaoahnaaGreatDoor.asmParses
namespace Go.Proofs.YtakljipkaoahnaaGreatDoor
theorem asmParses_holds:Rows.AsmParsesCardSaid:=asmParses.card
#print axioms asmParses_holds
end Go.Proofs.YtakljipkaoahnaaGreatDoor
