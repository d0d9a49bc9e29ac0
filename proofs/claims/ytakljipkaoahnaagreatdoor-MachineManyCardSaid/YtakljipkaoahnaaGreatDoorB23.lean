/- Parts of the proof: what the functions and the plain laws give that later parts lean on. Conditions: none beyond those that each theorem names. -/
import Derived.HandedShaped
import Derived.LaidMore
import Derived.Lay
import Derived.MakeChecks
import Derived.Stop.LaidErr
import Derived.Shelf.Vars
import Derived.ChangeOld
import Derived.Test.YtakljipkaoahnaaGreatDoorB22
set_option maxRecDepth 100000
set_option maxHeartbeats 8000000
namespace Go.Va
open Go.Own Go.RowKit
open Go.Proofs.YtakljipkaoahnaaGreatDoor
theorem out_kinds {k:Int}(h:evOut k=true):k=1∨k=8∨k=9∨k=10∨k=12∨k=14∨k=15∨k=19∨k=20:=of_decide_eq_true h
theorem hear_letters (s:MS)(e:Ev):(hear s e).letters.length≤s.letters.length+1:=by
 unfold hear
 repeat' split
 all_goals first|exact Nat.le_succ _|exact Nat.le_of_eq (by show(s.letters++[_]).length=_;rw[List.length_append];rfl)
theorem ahead_run {p:Img}{fa:Fa}(K:Known p fa){s:MS}(S:St p fa s){e:Ev}(h0:evCheck e=0)(hw:e.v.wf)(hov:s.over=false)(he:s.events≤30){s1:MS}(hs1:hear {s with now:=e.time,steps:=0,events:=s.events+1} e=s1):
  Rk p s1∧At fa s1∧s1.made.length+fuel p s1≤4000000000∧s1.letters.length≤4294967296∧s1.steps+fuel p s1≤4000000000∧s.letters.length≤30:=by
 have hr:=st_room K S he
 obtain⟨s0,hs0⟩:∃s0:MS,s0={s with now:=e.time,steps:=0,events:=s.events+1}:=⟨_,rfl⟩
 rw[←hs0]at hs1
 have V:=S.rk.vs
 have V0:Vs s0:=by rw[hs0];exact⟨V.stk,V.pls,V.inp,V.tms,V.acs,V.lts,V.mds,(evCheck_ok h0).1,V.nt,V.na⟩
 have o1:=hear_opn s0 e
 have q1:=hear_pot s0 e
 have m1:=hear_made s0 e
 have l1:=hear_letters s0 e
 have a1:=hear_at (s:=s0) e (by rw[hs0];exact S.good.at_ hov)
 have V1:=V0.hear h0 hw
 have hp0:=S.good.pot hov
 have hp1:pot s0=pot s:=by rw[hs0];rfl
 have hl0:s.letters.length≤pot s:=by unfold pot;omega
 have hl1:s0.letters=s.letters:=by rw[hs0]
 have hm0:s0.made=s.made:=by rw[hs0]
 have hst:s0.steps=0:=by rw[hs0]
 rw[hs1]at o1 q1 m1 l1 a1 V1
 have hf:fuel p s1≤(p.code.length+1)*(s.events+2):=by
  unfold fuel
  exact Nat.mul_le_mul_left _ (by omega)
 refine⟨⟨V1,by rw[o1.1,hs0];exact S.rk.opn,by rw[o1.2,hs0];exact S.rk.pls⟩,a1,?_,?_,?_,by omega⟩
 ·rw[m1.1,hm0];omega
 ·rw[hl1]at l1;omega
 ·rw[q1.2.2,hst];omega
end Go.Va
namespace Go.Proofs.YtakljipkaoahnaaGreatDoor
open Go.RowKit Go.Own Go.Own.MapTy Go.Va Go.Sort
open Go.Own.Cells (sz enc)
theorem apply_any
  {Z:Nat→Prop}(b:Nat)(v:MV)(p:Img)(s:MS)(W:World)(M:MX TT Z W b v p s){N:Nat}(G:Gl Tryz.prog N W)(fa:Fa)(K:Known p fa)(P:Pk p)(hsp:fa.span≤p.code.length+1)(S:St p fa s)(hev:s.events≤30)(hZ:∀j,W.heap.size≤j→Z j)
  (id t k a bb:Int)(nm tx:ByteArray)(x:Val)(vk vn:Int)(vs:ByteArray)(la:Option Addr)(ln lc:Nat)(F:Nat→Prop)(C:CF F W ⟨vk,vn,vs,la,ln,lc⟩ x)(hw:x.wf)(hF:∀g,F g→¬MO v b g)(r:Int×MS)(hr:applyM p s ⟨id,t,k,a,bb,nm,tx,x⟩=r):
  Calls Tryz.prog 20 #[.pointer (some ⟨b,0,none⟩),.agg #[.int .i64 id,.int .i64 t,.int .i64 k,.int .i64 a,.int .i64 bb,.string nm,.string tx,.int .i64 vk,.int .i64 vn,.string vs,.slice la ln lc]] W (MP Z W b v p (.int .i64 r.1) r.2):=by
 subst hr
 by_cases h0:evCheck ⟨id,t,k,a,bb,nm,tx,x⟩=0
 ·by_cases ho:evOut k=true
  ·have hn1:¬(evCheck ⟨id,t,k,a,bb,nm,tx,x⟩≠0∨evOut k=false):=fun h=>h.elim (fun h=>h h0) (fun h=>by rw[ho]at h;cases h)
   by_cases hov:s.over=true
   ·have e:applyM p s ⟨id,t,k,a,bb,nm,tx,x⟩=(181,s):=by unfold applyM;rw[if_neg hn1,if_pos hov]
    rw[e]
    exact apply_over b v p s W M G id t k a bb nm tx x vk vn vs la ln lc F C hw h0 ho hov
   ·by_cases hbg:s.begun=(k==1)
    ·have e:applyM p s ⟨id,t,k,a,bb,nm,tx,x⟩=(7,s):=by unfold applyM;rw[if_neg hn1,if_neg hov,if_pos hbg]
     rw[e]
     exact apply_state b v p s W M G id t k a bb nm tx x vk vn vs la ln lc F C hw h0 ho (by simpa using hov) hbg
    ·obtain⟨s1,hs1⟩:∃s1,hear {s with now:=t,steps:=0,events:=s.events+1} ⟨id,t,k,a,bb,nm,tx,x⟩=s1:=⟨_,rfl⟩
     have e:applyM p s ⟨id,t,k,a,bb,nm,tx,x⟩=(0,runF p s1):=by unfold applyM;rw[if_neg hn1,if_neg hov,if_neg hbg,←hs1]
     rw[e]
     have hov:s.over=false:=by simpa using hov
     obtain⟨R1,A1,b1,b2,b3,b4⟩:=ahead_run K S h0 hw hov hev hs1
     have RT:∀(W':World) (v':MV),MX TT Z W' b v' p s1→W.heap.size≤W'.heap.size→Calls Tryz.prog 60 #[.pointer (some ⟨b,0,none⟩)] W' (MP Z W' b v' p (.tuple #[]) (runF p s1)):=
      fun W' v' M' hs=>run_any b v' p s1 W' M' fa K P R1 (fuel p s1) (fun _=>⟨A1,meas_fuel hsp⟩) b1 b2 b3 (hZ_step hZ hs) _ rfl
     have hop:=S.rk.opn
     unfold opn at hop
     have hec:=evCheck_ok h0
     have hsz:=ok_sz (x:=x) ⟨hec.2.2.2.2.2.2.2,hw⟩
     have hnm:nm.size≤64:=hec.2.2.2.2.2.1
     have hb1:∀k:Int,(k==1)=false→¬s.begun=(k==1)→s.begun=true:=fun k hk h=>by rw[hk]at h;simpa using h
     rcases out_kinds ho with rfl|rfl|rfl|rfl|rfl|rfl|rfl|rfl|rfl
     ·exact apply_start b v p s W M G id t a bb nm tx x vk vn vs la ln lc F C hw h0 hov (by simpa using hbg) hF (by omega) hZ (by omega) s1 _ hs1 RT
     ·exact apply_done b v p s W M G id t a bb nm tx x vk vn vs la ln lc F C hw h0 hov (hb1 8 rfl hbg) hF (by omega) hZ (by omega) (by omega) s1 _ hs1 RT
     ·exact apply_failed b v p s W M G id t a bb nm tx x vk vn vs la ln lc F C hw h0 hov (hb1 9 rfl hbg) hF (by omega) hZ (by omega) hnm s1 _ hs1 RT
     ·exact apply_late b v p s W M G id t a bb nm tx x vk vn vs la ln lc F C hw h0 hov (hb1 10 rfl hbg) hF (by omega) hZ (by omega) s1 _ hs1 RT
     ·exact apply_fired b v p s W M G id t a bb nm tx x vk vn vs la ln lc F C hw h0 hov (hb1 12 rfl hbg) hF (by omega) hZ (by omega) s1 _ hs1 RT
     ·exact apply_signal b v p s W M G id t a bb nm tx x vk vn vs la ln lc F C hw h0 hov (hb1 14 rfl hbg) hF (by omega) hZ (by omega) (by omega) s1 _ hs1 RT
     ·exact apply_asked b v p s W M G id t a bb nm tx x vk vn vs la ln lc F C hw h0 hov (hb1 15 rfl hbg) hF (by omega) s1 _ hs1 RT
     ·have hov1:s1.over=true:=by rw[←hs1];rfl
      have er:runF p s1=s1:=runM_over hov1 _
      rw[er]
      exact apply_ended b v p s W M G id t a bb nm tx x vk vn vs la ln lc F C hw h0 hov (hb1 19 rfl hbg) hF (by omega) s1 hs1
     ·have hov1:s1.over=true:=by rw[←hs1];rfl
      have er:runF p s1=s1:=runM_over hov1 _
      rw[er]
      exact apply_timed b v p s W M G id t a bb nm tx x vk vn vs la ln lc F C hw h0 hov (hb1 20 rfl hbg) hF (by omega) s1 hs1
  ·have ho:evOut k=false:=by simpa using ho
   have e:applyM p s ⟨id,t,k,a,bb,nm,tx,x⟩=(9,s):=by unfold applyM;rw[if_pos (.inr ho)]
   rw[e]
   exact apply_inner b v p s W M G id t k a bb nm tx x vk vn vs la ln lc F C hw h0 ho
 ·have e:applyM p s ⟨id,t,k,a,bb,nm,tx,x⟩=(9,s):=by unfold applyM;rw[if_pos (.inl h0)]
  rw[e]
  exact apply_bad b v p s W M G id t k a bb nm tx x vk vn vs la ln lc F C hw _ rfl (by simpa using h0)
def plainB (x:ByteArray):Bool:= !(Lib.hasSuffix x.data.toList [58])&&(Lib.hasPrefix x.data.toList [32,32]&&((findL (cutN x)).any (fun op=>(ofL op).1.operand==0)&& !(cutM x)))
theorem plain_line {N:Nat}{x:ByteArray}(hs:x.size≤65536)(hb:plainB x=true):LineLaw N x:=by
 unfold plainB at hb
 rw[Bool.and_eq_true,Bool.and_eq_true,Bool.and_eq_true,Bool.not_eq_true',Bool.not_eq_true']at hb
 obtain⟨hA,hp,hf,hm⟩:=hb
 cases hfo:findL (cutN x)with
 |none=>rw[hfo]at hf;cases hf
 |some op=>
  rw[hfo]at hf
  have ho:(ofL op).1.operand=0:=by simpa using hf
  have hi:((ofL op).1.operand !=0)=false:=by rw[ho];rfl
  have hl:isLab x=false:=by unfold isLab;rw[hA];rfl
  have hr:∀(n:Int) (st:RSt),lineL n x st=(0,{st with code:=st.code++[⟨op,0⟩]}):=by
   intro n st
   unfold lineL
   rw[if_neg (by rw[hl];exact Bool.noConfusion),if_neg (by rw[hp];exact Bool.noConfusion),hfo]
   dsimp only
   rw[hm,hi,if_neg (by simp),if_neg (by simp)]
  refine⟨fun b v st n W R G hZ m hm' h1 h2 h3 h4 h5=> ?_,fun line n st hn h=> ?_⟩
  ·rw[hr]
   exact line_none b v st n x W R hs G (.inl hA) hp op _ hfo rfl hm hi h4 _ rfl
  ·rw[hr]
   exact⟨by have:=h.code;dsimp only;rw[List.length_append];exact Nat.add_le_add_right this 1,by have:=h.consts;dsimp only;omega,by have:=h.names;dsimp only;omega,by have:=h.jumps;dsimp only;omega,h.p0,h.p1,h.wf,h.at_⟩
theorem asm_plain {N:Nat}(s:ByteArray)(w:World)(G:Gl Tryz.prog N w)(h:s.size≤65536)(hn:Lib.hasSuffix s.data.toList [10]=true)(hb:(textL s).all plainB=true):Calls Tryz.prog 10 #[.string s] w (APost w (asmL s)):=by
 unfold asmL
 rw[decide_eq_false (show¬65536<s.size from by omega),hn]
 simp only[cond_false,Bool.not_true]
 exact asm_lines s w G h hn (fun x hx=>plain_line (Nat.le_trans (textL_size x hx) h) (List.all_eq_true.1 hb x hx)) _ rfl _ rfl
end Go.Proofs.YtakljipkaoahnaaGreatDoor
namespace Go.Va
open Go.Own Go.RowKit
open Go.Proofs.YtakljipkaoahnaaGreatDoor
def napT:ByteArray:=⟨#[32,32,105,110,112,117,116,10,32,32,116,105,109,101,114,10,32,32,119,97,105,116,10,32,32,114,101,116,117,114,110,10]⟩
def napP:Img:=⟨[⟨15,0⟩,⟨17,0⟩,⟨18,0⟩,⟨25,0⟩],[],[],0⟩
def nap1:MS:=⟨[vInt 1],[],2,vInt 5,10,⟨[⟨1,false,vNil0,0⟩],1⟩,⟨[],0⟩,[],false,true,false,⟨#[]⟩,[⟨1,10,1,5,⟨#[]⟩,vNil0⟩],0,1,2⟩
def nap2:MS:=⟨[],[],3,vInt 5,15,⟨[],1⟩,⟨[],0⟩,[],false,true,true,⟨#[]⟩,[⟨1,10,1,5,⟨#[]⟩,vNil0⟩,⟨4,15,0,0,⟨#[]⟩,vInt 15⟩],1,2,2⟩
theorem St.take {p:Img}{fa:Fa}{s:MS}(S:St p fa s)(n:Nat)(hw:s.over=false→s.begun=true→stepM p {s with taken:=n}=none):St p fa {s with taken:=n}:=
 ⟨⟨S.good.at_,hw,S.good.pot,S.good.steps⟩,⟨⟨S.rk.vs.stk,S.rk.vs.pls,S.rk.vs.inp,S.rk.vs.tms,S.rk.vs.acs,S.rk.vs.lts,S.rk.vs.mds,S.rk.vs.now,S.rk.vs.nt,S.rk.vs.na⟩,S.rk.opn,S.rk.pls⟩,⟨S.ml.last,S.ml.all⟩,S.bd⟩
end Go.Va
namespace Go.Proofs.YtakljipkaoahnaaGreatDoor
open Go.RowKit Go.Own Go.Own.MapTy Go.Va Go.Sort
open Go.Own.Cells (sz enc)
theorem nap_asm:asmL napT=(napP,0,0):=by kernel_rfl
theorem nap_lines:(textL napT).all plainB=true:=by kernel_rfl
theorem nap_chk:checkG napP=(⟨[0,1,1,1],1,3⟩,-1,0):=by kernel_rfl
theorem nap_one:applyM napP (ms0 napP) ⟨1,10,1,0,0,⟨#[]⟩,⟨#[]⟩,vInt 5⟩=(0,nap1):=by kernel_rfl
theorem nap_two:applyM napP {nap1 with taken:=1} ⟨4,15,12,1,0,⟨#[]⟩,⟨#[]⟩,vNil0⟩=(0,nap2):=by kernel_rfl
theorem nap2_sz:∀c∈nap2.made,szV c.v≤1073741824:=by
 intro c hc
 rcases List.mem_cons.1 hc with rfl|hc
 ·rw[szV_eq];decide
 ·rw[List.mem_singleton.1 hc,szV_eq];decide
theorem waits_over
  {Z:Nat→Prop}(b:Nat)(v:MV)(p:Img)(s:MS)(W:World)(M:MX TT Z W b v p s)
  (ho:s.over=true):Calls Tryz.prog 47 #[.pointer (some ⟨b,0,none⟩)] W (fun e w'=>e= .returned (.tuple #[.int .i64 5,.int .i64 0,.string ⟨#[]⟩])∧Below W.heap.size W w'):=by
 have c0:W.cell? ⟨b,19,none⟩=some (.bool s.over):=M.cell (k:=19) rfl
 rw[ho]at c0
 have b0:=zlt M.h
 clear M ho
 go_enter Tryz.func47,Tryz.ntmps47
 go_wp2_with fail
 exact bodyPost_ret (v:=.tuple #[.int .i64 5,.int .i64 0,.string ⟨#[]⟩]) (by simp only[results,Tryz.results47];go_simp) rfl ⟨rfl,Below.refl _ _⟩
theorem waits_start
  {Z:Nat→Prop}(b:Nat)(v:MV)(p:Img)(s:MS)(W:World)(M:MX TT Z W b v p s)
  (ho:s.over=false)(hb:s.begun=false):Calls Tryz.prog 47 #[.pointer (some ⟨b,0,none⟩)] W (fun e w'=>e= .returned (.tuple #[.int .i64 0,.int .i64 0,.string ⟨#[]⟩])∧Below W.heap.size W w'):=by
 have c0:W.cell? ⟨b,19,none⟩=some (.bool s.over):=M.cell (k:=19) rfl
 have c1:W.cell? ⟨b,18,none⟩=some (.bool s.begun):=M.cell (k:=18) rfl
 rw[ho]at c0
 rw[hb]at c1
 have b0:=zlt M.h
 clear M ho hb
 go_enter Tryz.func47,Tryz.ntmps47
 go_wp2_with fail
 exact bodyPost_ret (v:=.tuple #[.int .i64 0,.int .i64 0,.string ⟨#[]⟩]) (by simp only[results,Tryz.results47];go_simp) rfl ⟨rfl,Below.refl _ _⟩
def WtPost (Z:Nat→Prop)(W:World)(b:Nat)(v:MV)(p:Img)(s:MS)(r:Value)(e:Ending)(w':World):Prop:=e= .returned r∧Hid (∃v',MX TT Z w' b v' p s∧MK b v W v' w')
theorem waits_timer
  {Z:Nat→Prop}(b:Nat)(v:MV)(p:Img)(s:MS)(W:World)(M:MX TT Z W b v p s)
  (ho:s.over=false)(hb:s.begun=true)(a:Int)(hc:p.code[s.at_]? =some ⟨18,a⟩)(n:Int)(hn:s.top.num=n):Calls Tryz.prog 47 #[.pointer (some ⟨b,0,none⟩)] W (WtPost Z W b v p s (.tuple #[.int .i64 1,.int .i64 n,.string ⟨#[]⟩])):=by
 have c0:W.cell? ⟨b,19,none⟩=some (.bool s.over):=M.cell (k:=19) rfl
 have c1:W.cell? ⟨b,18,none⟩=some (.bool s.begun):=M.cell (k:=18) rfl
 rw[ho]at c0
 rw[hb]at c1
 obtain⟨g,off,hca,_,gl,_,m0,m1⟩:=M.img.code_at (Below.refl _ _) hc
 have hcn:=M.img.lens.1
 have c2:W.cell? ⟨b,1,none⟩=some (.slice v.ic.ca v.ic.cn v.ic.cc):=M.cell (k:=1) rfl
 rw[hca,hcn]at c2
 have c6:W.cell? ⟨b,6,none⟩=some (.int .i64 (s.at_:Int)):=M.cell (k:=6) rfl
 have hix:(s.at_:Int)<(p.code.length:Int):=by have:=(zge hc).1;omega
 have b0:=zlt M.h
 have HX:=zh2 M hn
 clear M ho hb hca hcn hc hn
 go_enter Tryz.func47,Tryz.ntmps47
 go_upto_region 5 with(fail)
 go_region
 all_goals
  go_upto_region 9 with(fail)
  refine wp_named ?_
  intro w1 hw1
  have B1:Below W.heap.size W w1:=by rw[hw1];first|exact(zal).drew|exact((Below.refl _ _).drew.alloc (Nat.le_refl _) _)
  have TP:=zhd (top_any b v p s w1 (HX.out.1.ext B1))
  have HB:=zhd B1
  clear hw1 B1
  go_wp2_with fail
  refine TP.out.mono ?_
  rintro e w2 ⟨v2,⟨ck,cn,cs,la,ln,lc⟩,rfl,H2⟩
  have hcn:cn=n:=by rw[←HX.out.2];exact H2.out.2.2.n
  subst hcn
  have hfd:∀W:World,(Instr.field 39 (.agg #[.int .i64 ck,.int .i64 cn,.string cs,.slice la ln lc]) 1).run Tryz.prog W= .ok (.int .i64 cn) W:=fun _=>by kernel_rfl
  go_wp2_with fail
  exact bodyPost_ret (v:=.tuple #[.int .i64 1,.int .i64 cn,.string ⟨#[]⟩]) (by simp only[results,Tryz.results47];go_simp) rfl ⟨rfl,zhd ⟨v2,H2.out.1,(MK.ext HB.out).trans H2.out.2.1⟩⟩
theorem runs_true {N:Nat}(W:World)(G:Gl Tryz.prog N W):Calls Tryz.prog 16 #[] W fun e w'=>e= .returned (.bool true)∧Below W.heap.size W w':=by
 have HG:=zhd G
 clear G
 have PA:=zhd (nap_asm▸asm_plain napT W HG.out (by decide) (by kernel_rfl) nap_lines)
 go_enter Tryz.func16,Tryz.ntmps16
 go_wp2_with fail
 refine PA.out.mono ?_
 rintro e w1 ⟨⟨ca,cn,cc,ka,kn,kc,na,nn,nc,pl⟩,rfl,hI1,hB1⟩
 dsimp only
 go_upto_region 2 with(fail)
 refine wp_named ?_
 intro w2 hw2
 have B2:Below w1.heap.size w1 w2:=by rw[hw2];exact(zal).alloc (by simp) _
 have b2:w2.heap[w1.heap.size]? =some (.cells #[.slice ca cn cc,.slice ka kn kc,.slice na nn nc,.int .i64 pl] 27 (0,0)):=by rw[hw2];exact heap_lt2
 have q0:=zca b2 0 rfl
 have q1:=zca b2 1 rfl
 have q2:=zca b2 2 rfl
 have q3:=zca b2 3 rfl
 have ql:=zlt b2
 have NW:=zhd (new_any _ w2 ⟨ca,cn,cc,ka,kn,kc,na,nn,nc,pl⟩ napP (hI1.keep (S:=fun _=>False) (zkb B2) (fun _ _ f=>f)) (by intro x hx;cases hx) _ nap_chk)
 have H2:=zhd (hB1.trans (B2.mono hB1.size))
 clear hw2 B2 b2 hI1 hB1 PA
 go_wp2_with fail
 refine NW.out.mono ?_
 rintro e w3 (⟨h,_⟩|⟨_,b,v,rfl,H3⟩)
 ·exact absurd rfl h
 have KK:=((checkG_law nap_chk).2 rfl).2
 have PK:Pk napP:=⟨fun x hx=>(by cases hx),fun x hx=>(by cases hx)⟩
 have S0:St napP ⟨[0,1,1,1],1,3⟩ (ms0 napP):=St.zero KK (by decide)
 have M3:MX TT (fun j=>w2.heap.size≤j) w3 b v napP (ms0 napP):=H3.out.1
 have hwi:(vInt 5).wf:=by simp[vInt,Val.wf_eq,Val.kind,Val.num,Val.txt,Val.list,Val.wf.wfL];decide
 have S1:=(S0.apply KK PK (by decide) ⟨1,10,1,0,0,⟨#[]⟩,⟨#[]⟩,vInt 5⟩ hwi (by decide)).1
 rw[nap_one]at S1
 have S2:St napP ⟨[0,1,1,1],1,3⟩ {nap1 with taken:=1}:=S1.take 1 (fun _ _=>by kernel_rfl)
 have WS:=zhd (waits_start b v _ _ w3 M3 rfl rfl)
 have HMO:=zhd H3.out.2.1
 have HNW:=zhd (show vNil0.wf by simp[vNil0,Val.wf_eq,Val.kind,Val.num,Val.txt,Val.list,Val.wf.wfL];decide)
 have BW3:=H2.out.trans (H3.out.2.2.mono H2.out.size)
 have HM3:=zh3 M3 H3.out.2.2 BW3
 have HS:=zh6 KK PK S0 S1 S2 hwi
 clear q0 q1 q2 q3 ql NW KK PK S0 M3 hwi S1 S2 BW3 H3
 go_wp2_with fail
 refine WS.out.mono ?_
 rintro e w4 ⟨rfl,hB4⟩
 have H4:=zh3 (HM3.out.1.ext hB4) (HM3.out.2.1.trans (hB4.mono HM3.out.2.1.size)) (HM3.out.2.2.trans (hB4.mono HM3.out.2.2.size))
 clear WS hB4
 go_wp2_with fail
 refine(vof_any 5 _).mono ?_
 rintro e w5 ⟨rfl,hB5⟩
 have M5:=H4.out.1.ext hB5
 have B25:=H4.out.2.1.trans (hB5.mono H4.out.2.1.size)
 have BW5:=H4.out.2.2.trans (hB5.mono H4.out.2.2.size)
 have AP:=zhd (apply_any b v napP (ms0 napP) w5 M5 (HG.out.below BW5) _ HS.out.1 HS.out.2.1 (by decide) HS.out.2.2.1 (by decide) (fun j hj=>Nat.le_trans B25.size hj) 1 10 1 0 0 ⟨#[]⟩ ⟨#[]⟩ (vInt 5) 1 5 ⟨#[]⟩ none 0 0 (fun _=>False) ⟨rfl,rfl,rfl,VF.nil _ _⟩ HS.out.2.2.2.2.2 (fun _ f=>f.elim) _ nap_one)
 have H5:=zh2 B25 BW5
 clear hB5 M5 B25 BW5
 go_wp2_with fail
 refine AP.out.mono ?_
 rintro e w6 ⟨v6,rfl,H6⟩
 have WT:=zhd (waits_timer b v6 napP nap1 w6 H6.out.1 rfl rfl 0 rfl 1 rfl)
 clear AP
 go_wp2_with fail
 refine WT.out.mono ?_
 rintro e w7 ⟨rfl,H7⟩
 obtain⟨v7,M7,K7⟩:=H7.out
 have TK:=zhd (take_any2 b v7 napP nap1 w7 M7 (by intro c hc;rw[List.mem_singleton.1 hc,szV_eq];decide) (by decide) (by decide))
 have HM7:=zh2 M7 (H6.out.2.trans K7)
 clear WT H7 M7 K7 H6
 go_wp2_with fail
 refine TK.out.mono ?_
 rintro e w8 ⟨r8,rfl,H8⟩
 obtain⟨v8,M8,K8⟩:∃v8,MX TT (fun j=>w2.heap.size≤j) w8 b v8 napP {nap1 with taken:=1}∧MK b v7 w7 v8 w8:=⟨v7,H8.out.2.2⟩
 have hc8:((nap1.made.drop nap1.taken).map cloneC)[0]? =some ⟨1,10,1,5,⟨#[]⟩,vNil0⟩:=rfl
 obtain⟨a8,c8,rfl⟩:∃a c,r8= .slice a 1 c:=H8.out.1.slice
 obtain⟨g,off,⟨z0,z1,z2,z3,z4,⟨zk,zn,zs,la,ln,lc⟩⟩,rfl,hg,hrel,_,hcs⟩:=H8.out.1.at_ hc8
 have hrel2:CmF (fun g=>w7.heap.size≤g) w8 ⟨z0,z1,z2,z3,z4,⟨zk,zn,zs,la,ln,lc⟩⟩ ⟨1,10,1,5,⟨#[]⟩,vNil0⟩:=hrel
 obtain⟨d0,d1,d2,d3,d4,⟨dk,dn,ds,dl⟩⟩:=hrel2
 dsimp only[vNil0,Val.kind,Val.num,Val.txt]at d0 d1 d2 d3 d4 dk dn ds
 subst d0 d1 d2 d3 d4 dk dn ds
 have m0:w8.cell? ⟨g,off+0*9,none⟩=some (.int .i64 1):=hcs 0 _ rfl
 have m1:w8.cell? ⟨g,off+0*9+1,none⟩=some (.int .i64 10):=hcs 1 _ rfl
 have m2:w8.cell? ⟨g,off+0*9+2,none⟩=some (.int .i64 1):=hcs 2 _ rfl
 have m3:w8.cell? ⟨g,off+0*9+3,none⟩=some (.int .i64 5):=hcs 3 _ rfl
 have m4:w8.cell? ⟨g,off+0*9+4,none⟩=some (.string ⟨#[]⟩):=hcs 4 _ rfl
 have m5:w8.cell? ⟨g,off+0*9+5,none⟩=some (.int .i64 0):=hcs 5 _ rfl
 have m6:w8.cell? ⟨g,off+0*9+6,none⟩=some (.int .i64 0):=hcs 6 _ rfl
 have m7:w8.cell? ⟨g,off+0*9+7,none⟩=some (.string ⟨#[]⟩):=hcs 7 _ rfl
 have m8:w8.cell? ⟨g,off+0*9+8,none⟩=some (.slice la ln lc):=hcs 8 _ rfl
 simp only[Nat.zero_mul,Nat.add_zero]at m0 m1 m2 m3 m4 m5 m6 m7 m8
 have K58:=HM7.out.2.trans K8
 have B58:Below w2.heap.size w5 w8:=K58.keeps.below H5.out.1.size (fun q hq e=>by have:=HMO.out q e;omega)
 have B28:=H5.out.1.trans (B58.mono (Nat.le_refl _))
 have BW8:=H5.out.2.trans (B58.mono H2.out.size)
 have PS:=zhd (fun W' (B:Below w8.heap.size w8 W')=>print_start la ln lc W' (HG.out.below (BW8.trans (B.mono BW8.size))))
 have ST:=zhd (fun W' (B:Below w8.heap.size w8 W')=>(show Calls Tryz.prog 21 #[.pointer (some ⟨b,0,none⟩)] W' (fun e w'=>e= .returned (.int .i64 2)∧Below W'.heap.size W' w')from steps_any b v8 _ _ W' (M8.ext B)))
 have HM8:=zh4 M8 B28 BW8 K58
 clear TK H8 hc8 hrel hcs dl M8 K8 K58 B58 B28 BW8 HM7
 go_wp2_with fail
 refine(PS.out _ (Below.refl _ _)).mono ?_
 rintro e w9 ⟨rfl,hB9⟩
 have H9:=zhd hB9
 clear hB9 m0 m1 m2 m3 m4 m5 m6 m7 m8 hg PS
 go_wp2_with fail
 refine(ST.out _ H9.out).mono ?_
 rintro e w10 ⟨rfl,hB10⟩
 have B810:=H9.out.trans (hB10.mono H9.out.size)
 have B210:=HM8.out.2.1.trans (B810.mono HM8.out.2.1.size)
 have BW10:=HM8.out.2.2.1.trans (B810.mono HM8.out.2.2.1.size)
 have AP:=zhd (apply_any b v8 napP {nap1 with taken:=1} w10 (HM8.out.1.ext B810) (HG.out.below BW10) _ HS.out.1 HS.out.2.1 (by decide) HS.out.2.2.2.2.1 (by decide) (fun j hj=>Nat.le_trans B210.size hj) 4 15 12 1 0 ⟨#[]⟩ ⟨#[]⟩ vNil0 0 0 ⟨#[]⟩ none 0 0 (fun _=>False) (cf_nil0 _ _) HNW.out (fun _ f=>f.elim) _ nap_two)
 have K510:=HM8.out.2.2.2.trans (MK.ext B810)
 have H10:=zh2 BW10 K510
 clear ST B810 B210 BW10 K510 hB10 HM8
 go_wp2_with fail
 refine AP.out.mono ?_
 rintro e w11 ⟨v11,rfl,H11⟩
 have TK:=zhd (take_any2 b v11 napP nap2 w11 H11.out.1 nap2_sz (by decide) (by decide))
 have K511:=H10.out.2.trans H11.out.2
 have H11:=zhd K511
 clear AP K511
 go_wp2_with fail
 refine TK.out.mono ?_
 rintro e w12 ⟨r12,rfl,H12⟩
 obtain⟨v12,M12,K12⟩:∃v12,MX TT (fun j=>w2.heap.size≤j) w12 b v12 napP {nap2 with taken:=2}∧MK b v11 w11 v12 w12:=⟨v11,H12.out.2.2⟩
 have hc12:((nap2.made.drop nap2.taken).map cloneC)[0]? =some ⟨4,15,0,0,⟨#[]⟩,vInt 15⟩:=rfl
 obtain⟨a12,c12,rfl⟩:∃a c,r12= .slice a 1 c:=H12.out.1.slice
 obtain⟨g,off,⟨z0,z1,z2,z3,z4,⟨zk,zn,zs,la,ln,lc⟩⟩,rfl,hg,hrel,_,hcs⟩:=H12.out.1.at_ hc12
 have hrel2:CmF (fun g=>w11.heap.size≤g) w12 ⟨z0,z1,z2,z3,z4,⟨zk,zn,zs,la,ln,lc⟩⟩ ⟨4,15,0,0,⟨#[]⟩,vInt 15⟩:=hrel
 obtain⟨d0,d1,d2,d3,d4,dv⟩:=hrel2
 obtain⟨dk,dn,ds,dl⟩:=id dv
 dsimp only[vInt,Val.kind,Val.num,Val.txt]at d0 d1 d2 d3 d4 dk dn ds
 subst d0 d1 d2 d3 d4 dk dn ds
 have m0:w12.cell? ⟨g,off+0*9,none⟩=some (.int .i64 4):=hcs 0 _ rfl
 have m1:w12.cell? ⟨g,off+0*9+1,none⟩=some (.int .i64 15):=hcs 1 _ rfl
 have m2:w12.cell? ⟨g,off+0*9+2,none⟩=some (.int .i64 0):=hcs 2 _ rfl
 have m3:w12.cell? ⟨g,off+0*9+3,none⟩=some (.int .i64 0):=hcs 3 _ rfl
 have m4:w12.cell? ⟨g,off+0*9+4,none⟩=some (.string ⟨#[]⟩):=hcs 4 _ rfl
 have m5:w12.cell? ⟨g,off+0*9+5,none⟩=some (.int .i64 1):=hcs 5 _ rfl
 have m6:w12.cell? ⟨g,off+0*9+6,none⟩=some (.int .i64 15):=hcs 6 _ rfl
 have m7:w12.cell? ⟨g,off+0*9+7,none⟩=some (.string ⟨#[]⟩):=hcs 7 _ rfl
 have m8:w12.cell? ⟨g,off+0*9+8,none⟩=some (.slice la ln lc):=hcs 8 _ rfl
 simp only[Nat.zero_mul,Nat.add_zero]at m0 m1 m2 m3 m4 m5 m6 m7 m8
 have K512:=H11.out.trans K12
 have B512:Below w2.heap.size w5 w12:=K512.keeps.below H5.out.1.size (fun q hq e=>by have:=HMO.out q e;omega)
 have BW12:=H5.out.2.trans (B512.mono H2.out.size)
 have WO:=zhd (waits_over b v12 _ _ w12 M12 rfl)
 have PC:=zhd (fun W' (B:Below w12.heap.size w12 W')=>print_complete W' (HG.out.below (BW12.trans (B.mono BW12.size))) _ la ln lc (dv.keep (S:=fun _=>False) (zkb B) (fun _ _ f=>f)))
 have TR:=zhd (fun W' (B:Below w12.heap.size w12 W')=>(show Calls Tryz.prog 25 #[.pointer (some ⟨b,0,none⟩)] W' (fun e w'=>e= .returned (.string ⟨#[]⟩)∧Below W'.heap.size W' w')from trap_any b v12 _ _ W' (M12.ext B)))
 have EV:=zhd (fun W' (B:Below w12.heap.size w12 W')=>(show Calls Tryz.prog 22 #[.pointer (some ⟨b,0,none⟩)] W' (fun e w'=>e= .returned (.int .i64 2)∧Below W'.heap.size W' w')from events_any b v12 _ _ W' (M12.ext B)))
 have MD:=zhd (fun W' (B:Below w12.heap.size w12 W')=>made_any b v12 _ _ W' (M12.ext B) nap2_sz (by decide))
 have H12B:=zhd BW12
 clear TK H12 hc12 hrel hcs dl dv M12 K12 K512 B512 BW12
 go_wp2_with fail
 refine WO.out.mono ?_
 rintro e w13 ⟨rfl,hB13⟩
 have hg13:g<w13.heap.size:=Nat.lt_of_lt_of_le hg hB13.size
 rw[←hB13.cell (p:=⟨g,_,none⟩) hg]at m0 m1 m2 m3 m4 m5 m6 m7 m8
 have H13:=zhd hB13
 clear hB13 WO hg
 go_wp2_with fail
 refine(PC.out _ H13.out).mono ?_
 rintro e w14 ⟨rfl,hB14⟩
 have H14:=zhd (H13.out.trans (hB14.mono H13.out.size))
 clear hB14 m0 m1 m2 m3 m4 m5 m6 m7 m8 hg13 PC
 go_wp2_with fail
 refine(TR.out _ H14.out).mono ?_
 rintro e w15 ⟨rfl,hB15⟩
 have H15:=zhd (H14.out.trans (hB15.mono H14.out.size))
 clear hB15 TR
 go_wp2_with fail
 refine(EV.out _ H15.out).mono ?_
 rintro e w16 ⟨rfl,hB16⟩
 have H16:=zhd (H15.out.trans (hB16.mono H15.out.size))
 clear hB16 EV
 go_wp2_with fail
 refine(MD.out _ H16.out).mono ?_
 rintro e w17 ⟨r17,rfl,H17⟩
 obtain⟨a17,c17,rfl⟩:∃a c,r17= .slice a 2 c:=H17.out.1.slice
 have HE:=zhd (H12B.out.trans ((H16.out.trans (H17.out.2.2.mono H16.out.size)).mono H12B.out.size))
 clear MD H17
 go_wp2_with fail
 go_ret
 exact⟨rfl,HE.out⟩
structure SmF (p:Img)(l:List Ev):Prop where
 code:p.code.length≤40
 len:l.length≤20
 consts:∀x∈p.consts,x.all (fun _ _ s=>s.size≤1100)
 evs:∀e∈l,e.v.all (fun _ _ s=>s.size≤1100)
def SmPost (p:Img)(l:List Ev)(w:World)(e:Ending)(w':World):Prop:=∃r:Bool,e= .returned (.bool r)∧Hid ((r=true→SmF p l)∧Below w.heap.size w w')
def Sm1 (w1:World)(b:Nat)(l:List Val)(gk:Nat)(v36:Value)(wr:World):Prop:=
 ∃(i:Nat) (cur:Int),v36= .int .i64 i∧i≤l.length∧gk=l.length - i∧LX wr b cur∧Keeps (fun j=>j=b) w1 wr∧0≤cur∧cur≤400∧∀x∈l.take i,x.all (fun _ _ s=>s.size≤1100)
def Sm2 (w1:World)(b:Nat)(l:List Ev)(gk:Nat)(v46:Value)(wr:World):Prop:=
 ∃(i:Nat) (cur:Int),v46= .int .i64 i∧i≤l.length∧gk=l.length - i∧LX wr b cur∧Keeps (fun j=>j=b) w1 wr∧0≤cur∧cur≤400∧∀e∈l.take i,e.v.all (fun _ _ s=>s.size≤1100)
end Go.Proofs.YtakljipkaoahnaaGreatDoor
namespace Go.Va
open Go.Own Go.RowKit
def rowI (k0:Nat):List Nat→List Bool→Option (List Bool)
 |[],t=>some t
 |x::r,t=>bif x==k0 then none else rowI k0 r (t.set x true)
def passI (code:List In)(k0:Nat):Nat→Nat→List Bool→Option (List Bool)
 |0,_,t=>some t
 |m+1,i,t=>bif (t.getD i false)&& !(restsAt code i)then(match rowI k0 (followAt code i) t with
   |none=>none
   |some t'=>passI code k0 m (i+1) t')else passI code k0 m (i+1) t
def roundN (code:List In)(k0:Nat):Nat→List Bool→Bool
 |0,_=>false
 |k+1,t=>match passI code k0 code.length 0 t with
  |none=>true
  |some t'=>roundN code k0 k t'
structure LeB (t t':List Bool):Prop where
 len:t'.length=t.length
 keep:∀j:Nat,t[j]? =some true→t'[j]? =some true
def pathF (code:List In):Nat→Nat→Nat
 |0,_=>1
 |f+1,k=>bif restsAt code k then 1 else(followAt code k).foldl (fun n x=>if x<code.length∧n<pathF code f x+1 then pathF code f x+1 else n) 1
end Go.Va
namespace Go.Proofs.YtakljipkaoahnaaGreatDoor
open Go.RowKit Go.Own Go.Own.MapTy Go.Va Go.Sort
open Go.Own.Cells (sz enc)
def pthR (code:List In)(k j:Nat):List Nat:=(List.range j).map (pathF code k)
def pthG (code:List In)(k:Nat)(n x:Nat):Nat:=if x<code.length∧n<pathF code k x+1 then pathF code k x+1 else n
structure LwM (p:Img)(fa:Fa)(N b:Nat)(v0:MV)(W0 wr:World)(v:MV)(s:MS)(j:Nat):Prop where
 mx:MX TT (fun q=>N≤q) wr b v p s
 kp:MK b v0 W0 v wr
 st:St p fa s
 ev:s.events≤j
def FuRel (p:Img)(fa:Fa)(N b n:Nat)(v0:MV)(W0:World)(gk:Nat)(v38:Value)(wr:World):Prop:=
 ∃(j:Nat) (v:MV) (s:MS),v38= .int .i64 j∧j≤n∧gk=n - j∧LwM p fa N b v0 W0 wr v s j
def MxRel (w6:World)(p:Img)(hs:List Int)(gk:Nat)(v63 v12:Value)(wr:World):Prop:=
 ∃i m:Nat,v63= .int .i64 i∧v12= .int .i64 m∧i≤hs.length∧gk=hs.length - i∧m≤600∧spanM p.code i (hs.drop i) m=spanM p.code 0 hs 0∧wr=w6
end Go.Proofs.YtakljipkaoahnaaGreatDoor
namespace Go
variable{H:Type} {enc:TypeId×Value→H}
theorem handed_both {a:Assume}{C:Checked}{os:Os}{f:FuncId}{fn:Func}{s:ChangeSpec}{conds:List PathCond}{apart fresh handsOn again:Bool}{X:World→Array Value→Prop}
  (hX:∀(w w':World) (args:Array Value),w.heap=w'.heap→X w args→X w' args)
  (own:ownKnob C.prog.godebug=none)(started:os.Started)(noInit:C.prog.inits.idxOf? f=none)(hfn:C.prog.funcs[f]? =some fn)
  (witness:∃(w:World) (tape:Tape) (i:Input),w.os=os∧(w.forCall tape i).Shaped C.prog∧i.vars=[]∧Input.okWide C.prog (w.forCall tape i) .any w.heap.size f i∧
    ((s.pre enc C.prog fn conds apart (w.forCall tape i).memory i.args∧X (w.forCall tape i).memory i.args)∧sizedMet enc C.prog fn (OpenSpec.ofChange s) apart (w.forCall tape i).memory i.args)∧a.holds C.prog (lone (Frame.enter C.prog f i.args .normal) [] (w.forCall tape i)))
  (contract:∀(W:World) (base:Nat) (args:Array Value) (ds gs:List (DataW H)) (before:List MemPlace),
    (∀(j:Nat) t v,fn.params[j]? =some t→args[j]? =some v→Value.okWide C.prog W .any base t v)→
    DataW.Whole enc C.prog fn.params.toList s.vars apart W args.toList ds gs before→X W args→W.ShapedOpen C.prog→
    Calls C.prog f args W fun e W'=>∃v,e= .returned v∧s.post enc C.prog fn apart fresh handsOn again W args v W'):
  ReturnsInHanded a C os f .any (fun w args=>(s.pre enc C.prog fn conds apart w args∧X w args)∧sizedMet enc C.prog fn (OpenSpec.ofChange s) apart w args) (s.post enc C.prog fn apart fresh handsOn again):=by
 refine returnsInHanded_of_calls own started noInit witness ?_
 intro w tape i _ hsh _ hok hpre _
 obtain⟨_,_,_,fn',hfn',_,_,_,_,hval⟩:=hok
 have e:fn'=fn:=Option.some.inj (hfn'.symm.trans hfn)
 subst e
 obtain⟨⟨⟨ds,gs,before,hw,hc⟩,hx⟩,hz⟩:=hpre
 have hw':=DataW.Whole.of_heap (w':=w.forCall tape i) (by rfl) hw
 refine(contract (w.forCall tape i) w.heap.size i.args ds gs before hval hw' (hX _ _ _ (by rfl) hx) hsh).mono fun e W' ⟨v,he,hp⟩=> ?_
 subst he
 exact ChangeSpec.post_blind hp
end Go
namespace Go.Proofs.YtakljipkaoahnaaGreatDoor
open Go.RowKit Go.Own Go.Own.MapTy Go.Va Go.Sort
theorem star: "*errors.errorString" = "*" ++ "errors.errorString" :=by kernel_rfl
theorem row_ptr (u:TypeId)(h:Tryz.prog.typeName? 3 u=some "*errors.errorString"):u=261:=
 typeName_ptr_named (nm:= "errors.errorString") (by rw[←star];kernel_rfl) (by kernel_rfl) (by decide) u (by rw[←star];exact h)
theorem gTab:Tryz.prog.globalNamed "internal/strconv.uint64pow10" =some 1:=by kernel_rfl
theorem gSyn:Tryz.prog.globalNamed "strconv.ErrSyntax" =some 4:=by kernel_rfl
theorem gRan:Tryz.prog.globalNamed "strconv.ErrRange" =some 5:=by kernel_rfl
theorem gl_max {W:World}(h:W.ShapedOpen Tryz.prog):∃m,W.cell? ⟨0,0,none⟩=some (.int .i64 m):=
 cell_of_shapedOpen_int (t:=3) (zero:=#[.int .i64 0]) h (of_decide_eq_true (by kernel_rfl)) (by kernel_rfl) (by kernel_rfl) (by kernel_rfl) (by kernel_rfl) (by kernel_rfl)
theorem var_lt {P:Program}{W:World}{s:String}{g:Nat}{cs:Array Value}(hg:P.globalNamed s=some g)(h:W.var? P s=some cs):g<W.heap.size:=by
 unfold World.var? at h
 rw[hg]at h
 by_cases hl:g<W.heap.size
 ·exact hl
 ·have:W.heap[g]? =none:=Array.getElem?_eq_none (by omega)
  simp[this]at h
theorem gl_of {W:World}(h:laidMetH Tryz.prog Rows.machineFuelRow.laid W)(hS:W.ShapedOpen Tryz.prog):Gl Tryz.prog 6 W:=by
 rw[MakeChecks.laidMetH_plain _ _ _ (by kernel_rfl)]at h
 have t2:=h.tail.tail
 have t4:=t2.tail.tail
 have t5:=t4.tail
 have hT:=Lib.tabIs_of_head (zs:=Lib.pow10Tab) (k:=.u64) (n:=20) gTab (t:=237) (by kernel_rfl) Tryz.underlying237 Tryz.underlying201 (by kernel_rfl) (by kernel_rfl) t2
 obtain⟨a5,s5,hv5,_⟩:=laid_sentinel (ti:=144) (tp:=261) (te:=263) (ts:=9) t4 gRan (by kernel_rfl) Tryz.underlying144 row_ptr Tryz.underlying261 Tryz.underlying263 rfl rfl Tryz.underlying9 (by kernel_rfl) (by kernel_rfl)
 obtain⟨a4,s4,hv4,_⟩:=laid_sentinel (ti:=144) (tp:=261) (te:=263) (ts:=9) t5 gSyn (by kernel_rfl) Tryz.underlying144 row_ptr Tryz.underlying261 Tryz.underlying263 rfl rfl Tryz.underlying9 (by kernel_rfl) (by kernel_rfl)
 exact⟨gl_max hS,⟨_,_,hv4⟩,⟨_,_,hv5⟩,hT,⟨4,5,1,gSyn,gRan,gTab,by decide,by decide,by decide⟩,by decide,by have:=var_lt gRan hv5;omega⟩
end Go.Proofs.YtakljipkaoahnaaGreatDoor
namespace Go.Va
open Go.Own Go.RowKit
open Go.Proofs.YtakljipkaoahnaaGreatDoor
def MS.hull (s:MS):MS:={s with now:=0,events:=0,steps:=0}
end Go.Va
namespace Go.Proofs.YtakljipkaoahnaaGreatDoor
open Go.RowKit Go.Own Go.Own.MapTy Go.Va Go.Sort
open Go.Own.Cells (sz enc)
def mkB (x:List UInt8):ByteArray:=⟨x.toArray⟩
def nopI:In:=⟨0,0⟩
def popI:In:=⟨2,0⟩
def nowI:In:=⟨16,0⟩
def failI:In:=⟨26,0⟩
end Go.Proofs.YtakljipkaoahnaaGreatDoor
namespace Go.Va
open Go.Own Go.RowKit
open Go.Proofs.YtakljipkaoahnaaGreatDoor
def push7B:List UInt8:=[32,32,112,117,115,104,32,55]
def push0B:List UInt8:=[32,32,112,117,115,104,32,48]
def timerB:List UInt8:=[32,32,116,105,109,101,114]
def callB:List UInt8:=[32,32,99,97,108,108,32,34,112,97,121,34]
def returnB:List UInt8:=[32,32,114,101,116,117,114,110]
def payN:ByteArray:=⟨#[112,97,121]⟩
def blkT (act:Bool):List (List UInt8):=bif act then[push7B,push0B,callB,popB]else[push7B,timerB,popB]
def blkI (act:Bool):List In:=bif act then[⟨1,0⟩,⟨1,1⟩,⟨20,0⟩,⟨2,0⟩]else[⟨1,0⟩,⟨17,0⟩,⟨2,0⟩]
def manyT (act:Bool)(n:Nat):List (List UInt8):=(List.replicate n (blkT act)).flatten++[nowB,returnB]
def manyK (act:Bool)(n:Nat):List Val:=if n=0 then[]else bif act then[vInt 7,vInt 0]else[vInt 7]
def manyN (act:Bool)(n:Nat):List ByteArray:=if n=0 then[]else bif act then[payN]else[]
def manyP (act:Bool)(n:Nat):Img:=⟨(List.replicate n (blkI act)).flatten++[⟨16,0⟩,⟨25,0⟩],manyK act n,manyN act n,0⟩
def manyS (act:Bool)(n:Nat):RSt:=⟨(List.replicate n (blkI act)).flatten,manyK act n,manyN act n,0,[],[]⟩
def bm (act:Bool):Nat:=bif act then 4 else 3
def bH (act:Bool)(i:Nat):Int:=bif act then(if i=0 then 0 else if i=2 then 2 else 1)else(if i=0 then 0 else 1)
def mH (act:Bool)(n j:Nat):Int:=if j<n*bm act then bH act (j%bm act)else(j:Int) - n*bm act
def mM (act:Bool)(n:Nat):Nat→Int
 |0=>0
 |j+1=>max (mM act n j) (mH act n (j+1))
structure Bk (act:Bool)(n k:Nat)(s:MS):Prop where
 at_:s.at_=k*bm act
 stk:s.stk=[]
 things:s.timers.list.length+s.acts.list.length=k
 over:s.over=false
 trap:s.trap=⟨#[]⟩
 made:s.made.length=k
def manyEv:Ev:=⟨1,3,1,0,0,⟨#[]⟩,⟨#[]⟩,vNil0⟩
end Go.Va
namespace Go.Proofs.YtakljipkaoahnaaGreatDoor
open Go.RowKit Go.Own Go.Own.MapTy Go.Va Go.Sort
open Go.Own.Cells (sz enc)
theorem cm_v {c:Cm}(h:cmCheck c=0):checkL c.v=0:=by
 unfold cmCheck at h
 split at h
 ·cases h
 ·split at h
  ·cases h
  ·split at h
   ·cases h
   ·split at h
    ·cases h
    ·exact h
theorem mds_sz {p:Img}{fa:Fa}{s:MS}(S:St p fa s):∀c∈s.made,szV c.v≤1073741824:=fun c hc=>by
 have h:=S.rk.vs.mds c hc
 have:=ok_sz (x:=c.v) ⟨cm_v h.1,h.2⟩
 omega
end Go.Proofs.YtakljipkaoahnaaGreatDoor
namespace Go.Va
open Go.Own Go.Own.MapTy Go.RowKit
open Go.Proofs.YtakljipkaoahnaaGreatDoor
def mOf:List Int→List (Int×Bool)
 |[]=>[]
 |c::r=>upd (mOf r) c true
end Go.Va
namespace Go.Proofs.YtakljipkaoahnaaGreatDoor
open Go.RowKit Go.Own Go.Own.MapTy Go.Va Go.Sort
open Go.Own.Cells (sz enc)
abbrev NM:MapTy Int Bool:=IM Bool Value.bool
def NvRel (p:Img)(fa:Fa)(N b n:Nat)(v0:MV)(W0:World)(gk:Nat)(v29:Value)(wr:World):Prop:=
 ∃(j:Nat) (v:MV) (s:MS),v29= .int .i64 j∧j≤n∧gk=n - j∧LwM p fa N b v0 W0 wr v s j∧Nm s
def NuRel (W6:World)(mb:Nat)(ms:List Cm)(gk:Nat)(v41 v9 v10:Value)(wr:World):Prop:=
 ∃k:Nat,v41= .int .i64 k∧v9= .int .i64 (ntL (ms.take k) nt0).t∧v10= .int .i64 (ntL (ms.take k) nt0).a∧k≤ms.length∧gk=ms.length - k∧MapAt NM wr mb (mOf (ntL (ms.take k) nt0).cs)∧Keeps (fun j=>j=mb) W6 wr
end Go.Proofs.YtakljipkaoahnaaGreatDoor
