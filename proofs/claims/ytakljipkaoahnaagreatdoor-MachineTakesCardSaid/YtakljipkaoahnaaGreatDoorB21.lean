/- Parts of the proof: what the functions and the plain laws give that later parts lean on. Conditions: none beyond those that each theorem names. -/
import Derived.Lib.IndexMore
import Derived.Test.YtakljipkaoahnaaGreatDoorB20
set_option maxRecDepth 100000
set_option maxHeartbeats 8000000
namespace Go.Proofs.YtakljipkaoahnaaGreatDoor
open Go.RowKit Go.Own Go.Own.MapTy Go.Va Go.Sort
open Go.Own.Cells (sz enc)
theorem mstep_any
  {Z:Nat→Prop}(b:Nat)(v:MV)(p:Img)(s:MS)(W:World)(M:MX TT Z W b v p s)(fa:Fa)(K:Known p fa)(P:Pk p)(RA:At fa s)(R:Rk p s)(hm:s.made.length≤4294967295)(hl:s.letters.length≤4294967296)(hZ:∀j,W.heap.size≤j→Z j):
  Calls Tryz.prog 104 #[.pointer (some ⟨b,0,none⟩)] W (SP Z W b v p s (stepM p s)):=by
 obtain⟨⟨op,a'⟩,hc,h0,h1,ha,hh,_,hmost⟩:=at_code K RA
 have ha:0≤a':=ha
 obtain⟨a,rfl⟩:∃a:Nat,a'=(a:Int):=⟨a'.toNat,by omega⟩
 have hst:s.stk.length≤32:=by have:=(K.low _ _ RA).2;omega
 have hcl:=(imgL_ok K.img).2.1
 have hlt:=(zge hc).1
 have B:Bd s:=⟨hst,hm,hl,R.opn,by omega⟩
 have BN:Bd s.nxt:=⟨hst,hm,hl,R.opn,by show s.at_+1≤513;omega⟩
 have hat:s.at_≤4294967296:=by omega
 have hk:s.stk.length≤4294967296:=by omega
 have h0:0≤op:=h0
 have h1:op<33:=h1
 rcases op_cases h0 h1 with rfl|rfl|rfl|rfl|rfl|rfl|rfl|rfl|rfl|rfl|rfl|rfl|rfl|rfl|rfl|rfl|rfl|rfl|rfl|rfl|rfl|rfl|rfl|rfl|rfl|rfl|rfl|rfl|rfl|rfl|rfl|rfl|rfl
 ·have e:stepM p s=some s.nxt:=by unfold stepM;rw[hc];rfl
  rw[e]
  exact step_x b v p s W M 0 a hc _ _ _ _ rfl hat hk _ (.inr (.inr (.inl ⟨rfl,rfl⟩)))
 ·obtain⟨x,hx⟩:=elem_at (l:=p.consts) (k:=a) (by have h:(a:Int)<(p.consts.length:Int):=hmost;omega)
  have hz:=ok_sz (P.consts x (zmg hx))
  have e:stepM p s=some (s.nxt.push (cloneV (p.consts[a]?.getD vNil0))):=by unfold stepM;rw[hc];rfl
  rw[e,hx]
  exact step_y b v p s W M 1 a hc _ _ _ _ rfl hat hk _ hZ (.inr (.inr (.inl ⟨rfl,a,x,rfl,hx,by omega,rfl⟩)))
 ·have e:stepM p s=some s.nxt.pop:=by unfold stepM;rw[hc];rfl
  rw[e]
  exact step_x b v p s W M 2 a hc _ _ _ _ rfl hat hk _ (.inr (.inl ⟨rfl,rfl⟩))
 ·have hz:=ok_sz R.vs.top
  have e:stepM p s=some (s.nxt.push (cloneV s.top)):=by unfold stepM;rw[hc];rfl
  rw[e]
  exact step_y b v p s W M 3 a hc _ _ _ _ rfl hat hk _ hZ (.inl ⟨rfl,by omega,rfl⟩)
 ·have e:stepM p s=some ((s.nxt.pop.pop.push s.nxt.top).push s.nxt.pop.top):=by unfold stepM;rw[hc];rfl
  rw[e]
  exact step_swap b v p s W M 4 a rfl hc _ _ _ _ rfl hat hk _ rfl (by have h:(2:Int)≤s.stk.length:=hh;omega)
 ·have e:stepM p s=some (s.nxt.reckon 5 a):=by unfold stepM;rw[hc];rfl
  rw[e]
  exact step_go b v p s W M 5 a hc _ _ _ _ rfl hat hk _ _ (.inr ⟨rfl,by decide⟩) (fun W' v' M' hs=>reckon5_all b v' p s.nxt W' M' a BN (hZ_step hZ hs))
 ·have e:stepM p s=some (s.nxt.reckon 6 a):=by unfold stepM;rw[hc];rfl
  rw[e]
  exact step_go b v p s W M 6 a hc _ _ _ _ rfl hat hk _ _ (.inr ⟨rfl,by decide⟩) (fun W' v' M' hs=>reckon6_all b v' p s.nxt W' M' a BN (hZ_step hZ hs))
 ·have e:stepM p s=some (s.nxt.reckon 7 a):=by unfold stepM;rw[hc];rfl
  rw[e]
  exact step_go b v p s W M 7 a hc _ _ _ _ rfl hat hk _ _ (.inr ⟨rfl,by decide⟩) (fun W' v' M' hs=>reckon7_all b v' p s.nxt W' M' a BN (hZ_step hZ hs))
 ·have e:stepM p s=some (s.nxt.reckon 8 a):=by unfold stepM;rw[hc];rfl
  rw[e]
  exact step_go b v p s W M 8 a hc _ _ _ _ rfl hat hk _ _ (.inr ⟨rfl,by decide⟩) (fun W' v' M' hs=>reckon8_all b v' p s.nxt W' M' a BN (hZ_step hZ hs))
 ·have e:stepM p s=some (s.nxt.reckon 9 a):=by unfold stepM;rw[hc];rfl
  rw[e]
  exact step_go b v p s W M 9 a hc _ _ _ _ rfl hat hk _ _ (.inr ⟨rfl,by decide⟩) (fun W' v' M' hs=>reckon9_all b v' p s.nxt W' M' a BN (hZ_step hZ hs))
 ·have e:stepM p s=some (s.nxt.reckon 10 a):=by unfold stepM;rw[hc];rfl
  rw[e]
  exact step_go b v p s W M 10 a hc _ _ _ _ rfl hat hk _ _ (.inr ⟨rfl,by decide⟩) (fun W' v' M' hs=>reckon10_all b v' p s.nxt W' M' a BN (hZ_step hZ hs))
 ·have e:stepM p s=some {s with at_:=a}:=by unfold stepM;rw[hc];rfl
  rw[e]
  exact step_jump b v p s W M a hc _ _ _ _ rfl _ rfl
 ·have e:stepM p s=some (bif trueV s.top then s.pop.nxt else{s.pop with at_:=a}):=by unfold stepM;rw[hc];rfl
  rw[e]
  exact step_branch b v p s W M 12 rfl a hc _ _ _ _ rfl hat _ rfl
 ·obtain⟨x,hx⟩:=elem_at (l:=s.places) (k:=a) (by have h:(a:Int)<p.places:=hmost;have:=R.pls;omega)
  have hz:=ok_sz (R.vs.pls x (zmg hx))
  have e:stepM p s=some (s.nxt.push (cloneV (s.places[a]?.getD vNil0))):=by unfold stepM;rw[hc];rfl
  rw[e,hx]
  exact step_y b v p s W M 13 a hc _ _ _ _ rfl hat hk _ hZ (.inr (.inr (.inr ⟨rfl,a,x,rfl,hx,by omega,rfl⟩)))
 ·obtain⟨x,hx⟩:=elem_at (l:=s.places) (k:=a) (by have h:(a:Int)<p.places:=hmost;have:=R.pls;omega)
  have e:stepM p s=some {s.nxt.pop with places:=s.places.set a s.top}:=by unfold stepM;rw[hc];rfl
  rw[e]
  exact step_store b v p s W M 14 a rfl hc _ _ _ _ rfl hat hk _ a x rfl hx rfl
 ·have hz:=ok_sz R.vs.inp
  have e:stepM p s=some (s.nxt.push (cloneV s.input)):=by unfold stepM;rw[hc];rfl
  rw[e]
  exact step_y b v p s W M 15 a hc _ _ _ _ rfl hat hk _ hZ (.inr (.inl ⟨rfl,by omega,rfl⟩))
 ·have e:stepM p s=some (s.nxt.push (vInt s.now)):=by unfold stepM;rw[hc];rfl
  rw[e]
  exact step_x b v p s W M 16 a hc _ _ _ _ rfl hat hk _ (.inl ⟨rfl,rfl⟩)
 ·have e:stepM p s=some (s.nxt.begin_ 17 (p.names[a]?.getD ⟨#[]⟩)):=by unfold stepM;rw[hc];rfl
  rw[e]
  exact step_go b v p s W M 17 a hc _ _ _ _ rfl hat hk _ _ (.inl ⟨rfl,by decide⟩) (fun W' v' M' hs=>begin17_all b v' p s.nxt W' M' a _ BN (hZ_step hZ hs) R.vs.nxt)
 ·have e:stepM p s=s.wait 18 (p.names[a]?.getD ⟨#[]⟩):=by unfold stepM;rw[hc];rfl
  rw[e]
  have HW:∀(W':World) (v':MV),MX TT Z W' b v' p s→W.heap.size≤W'.heap.size→Calls Tryz.prog 133 #[.pointer (some ⟨b,0,none⟩),.agg #[.int .i64 18,.int .i64 a]] W' (SP Z W' b v' p s (s.wait 18 (p.names[a]?.getD ⟨#[]⟩))):=fun W' v' M' hs=>wait18_all b v' p s W' M' a _ B (hZ_step hZ hs)
  cases hw:s.wait 18 (p.names[a]?.getD ⟨#[]⟩)with
  |none=>rw[hw]at HW;exact step_wait b v p s W M 18 a hc _ _ _ _ _ _ rfl false s HW
  |some s'=>rw[hw]at HW;exact step_wait b v p s W M 18 a hc _ _ _ _ _ _ rfl true s' HW
 ·have e:stepM p s=some (s.nxt.begin_ 19 (p.names[a]?.getD ⟨#[]⟩)):=by unfold stepM;rw[hc];rfl
  rw[e]
  exact step_go b v p s W M 19 a hc _ _ _ _ rfl hat hk _ _ (.inl ⟨rfl,by decide⟩) (fun W' v' M' hs=>begin19_all b v' p s.nxt W' M' a _ BN (hZ_step hZ hs) R.vs.nxt)
 ·obtain⟨nm,hnm⟩:=elem_at (l:=p.names) (k:=a) (by have h:(a:Int)<(p.names.length:Int):=hmost;omega)
  have e:stepM p s=some (s.nxt.begin_ 20 (p.names[a]?.getD ⟨#[]⟩)):=by unfold stepM;rw[hc];rfl
  rw[e,hnm]
  exact step_go b v p s W M 20 a hc _ _ _ _ rfl hat hk _ _ (.inl ⟨rfl,by decide⟩) (fun W' v' M' hs=>begin20_all b v' p s.nxt W' M' a nm BN (hZ_step hZ hs) hnm R.vs.nxt)
 ·have e:stepM p s=s.wait 21 (p.names[a]?.getD ⟨#[]⟩):=by unfold stepM;rw[hc];rfl
  rw[e]
  have HW:∀(W':World) (v':MV),MX TT Z W' b v' p s→W.heap.size≤W'.heap.size→Calls Tryz.prog 133 #[.pointer (some ⟨b,0,none⟩),.agg #[.int .i64 21,.int .i64 a]] W' (SP Z W' b v' p s (s.wait 21 (p.names[a]?.getD ⟨#[]⟩))):=fun W' v' M' hs=>wait21_all b v' p s W' M' a _ B (hZ_step hZ hs)
  cases hw:s.wait 21 (p.names[a]?.getD ⟨#[]⟩)with
  |none=>rw[hw]at HW;exact step_wait b v p s W M 21 a hc _ _ _ _ _ _ rfl false s HW
  |some s'=>rw[hw]at HW;exact step_wait b v p s W M 21 a hc _ _ _ _ _ _ rfl true s' HW
 ·obtain⟨nm,hnm⟩:=elem_at (l:=p.names) (k:=a) (by have h:(a:Int)<(p.names.length:Int):=hmost;omega)
  have e:stepM p s=s.wait 22 (p.names[a]?.getD ⟨#[]⟩):=by unfold stepM;rw[hc];rfl
  rw[e,hnm]
  simp only[Option.getD_some]
  have HW:∀(W':World) (v':MV),MX TT Z W' b v' p s→W.heap.size≤W'.heap.size→Calls Tryz.prog 133 #[.pointer (some ⟨b,0,none⟩),.agg #[.int .i64 22,.int .i64 a]] W' (SP Z W' b v' p s (s.wait 22 nm)):=fun W' v' M' hs=>wait22_all b v' p s W' M' a nm B (hZ_step hZ hs) hnm
  cases hw:s.wait 22 nm with
  |none=>rw[hw]at HW;exact step_wait b v p s W M 22 a hc _ _ _ _ _ _ rfl false s HW
  |some s'=>rw[hw]at HW;exact step_wait b v p s W M 22 a hc _ _ _ _ _ _ rfl true s' HW
 ·obtain⟨nm,hnm⟩:=elem_at (l:=p.names) (k:=a) (by have h:(a:Int)<(p.names.length:Int):=hmost;omega)
  have e:stepM p s=some (match findLt (p.names[a]?.getD ⟨#[]⟩) s.letters with|some i=>((s.nxt.openL i).push (s.letV i)).push (vBool true)|none=>(s.nxt.push vNil0).push (vBool false)):=by unfold stepM;rw[hc];rfl
  rw[e,hnm]
  simp only[Option.getD_some]
  cases hf:findLt nm s.letters with
  |none=>exact step_poll_none b v p s W M 23 a rfl hc _ _ _ _ rfl hat hk _ a nm rfl hnm hf (by omega) rfl
  |some i=>exact step_poll b v p s W M 23 a rfl hc _ _ _ _ rfl hat hk hZ _ a nm rfl hnm i hf hl (by omega) rfl
 ·have e:stepM p s=some (s.nxt.push (vBool s.asked)):=by unfold stepM;rw[hc];rfl
  rw[e]
  exact step_x b v p s W M 24 a hc _ _ _ _ rfl hat hk _ (.inr (.inr (.inr ⟨rfl,rfl⟩)))
 ·have hz:=ok_sz R.vs.top
  have e:stepM p s=some (s.pop.want ⟨4,0,0,0,⟨#[]⟩,s.top⟩):=by unfold stepM;rw[hc];rfl
  rw[e]
  exact step_end b v p s W M 25 a hc _ _ _ _ _ rfl _ (fun W' v' M' hs=>end_pop25 b v' p s W' M' a (by omega) (hZ_step hZ hs) (by omega) _ rfl)
 ·obtain⟨nm,hnm⟩:=elem_at (l:=p.names) (k:=a) (by have h:(a:Int)<(p.names.length:Int):=hmost;omega)
  have e:stepM p s=some (s.want ⟨5,0,0,0,p.names[a]?.getD ⟨#[]⟩,vNil0⟩):=by unfold stepM;rw[hc];rfl
  rw[e,hnm]
  exact step_end b v p s W M 26 a hc _ _ _ _ _ rfl _ (fun W' v' M' hs=>end_fail b v' p s W' M' 26 rfl rfl a nm hnm (by omega) (hZ_step hZ hs) _ rfl)
 ·have hz:=ok_sz R.vs.top
  have e:stepM p s=some (s.pop.want ⟨6,0,0,0,⟨#[]⟩,s.top⟩):=by unfold stepM;rw[hc];rfl
  rw[e]
  exact step_end b v p s W M 27 a hc _ _ _ _ _ rfl _ (fun W' v' M' hs=>end_pop27 b v' p s W' M' a (by omega) (hZ_step hZ hs) (by omega) _ rfl)
 ·obtain⟨nm,hnm⟩:=elem_at (l:=p.names) (k:=a) (by have h:(a:Int)<(p.names.length:Int):=hmost;omega)
  have e:stepM p s=s.wait 28 (p.names[a]?.getD ⟨#[]⟩):=by unfold stepM;rw[hc];rfl
  rw[e,hnm]
  simp only[Option.getD_some]
  have HW:∀(W':World) (v':MV),MX TT Z W' b v' p s→W.heap.size≤W'.heap.size→Calls Tryz.prog 133 #[.pointer (some ⟨b,0,none⟩),.agg #[.int .i64 28,.int .i64 a]] W' (SP Z W' b v' p s (s.wait 28 nm)):=fun W' v' M' hs=>wait28_all b v' p s W' M' a nm B (hZ_step hZ hs) hnm
  cases hw:s.wait 28 nm with
  |none=>rw[hw]at HW;exact step_wait b v p s W M 28 a hc _ _ _ _ _ _ rfl false s HW
  |some s'=>rw[hw]at HW;exact step_wait b v p s W M 28 a hc _ _ _ _ _ _ rfl true s' HW
 ·have e:stepM p s=some (s.nxt.reckon 29 a):=by unfold stepM;rw[hc];rfl
  rw[e]
  exact step_go b v p s W M 29 a hc _ _ _ _ rfl hat hk _ _ (.inr ⟨rfl,by decide⟩) (fun W' v' M' hs=>reckon29_all b v' p s.nxt W' M' a BN (hZ_step hZ hs) (by have h:(a:Int)≤s.stk.length:=hh;show a≤s.stk.length;omega) R.vs.nxt)
 ·have e:stepM p s=some (s.nxt.reckon 30 a):=by unfold stepM;rw[hc];rfl
  rw[e]
  exact step_go b v p s W M 30 a hc _ _ _ _ rfl hat hk _ _ (.inr ⟨rfl,by decide⟩) (fun W' v' M' hs=>reckon30_all b v' p s.nxt W' M' a BN (hZ_step hZ hs) R.vs.nxt)
 ·have e:stepM p s=some (s.nxt.reckon 31 a):=by unfold stepM;rw[hc];rfl
  rw[e]
  exact step_go b v p s W M 31 a hc _ _ _ _ rfl hat hk _ _ (.inr ⟨rfl,by decide⟩) (fun W' v' M' hs=>reckon31_all b v' p s.nxt W' M' a BN (hZ_step hZ hs))
 ·have e:stepM p s=some (s.nxt.reckon 32 a):=by unfold stepM;rw[hc];rfl
  rw[e]
  exact step_go b v p s W M 32 a hc _ _ _ _ rfl hat hk _ _ (.inr ⟨rfl,by decide⟩) (fun W' v' M' hs=>reckon32_all b v' p s.nxt W' M' a BN (hZ_step hZ hs) R.vs.nxt)
def RunRel (Z:Nat→Prop)(b:Nat)(v:MV)(p:Img)(fa:Fa)(r:MS)(W:World)(gk:Nat)(wr:World):Prop:=
 ∃(v':MV) (s':MS),MX TT Z wr b v' p s'∧MK b v W v' wr∧Rk p s'∧(s'.over=false→At fa s'∧meas p fa s'≤gk)∧runM p gk s'=r∧s'.made.length+gk≤4000000000∧s'.letters.length≤4294967296∧s'.steps+gk≤4000000000
theorem runM_over {p:Img}{s:MS}(h:s.over=true):∀f,runM p f s=s
 |0=>rfl
 |f+1=>by rw[runM,h];rfl
theorem run_any
  {Z:Nat→Prop}(b:Nat)(v:MV)(p:Img)(s:MS)(W:World)(M:MX TT Z W b v p s)(fa:Fa)(K:Known p fa)(P:Pk p)(R:Rk p s)(f:Nat)(hA:s.over=false→At fa s∧meas p fa s≤f)(hm:s.made.length+f≤4000000000)(hl:s.letters.length≤4294967296)(hs:s.steps+f≤4000000000)(hZ:∀j,W.heap.size≤j→Z j)(r:MS)(hr:runM p f s=r):
  Calls Tryz.prog 60 #[.pointer (some ⟨b,0,none⟩)] W (MP Z W b v p (.tuple #[]) r):=by
 have HX:=zh7 M R hA hr hm hl hs
 clear M R hA hr hm hl hs
 go_enter Tryz.func60,Tryz.ntmps60
 go_wp2_with fail
 go_loopg [] f (fun gk wr=>RunRel Z b v p fa r W gk wr)
 case atStart=>exact⟨v,s,HX.out.1,MK.refl _ _ _,HX.out.2.1,HX.out.2.2.1,HX.out.2.2.2.1,HX.out.2.2.2.2.1,HX.out.2.2.2.2.2.1,HX.out.2.2.2.2.2.2⟩
 case round=>
  obtain⟨v',s',M',K',R',hA,hr,hmd,hlt,hst⟩:=hrel
  have c19:wr.cell? ⟨b,19,none⟩=some (.bool s'.over):=M'.cell (k:=19) rfl
  have bl:=zlt M'.h
  cases ho:s'.over with
  |true=>
   rw[ho]at c19
   have HE:=zh3 (show s'=r by rw[←hr,runM_over ho]) M' K'
   clear hA hr hmd hlt hst ho M' K' R'
   go_wp2_with fail
   go_end0
   exact⟨v',rfl,zhd ⟨by rw[←HE.out.1];exact HE.out.2.1,HE.out.2.2⟩⟩
  |false=>
   rw[ho]at c19
   obtain⟨hA1,hme⟩:=hA ho
   have hpos:=meas_pos K hA1
   obtain⟨f',rfl⟩:∃f',gk=f'+1:=⟨gk - 1,by omega⟩
   have SA:=zhd (mstep_any b v' p s' wr M' fa K P hA1 R' (by omega) hlt (hZ_step hZ K'.keeps.size))
   cases hsm:stepM p s' with
   |none=>
    rw[hsm]at SA
    have HE:=zh2 (show s'=r by rw[←hr,runM,ho,hsm];rfl) K'
    clear hA hA1 hme hpos hr hmd hlt hst ho M' K' R' hsm
    go_wp2_with fail
    refine SA.out.mono ?_
    rintro e w4 ⟨v4,rfl,H4⟩
    go_wp2_with fail
    go_end0
    exact⟨v4,rfl,zhd ⟨by rw[←HE.out.1];exact H4.out.1,HE.out.2.trans H4.out.2⟩⟩
   |some s2=>
    rw[hsm]at SA
    have hfr:=(step_frame hsm).steps
    have hms:=step_meas K hA1 hsm
    obtain⟨l,hl1,hl2,_⟩:=MdR.step hsm
    have hl3:=(LmR.step hsm).2
    have hR2:Rk p {s2 with steps:=s2.steps+1}:=(R'.step P (by omega) hsm).steps _
    have hlm:s2.made.length≤s'.made.length+1:=by rw[hl1,List.length_append];omega
    have hr2:runM p f' {s2 with steps:=s2.steps+1}=r:=by rw[←hr,runM,ho,hsm];rfl
    have hA2:s2.over=false→At fa {s2 with steps:=s2.steps+1}∧meas p fa {s2 with steps:=s2.steps+1}≤f':=fun e=>by
     rcases hms with h|⟨h,h2⟩
     ·rw[h]at e;cases e
     ·exact⟨h,by show meas p fa s2≤f';omega⟩
    have hsb:s2.steps≤4000000000:=by omega
    have HA:=zh7 K' hR2 hA2 hr2 (show s2.made.length+f'≤4000000000 by omega) (show s2.letters.length≤4294967296 by omega) (show s2.steps+1+f'≤4000000000 by omega)
    clear hA hA1 hme hpos hr hmd hlt hst ho M' K' R' hsm hfr hms hl1 hl2 hl3 hR2 hlm hr2 hA2
    have atw:wrap64 ((s2.steps:Int)+1)=(s2.steps:Int)+1:=by unfold wrap64;omega
    go_wp2_with fail
    refine SA.out.mono ?_
    rintro e w4 ⟨v4,rfl,H4⟩
    have c24:w4.cell? ⟨b,24,none⟩=some (.int .i64 (s2.steps:Int)):=H4.out.1.cell (k:=24) rfl
    have f0:∀o,w4.frozen? ⟨b,o,none⟩=false:=fun o=>H4.out.1.frozen o
    have b4:=zlt H4.out.1.h
    have SN:=zhd (H4.out.1.scalar 24 (.int .i64 ((s2.steps:Int)+1)) {s2 with steps:=s2.steps+1} rfl rfl rfl rfl rfl rfl rfl rfl)
    go_wp2_with fail
    go_roundg f'
    case measure=>omega
    case rel=>exact⟨v4,{s2 with steps:=s2.steps+1},SN.out.1,HA.out.1.trans (H4.out.2.trans SN.out.2),HA.out.2.1,HA.out.2.2.1,HA.out.2.2.2.1,HA.out.2.2.2.2.1,HA.out.2.2.2.2.2.1,HA.out.2.2.2.2.2.2⟩
theorem endTms_any
  {Z:Nat→Prop}(b:Nat)(v:MV)(p:Img)(s:MS)(W:World)(M:MX TT Z W b v p s)
  (id how:Int)(y:Val)(ck cn:Int)(cs:ByteArray)(la:Option Addr)(ln lc:Nat)(F:Nat→Prop)(C:CF F W ⟨ck,cn,cs,la,ln,lc⟩ y)(hz:szV y≤1073741824)(hl:s.timers.list.length≤4294967296)(hZ:∀j,W.heap.size≤j→Z j)(s':MS)(hs':s'={s with timers:=⟨endT id how y s.timers.list,s.timers.next⟩}):
  Calls Tryz.prog 58 #[.pointer (some ⟨b,12,none⟩),.int .i64 id,.int .i64 how,.agg #[.int .i64 ck,.int .i64 cn,.string cs,.slice la ln lc]] W (MP Z W b v p (.tuple #[]) s'):=by
 obtain⟨ss,ic,ps,inp,ts,as_,ls,ms⟩:=v
 obtain⟨a,cap,rfl⟩:∃a cap,ts= .slice a s.timers.list.length cap:=M.tms.slice
 have b0:=zlt M.h
 obtain⟨w0,hw0⟩:∃w0,w0=W.alloc (.cells #[.int .i64 ck,.int .i64 cn,.string cs,.slice la ln lc] 39):=⟨_,rfl⟩
 have B0:=zba hw0
 have hB:=zha hw0
 have q0:=zca hB 0 rfl
 have q1:=zca hB 1 rfl
 have q2:=zca hB 2 rfl
 have q3:=zca hB 3 rfl
 have lr:W.heap.size<w0.heap.size:=zlt hB
 have b1:b<w0.heap.size:=by omega
 have M0:=M.ext B0
 have c0:w0.cell? ⟨b,12,none⟩=some (.slice a s.timers.list.length cap):=M0.cell (k:=12) rfl
 have FI:=zhd (fun r hr=>find_any b 12 id s.timers.list a cap _ w0 c0 M0.tms b1 r hr)
 obtain⟨ks,hR,hP⟩:=M0.tms.cells
 have HX:=zh8 M B0 M0 hR hP C hZ hB
 clear hB M0 M B0 hR hP C hZ
 cases hf:findT id s.timers.list with
 |none=>
  have hE:s'=s:=by rw[hs',endT_none hf]
  have F1:=zhd (FI.out (-1) (by unfold findI;rw[hf]))
  clear hs' FI hf
  go_enter Tryz.func58,Tryz.ntmps58
  go_wp2_with fail
  rw[←hw0]
  clear hw0
  refine F1.out.mono ?_
  rintro e w1 ⟨rfl,hw⟩
  rw[hw]
  clear hw w1
  go_wp2_with fail
  go_end0
  exact⟨_,rfl,zhd (by rw[hE];exact⟨HX.out.2.2.1,MK.ext HX.out.2.1⟩)⟩
 |some i=>
  have F1:=zhd (FI.out (i:Int) (by unfold findI;rw[hf]))
  obtain⟨x,hx⟩:∃x,s.timers.list[i]? =some x:=by
   have:∀(l:List Th) (i:Nat),findT id l=some i→∃x,l[i]? =some x:=by
    intro l
    induction l with
    |nil=>intro i h;cases h
    |cons y r ih=>
     intro i h
     rw[findT]at h
     split at h
     ·cases h;exact⟨y,rfl⟩
     ·cases h2:findT id r with
      |none=>rw[h2]at h;cases h
      |some j=>rw[h2]at h;cases h;obtain⟨x,hx⟩:=ih j h2;exact⟨x,by simpa using hx⟩
   exact this _ _ hf
  obtain⟨⟨tid,tov,⟨vk,vn,vs,va,vl,vc⟩,thow⟩,hc,hC⟩:=HX.out.2.2.2.2.1.get hx
  obtain⟨g,off,rfl,hg⟩:=HX.out.2.2.2.1.addr hc
  have cc:=fun(j:Nat) (hj:j<7)=>HX.out.2.2.2.1.cell hc (j:=j) hj
  have hov:tov=x.over:=hC.over
  have hid:tid=x.id:=hC.id
  have hix:(i:Int)<s.timers.list.length:=by have:=(zge hx).1;omega
  have m1:w0.cell? ⟨g,off+i*7+1,none⟩=some (.bool x.over):=by rw[Nat.add_assoc,←hov];exact cc 1 (by decide)
  have hend:=endT_at (how:=how) (v:=y) hf hx
  have HS:=zh5 hs' hend hc hid hl
  have hi0:decide ((0:Int)≤(i:Int))=true:=decide_eq_true (by omega)
  cases ho:x.over with
  |true=>
   rw[ho]at m1
   have hE:s'=s:=by rw[HS.out.1,HS.out.2.1,ho];rfl
   clear hs' FI hf hend cc hC hc hx hov hid hl ho
   go_enter Tryz.func58,Tryz.ntmps58
   go_wp2_with fail
   rw[←hw0]
   clear hw0
   refine F1.out.mono ?_
   rintro e w1 ⟨rfl,hw⟩
   rw[hw]
   clear hw w1
   go_wp2_with fail
   go_end0
   exact⟨_,rfl,zhd (by rw[hE];exact⟨HX.out.2.2.1,MK.ext HX.out.2.1⟩)⟩
  |false=>
   rw[ho]at m1
   have CL:=zhd (clone_any y ck cn cs la ln lc F w0.drew (HX.out.2.2.2.2.2.1.keep (S:=fun _=>False) (zkb (HX.out.2.1.drew)) (fun _ _ f=>f)) hz)
   have hE:s'={s with timers:=⟨s.timers.list.set i ⟨x.id,true,cloneV y,how⟩,s.timers.next⟩}:=by rw[HS.out.1,HS.out.2.1,ho];rfl
   have HE:=zhd hE
   have nb:¬g=b:=fun e=>absurd (HX.out.1.sep 3 0 g rfl (by rw[e];rfl)) (by decide)
   have HC:=zh2 cc nb
   clear hs' FI hf hend cc hC hc hx hov hid hl ho hE
   go_enter Tryz.func58,Tryz.ntmps58
   go_wp2_with fail
   rw[←hw0]
   clear hw0
   refine F1.out.mono ?_
   rintro e w1 ⟨rfl,hw⟩
   rw[hw]
   clear hw w1
   go_wp2_with fail
   have c0d:w0.drew.cell? ⟨b,12,none⟩=some (.slice (some ⟨g,off,none⟩) s.timers.list.length cap):=c0
   have q0d:w0.drew.cell? ⟨W.heap.size,0,none⟩=some (.int .i64 ck):=q0
   have q1d:w0.drew.cell? ⟨W.heap.size,1,none⟩=some (.int .i64 cn):=q1
   have q2d:w0.drew.cell? ⟨W.heap.size,2,none⟩=some (.string cs):=q2
   have q3d:w0.drew.cell? ⟨W.heap.size,3,none⟩=some (.slice la ln lc):=q3
   have nb1:¬g=b:=HC.out.2
   have nb2:¬b=g:=fun e=>HC.out.2 e.symm
   have hgW:g<W.heap.size:=HX.out.1.tms.lt (g:=g) rfl
   have nb3:¬g=W.heap.size:=by omega
   have nb4:¬W.heap.size=g:=by omega
   go_region_held3 (fun W1=>W1.cell? ⟨b,12,none⟩=some (.slice (some ⟨g,off,none⟩) s.timers.list.length cap)∧W1.cell? ⟨W.heap.size,0,none⟩=some (.int .i64 ck)∧W1.cell? ⟨W.heap.size,1,none⟩=some (.int .i64 cn)∧W1.cell? ⟨W.heap.size,2,none⟩=some (.string cs)∧W1.cell? ⟨W.heap.size,3,none⟩=some (.slice la ln lc)) (first|with_reducible exact⟨c0d,q0d,q1d,q2d,q3d⟩|with_reducible exact⟨d1,p0,p1,p2,p3⟩|go_keep|go_simp|(refine⟨?_,?_,?_,?_,?_⟩<;>go_simp)) ((go_at_call 57;refine CL.out.mono ?_;rintro e w5 ⟨⟨k8,n8,s8,la8,ln8,lc8⟩,rfl,hC8⟩;have B5:Below w0.heap.size w0 w5:=Below.trans ((Below.refl w0.heap.size w0).drew) hC8.out.2;have R5:=HX.out.2.2.2.1.below B5;have H5:=zh3 hC8.out.1 B5 R5;have cc:=(fun(j:Nat) (hj:j<7)=>R5.cell HS.out.2.2.1 (j:=j) hj);have e1:w5.cell? ⟨g,off+i*7+1,none⟩=some (.bool tov):=(by rw[Nat.add_assoc];exact cc 1 (by decide));have e2:w5.cell? ⟨g,off+i*7+2,none⟩=some (.int .i64 vk):=(by rw[Nat.add_assoc];exact cc 2 (by decide));have e3:w5.cell? ⟨g,off+i*7+3,none⟩=some (.int .i64 vn):=(by rw[Nat.add_assoc];exact cc 3 (by decide));have e4:w5.cell? ⟨g,off+i*7+4,none⟩=some (.string vs):=(by rw[Nat.add_assoc];exact cc 4 (by decide));have e5:w5.cell? ⟨g,off+i*7+5,none⟩=some (.slice va vl vc):=(by rw[Nat.add_assoc];exact cc 5 (by decide));have e6:w5.cell? ⟨g,off+i*7+6,none⟩=some (.int .i64 thow):=(by rw[Nat.add_assoc];exact cc 6 (by decide));have ef:∀o,w5.frozen? ⟨g,o,none⟩=false:=(fun o=>R5.frozen o);have el:g<w5.heap.size:=Nat.lt_of_lt_of_le hg B5.size;have d1:w5.cell? ⟨b,12,none⟩=some (.slice (some ⟨g,off,none⟩) s.timers.list.length cap):=((B5.cell (p:=⟨b,12,none⟩) b1).trans c0);have p0:=(B5.cell (p:=⟨W.heap.size,0,none⟩) lr).trans q0;have p1:=(B5.cell (p:=⟨W.heap.size,1,none⟩) lr).trans q1;have p2:=(B5.cell (p:=⟨W.heap.size,2,none⟩) lr).trans q2;have p3:=(B5.cell (p:=⟨W.heap.size,3,none⟩) lr).trans q3;clear hC8 B5 R5 cc))
   all_goals
    obtain⟨w6,hw6⟩:∃w6,w6=((((((w5.setCell ⟨g,off+i*7+1,none⟩ (.bool true)).setCell ⟨g,off+i*7+6,none⟩ (.int .i64 how)).setCell ⟨g,off+i*7+2,none⟩ (.int .i64 k8)).setCell ⟨g,off+i*7+3,none⟩ (.int .i64 n8)).setCell ⟨g,off+i*7+4,none⟩ (.string s8)).setCell ⟨g,off+i*7+5,none⟩ (.slice la8 ln8 lc8)):=⟨_,rfl⟩
    rw[←hw6]
    have K6:Keeps (fun j=>j=g) w5 w6:=by rw[hw6];exact six_keep _ _ _ _ _ _ _ _ _ _ _ _ _ _
    have R6:RowAt w6 180 (.slice (some ⟨g,off,none⟩) s.timers.list.length cap) (ks.set i ⟨tid,true,⟨k8,n8,s8,la8,ln8,lc8⟩,how⟩):=by rw[hw6];exact thing_over H5.out.2.2 HS.out.2.2.1 how ⟨k8,n8,s8,la8,ln8,lc8⟩
    have M5:=HX.out.2.2.1.ext H5.out.2.1
    have C5:CF (MZ Z ⟨ss,ic,ps,inp,.slice (some ⟨g,off,none⟩) s.timers.list.length cap,as_,ls,ms⟩ b) w5 ⟨k8,n8,s8,la8,ln8,lc8⟩ (cloneV y):=H5.out.1.mono (fun j hj _=>by
     have hj:w0.heap.size≤j:=hj
     exact⟨fun e=>by have:=HX.out.1.lt e;omega,HX.out.2.2.2.2.2.2.1 j (by omega)⟩)
    have P5:=(HX.out.2.2.2.2.1.keep (S:=fun _=>False) (zkb H5.out.2.1) (fun _ _ f=>f)).set i (c:=⟨tid,true,⟨k8,n8,s8,la8,ln8,lc8⟩,how⟩) (x:=⟨x.id,true,cloneV y,how⟩) ⟨HS.out.2.2.2.1,rfl,C5,rfl⟩
    have S:=M5.putTms (v1:=.slice (some ⟨g,off,none⟩) s.timers.list.length cap) s' R6 P5 (K6.mono (fun j _ e=>by rw[e];rfl)) (fun g hg=>.inl hg) HE.out
    have hself:w6.setCell ⟨b,12,none⟩ (.slice (some ⟨g,off,none⟩) s.timers.list.length cap)=w6:=setCell_self ((K6.cell (p:=⟨b,12,none⟩) (zlt M5.h) (fun e=>HC.out.2 e.symm)).trans d1)
    rw[hself]at S
    have HT:=zh2 S.1 ((MK.ext (HX.out.2.1.trans (H5.out.2.1.mono HX.out.2.1.size))).trans S.2)
    clear S hself P5 C5 M5 R6 K6 hw6 e1 e2 e3 e4 e5 e6 ef el d1
    go_wp2_with fail
    go_end0
    exact⟨_,rfl,zhd HT.out⟩
theorem endAcs_any
  {Z:Nat→Prop}(b:Nat)(v:MV)(p:Img)(s:MS)(W:World)(M:MX TT Z W b v p s)
  (id how:Int)(y:Val)(ck cn:Int)(cs:ByteArray)(la:Option Addr)(ln lc:Nat)(F:Nat→Prop)(C:CF F W ⟨ck,cn,cs,la,ln,lc⟩ y)(hz:szV y≤1073741824)(hl:s.acts.list.length≤4294967296)(hZ:∀j,W.heap.size≤j→Z j)(s':MS)(hs':s'={s with acts:=⟨endT id how y s.acts.list,s.acts.next⟩}):
  Calls Tryz.prog 58 #[.pointer (some ⟨b,14,none⟩),.int .i64 id,.int .i64 how,.agg #[.int .i64 ck,.int .i64 cn,.string cs,.slice la ln lc]] W (MP Z W b v p (.tuple #[]) s'):=by
 obtain⟨ss,ic,ps,inp,ts,as_,ls,ms⟩:=v
 obtain⟨a,cap,rfl⟩:∃a cap,as_= .slice a s.acts.list.length cap:=M.acs.slice
 have b0:=zlt M.h
 obtain⟨w0,hw0⟩:∃w0,w0=W.alloc (.cells #[.int .i64 ck,.int .i64 cn,.string cs,.slice la ln lc] 39):=⟨_,rfl⟩
 have B0:=zba hw0
 have hB:=zha hw0
 have q0:=zca hB 0 rfl
 have q1:=zca hB 1 rfl
 have q2:=zca hB 2 rfl
 have q3:=zca hB 3 rfl
 have lr:W.heap.size<w0.heap.size:=zlt hB
 have b1:b<w0.heap.size:=by omega
 have M0:=M.ext B0
 have c0:w0.cell? ⟨b,14,none⟩=some (.slice a s.acts.list.length cap):=M0.cell (k:=14) rfl
 have FI:=zhd (fun r hr=>find_any b 14 id s.acts.list a cap _ w0 c0 M0.acs b1 r hr)
 obtain⟨ks,hR,hP⟩:=M0.acs.cells
 have HX:=zh8 M B0 M0 hR hP C hZ hB
 clear hB M0 M B0 hR hP C hZ
 cases hf:findT id s.acts.list with
 |none=>
  have hE:s'=s:=by rw[hs',endT_none hf]
  have F1:=zhd (FI.out (-1) (by unfold findI;rw[hf]))
  clear hs' FI hf
  go_enter Tryz.func58,Tryz.ntmps58
  go_wp2_with fail
  rw[←hw0]
  clear hw0
  refine F1.out.mono ?_
  rintro e w1 ⟨rfl,hw⟩
  rw[hw]
  clear hw w1
  go_wp2_with fail
  go_end0
  exact⟨_,rfl,zhd (by rw[hE];exact⟨HX.out.2.2.1,MK.ext HX.out.2.1⟩)⟩
 |some i=>
  have F1:=zhd (FI.out (i:Int) (by unfold findI;rw[hf]))
  obtain⟨x,hx⟩:∃x,s.acts.list[i]? =some x:=by
   have:∀(l:List Th) (i:Nat),findT id l=some i→∃x,l[i]? =some x:=by
    intro l
    induction l with
    |nil=>intro i h;cases h
    |cons y r ih=>
     intro i h
     rw[findT]at h
     split at h
     ·cases h;exact⟨y,rfl⟩
     ·cases h2:findT id r with
      |none=>rw[h2]at h;cases h
      |some j=>rw[h2]at h;cases h;obtain⟨x,hx⟩:=ih j h2;exact⟨x,by simpa using hx⟩
   exact this _ _ hf
  obtain⟨⟨tid,tov,⟨vk,vn,vs,va,vl,vc⟩,thow⟩,hc,hC⟩:=HX.out.2.2.2.2.1.get hx
  obtain⟨g,off,rfl,hg⟩:=HX.out.2.2.2.1.addr hc
  have cc:=fun(j:Nat) (hj:j<7)=>HX.out.2.2.2.1.cell hc (j:=j) hj
  have hov:tov=x.over:=hC.over
  have hid:tid=x.id:=hC.id
  have hix:(i:Int)<s.acts.list.length:=by have:=(zge hx).1;omega
  have m1:w0.cell? ⟨g,off+i*7+1,none⟩=some (.bool x.over):=by rw[Nat.add_assoc,←hov];exact cc 1 (by decide)
  have hend:=endT_at (how:=how) (v:=y) hf hx
  have HS:=zh5 hs' hend hc hid hl
  have hi0:decide ((0:Int)≤(i:Int))=true:=decide_eq_true (by omega)
  cases ho:x.over with
  |true=>
   rw[ho]at m1
   have hE:s'=s:=by rw[HS.out.1,HS.out.2.1,ho];rfl
   clear hs' FI hf hend cc hC hc hx hov hid hl ho
   go_enter Tryz.func58,Tryz.ntmps58
   go_wp2_with fail
   rw[←hw0]
   clear hw0
   refine F1.out.mono ?_
   rintro e w1 ⟨rfl,hw⟩
   rw[hw]
   clear hw w1
   go_wp2_with fail
   go_end0
   exact⟨_,rfl,zhd (by rw[hE];exact⟨HX.out.2.2.1,MK.ext HX.out.2.1⟩)⟩
  |false=>
   rw[ho]at m1
   have CL:=zhd (clone_any y ck cn cs la ln lc F w0.drew (HX.out.2.2.2.2.2.1.keep (S:=fun _=>False) (zkb (HX.out.2.1.drew)) (fun _ _ f=>f)) hz)
   have hE:s'={s with acts:=⟨s.acts.list.set i ⟨x.id,true,cloneV y,how⟩,s.acts.next⟩}:=by rw[HS.out.1,HS.out.2.1,ho];rfl
   have HE:=zhd hE
   have nb:¬g=b:=fun e=>absurd (HX.out.1.sep 4 0 g rfl (by rw[e];rfl)) (by decide)
   have HC:=zh2 cc nb
   clear hs' FI hf hend cc hC hc hx hov hid hl ho hE
   go_enter Tryz.func58,Tryz.ntmps58
   go_wp2_with fail
   rw[←hw0]
   clear hw0
   refine F1.out.mono ?_
   rintro e w1 ⟨rfl,hw⟩
   rw[hw]
   clear hw w1
   go_wp2_with fail
   have c0d:w0.drew.cell? ⟨b,14,none⟩=some (.slice (some ⟨g,off,none⟩) s.acts.list.length cap):=c0
   have q0d:w0.drew.cell? ⟨W.heap.size,0,none⟩=some (.int .i64 ck):=q0
   have q1d:w0.drew.cell? ⟨W.heap.size,1,none⟩=some (.int .i64 cn):=q1
   have q2d:w0.drew.cell? ⟨W.heap.size,2,none⟩=some (.string cs):=q2
   have q3d:w0.drew.cell? ⟨W.heap.size,3,none⟩=some (.slice la ln lc):=q3
   have nb1:¬g=b:=HC.out.2
   have nb2:¬b=g:=fun e=>HC.out.2 e.symm
   have hgW:g<W.heap.size:=HX.out.1.acs.lt (g:=g) rfl
   have nb3:¬g=W.heap.size:=by omega
   have nb4:¬W.heap.size=g:=by omega
   go_region_held3 (fun W1=>W1.cell? ⟨b,14,none⟩=some (.slice (some ⟨g,off,none⟩) s.acts.list.length cap)∧W1.cell? ⟨W.heap.size,0,none⟩=some (.int .i64 ck)∧W1.cell? ⟨W.heap.size,1,none⟩=some (.int .i64 cn)∧W1.cell? ⟨W.heap.size,2,none⟩=some (.string cs)∧W1.cell? ⟨W.heap.size,3,none⟩=some (.slice la ln lc)) (first|with_reducible exact⟨c0d,q0d,q1d,q2d,q3d⟩|with_reducible exact⟨d1,p0,p1,p2,p3⟩|go_keep|go_simp|(refine⟨?_,?_,?_,?_,?_⟩<;>go_simp)) ((go_at_call 57;refine CL.out.mono ?_;rintro e w5 ⟨⟨k8,n8,s8,la8,ln8,lc8⟩,rfl,hC8⟩;have B5:Below w0.heap.size w0 w5:=Below.trans ((Below.refl w0.heap.size w0).drew) hC8.out.2;have R5:=HX.out.2.2.2.1.below B5;have H5:=zh3 hC8.out.1 B5 R5;have cc:=(fun(j:Nat) (hj:j<7)=>R5.cell HS.out.2.2.1 (j:=j) hj);have e1:w5.cell? ⟨g,off+i*7+1,none⟩=some (.bool tov):=(by rw[Nat.add_assoc];exact cc 1 (by decide));have e2:w5.cell? ⟨g,off+i*7+2,none⟩=some (.int .i64 vk):=(by rw[Nat.add_assoc];exact cc 2 (by decide));have e3:w5.cell? ⟨g,off+i*7+3,none⟩=some (.int .i64 vn):=(by rw[Nat.add_assoc];exact cc 3 (by decide));have e4:w5.cell? ⟨g,off+i*7+4,none⟩=some (.string vs):=(by rw[Nat.add_assoc];exact cc 4 (by decide));have e5:w5.cell? ⟨g,off+i*7+5,none⟩=some (.slice va vl vc):=(by rw[Nat.add_assoc];exact cc 5 (by decide));have e6:w5.cell? ⟨g,off+i*7+6,none⟩=some (.int .i64 thow):=(by rw[Nat.add_assoc];exact cc 6 (by decide));have ef:∀o,w5.frozen? ⟨g,o,none⟩=false:=(fun o=>R5.frozen o);have el:g<w5.heap.size:=Nat.lt_of_lt_of_le hg B5.size;have d1:w5.cell? ⟨b,14,none⟩=some (.slice (some ⟨g,off,none⟩) s.acts.list.length cap):=((B5.cell (p:=⟨b,14,none⟩) b1).trans c0);have p0:=(B5.cell (p:=⟨W.heap.size,0,none⟩) lr).trans q0;have p1:=(B5.cell (p:=⟨W.heap.size,1,none⟩) lr).trans q1;have p2:=(B5.cell (p:=⟨W.heap.size,2,none⟩) lr).trans q2;have p3:=(B5.cell (p:=⟨W.heap.size,3,none⟩) lr).trans q3;clear hC8 B5 R5 cc))
   all_goals
    obtain⟨w6,hw6⟩:∃w6,w6=((((((w5.setCell ⟨g,off+i*7+1,none⟩ (.bool true)).setCell ⟨g,off+i*7+6,none⟩ (.int .i64 how)).setCell ⟨g,off+i*7+2,none⟩ (.int .i64 k8)).setCell ⟨g,off+i*7+3,none⟩ (.int .i64 n8)).setCell ⟨g,off+i*7+4,none⟩ (.string s8)).setCell ⟨g,off+i*7+5,none⟩ (.slice la8 ln8 lc8)):=⟨_,rfl⟩
    rw[←hw6]
    have K6:Keeps (fun j=>j=g) w5 w6:=by rw[hw6];exact six_keep _ _ _ _ _ _ _ _ _ _ _ _ _ _
    have R6:RowAt w6 180 (.slice (some ⟨g,off,none⟩) s.acts.list.length cap) (ks.set i ⟨tid,true,⟨k8,n8,s8,la8,ln8,lc8⟩,how⟩):=by rw[hw6];exact thing_over H5.out.2.2 HS.out.2.2.1 how ⟨k8,n8,s8,la8,ln8,lc8⟩
    have M5:=HX.out.2.2.1.ext H5.out.2.1
    have C5:CF (MZ Z ⟨ss,ic,ps,inp,ts,.slice (some ⟨g,off,none⟩) s.acts.list.length cap,ls,ms⟩ b) w5 ⟨k8,n8,s8,la8,ln8,lc8⟩ (cloneV y):=H5.out.1.mono (fun j hj _=>by
     have hj:w0.heap.size≤j:=hj
     exact⟨fun e=>by have:=HX.out.1.lt e;omega,HX.out.2.2.2.2.2.2.1 j (by omega)⟩)
    have P5:=(HX.out.2.2.2.2.1.keep (S:=fun _=>False) (zkb H5.out.2.1) (fun _ _ f=>f)).set i (c:=⟨tid,true,⟨k8,n8,s8,la8,ln8,lc8⟩,how⟩) (x:=⟨x.id,true,cloneV y,how⟩) ⟨HS.out.2.2.2.1,rfl,C5,rfl⟩
    have S:=M5.putAcs (v1:=.slice (some ⟨g,off,none⟩) s.acts.list.length cap) s' R6 P5 (K6.mono (fun j _ e=>by rw[e];rfl)) (fun g hg=>.inl hg) HE.out
    have hself:w6.setCell ⟨b,14,none⟩ (.slice (some ⟨g,off,none⟩) s.acts.list.length cap)=w6:=setCell_self ((K6.cell (p:=⟨b,14,none⟩) (zlt M5.h) (fun e=>HC.out.2 e.symm)).trans d1)
    rw[hself]at S
    have HT:=zh2 S.1 ((MK.ext (HX.out.2.1.trans (H5.out.2.1.mono HX.out.2.1.size))).trans S.2)
    clear S hself P5 C5 M5 R6 K6 hw6 e1 e2 e3 e4 e5 e6 ef el d1
    go_wp2_with fail
    go_end0
    exact⟨_,rfl,zhd HT.out⟩
end Go.Proofs.YtakljipkaoahnaaGreatDoor
namespace Go.Va
open Go.Own Go.RowKit
def wds:List (List UInt8×List UInt8):=[([114,117,110,45,115,116,97,114,116,101,100],[65,66,78,84,86]),
 ([116,97,115,107,45,115,99,104,101,100,117,108,101,100],[66]),
 ([116,97,115,107,45,115,116,97,114,116,101,100],[65,66]),
 ([116,97,115,107,45,99,111,109,112,108,101,116,101,100],[65,66]),
 ([116,97,115,107,45,116,105,109,101,100,45,111,117,116],[66]),
 ([116,97,115,107,45,102,97,105,108,101,100],[66,78]),
 ([97,99,116,105,118,105,116,121,45,115,99,104,101,100,117,108,101,100],[65,66,78,86]),
 ([97,99,116,105,118,105,116,121,45,99,111,109,112,108,101,116,101,100],[65,86]),
 ([97,99,116,105,118,105,116,121,45,102,97,105,108,101,100],[65,78]),
 ([97,99,116,105,118,105,116,121,45,116,105,109,101,100,45,111,117,116],[65]),
 ([116,105,109,101,114,45,115,116,97,114,116,101,100],[65,66]),
 ([116,105,109,101,114,45,102,105,114,101,100],[65]),
 ([116,105,109,101,114,45,99,97,110,99,101,108,101,100],[65]),
 ([115,105,103,110,97,108,45,114,101,99,101,105,118,101,100],[78,86]),
 ([99,97,110,99,101,108,45,114,101,113,117,101,115,116,101,100],[]),
 ([114,117,110,45,99,111,109,112,108,101,116,101,100],[86]),
 ([114,117,110,45,102,97,105,108,101,100],[78]),
 ([114,117,110,45,99,97,110,99,101,108,101,100],[]),
 ([114,117,110,45,116,101,114,109,105,110,97,116,101,100],[78]),
 ([114,117,110,45,116,105,109,101,100,45,111,117,116],[]),
 ([99,111,110,116,105,110,117,101,100,45,97,115,45,110,101,119],[66,86])]
def wl:List (List UInt8×List UInt8)→List UInt8
 |[]=>[]
 |(a,b)::r=>a++58::(b++32::wl r)
def restW (i:Nat):ByteArray:=⟨(wl (wds.drop i)).toArray⟩
def oneW (i:Nat):ByteArray:=⟨(match wds[i]? with|some (a,b)=>a++58::b|none=>[]).toArray⟩
def nameW (i:Nat):ByteArray:=⟨(wds[i]?.getD ([],[])).1.toArray⟩
def fieldW (i:Nat):ByteArray:=⟨(wds[i]?.getD ([],[])).2.toArray⟩
theorem rest_cut (i:Fin 21):Lib.cut (restW i).data.toList [32]=((oneW i).data.toList,(restW (i+1)).data.toList,true):=by revert i;decide+kernel
theorem one_cut (i:Fin 21):Lib.cut (oneW i).data.toList [58]=((nameW i).data.toList,(fieldW i).data.toList,true):=by revert i;decide+kernel
theorem rest_size (i:Fin 22):(restW i).size≤367∧(oneW i).size≤367∧((restW i).size=0↔i.val=21):=by revert i;decide+kernel
theorem name_size (i:Fin 21):(nameW i).size≠0∧(nameW i).size≤64∧(fieldW i).size≤8:=by revert i;decide+kernel
def hasF (s:ByteArray)(c:UInt8):Bool:=decide (0≤Lib.indexByte s.data.toList c)
def evN (k:Int):ByteArray:=if 1≤k∧k≤21 then nameW (k.toNat - 1)else⟨#[]⟩
def evF (k:Int):ByteArray:=if 1≤k∧k≤21 then fieldW (k.toNat - 1)else⟨#[]⟩
theorem has_fin (i:Fin 21):evHas ((i.val:Int)+1)=some (hasF (fieldW i) 65,hasF (fieldW i) 66,hasF (fieldW i) 78,hasF (fieldW i) 84,hasF (fieldW i) 86):=by revert i;decide+kernel
theorem evHas_some {k:Int}(h:1≤k∧k≤21):evHas k=some (hasF (evF k) 65,hasF (evF k) 66,hasF (evF k) 78,hasF (evF k) 84,hasF (evF k) 86)∧(evN k).size≠0∧(evF k).size≤8:=by
 obtain⟨i,rfl⟩:∃i:Nat,k=(i:Int)+1:=⟨k.toNat - 1,by omega⟩
 have hi:i<21:=by omega
 have e:(((i:Int)+1).toNat - 1)=i:=by omega
 unfold evF evN
 rw[if_pos h,if_pos h,e]
 exact⟨has_fin ⟨i,hi⟩,(name_size ⟨i,hi⟩).1,(name_size ⟨i,hi⟩).2.2⟩
theorem evHas_none {k:Int}(h:¬(1≤k∧k≤21)):evHas k=none∧evN k=⟨#[]⟩∧evF k=⟨#[]⟩:=by
 refine⟨?_,if_neg h,if_neg h⟩
 unfold evHas
 repeat' (rw[if_neg (by omega)])
end Go.Va
namespace Go.Proofs.YtakljipkaoahnaaGreatDoor
open Go.RowKit Go.Own Go.Own.MapTy Go.Va Go.Sort
open Go.Own.Cells (sz enc)
theorem cutS_any {N:Nat}(s sep a r:ByteArray)(W:World)(G:Gl Tryz.prog N W)(hs:s.size≤400)(h:Lib.cut s.data.toList sep.data.toList=(a.data.toList,r.data.toList,true)):
  Calls Tryz.prog 85 #[.string s,.string sep] W (fun e w'=>e= .returned (.tuple #[.string a,.string r,.bool true])∧Below W.heap.size W w'):=by
 obtain⟨m,hm⟩:=G.m
 exact(Any.strings_Cut Tryz.lays145 s sep m W (by omega) hm).mono fun e w' ⟨j1,n,j2⟩=>⟨by rw[j1,h],by rw[j2];exact⟨rfl,rfl,rfl,Nat.le_refl _,fun _ _=>rfl⟩⟩
def nmAt (k:Int)(j:Nat):ByteArray:=if(j:Int)=k then evN k else⟨#[]⟩
def fdAt (k:Int)(j:Nat):ByteArray:=if(j:Int)=k then evF k else⟨#[]⟩
theorem nm_zero (k:Int):nmAt k 0=⟨#[]⟩∧fdAt k 0=⟨#[]⟩:=by
 unfold nmAt fdAt evN evF
 constructor
 ·split
  ·rw[if_neg (by omega)]
  ·rfl
 ·split
  ·rw[if_neg (by omega)]
  ·rfl
def EnRel (w:World)(k:Int)(gk:Nat)(v2 v3 v4 v5:Value)(wr:World):Prop:=
 ∃j:Nat,v2= .string (nmAt k j)∧v3= .string (fdAt k j)∧v4= .string (restW j)∧v5= .int .i64 ((j:Int)+1)∧j≤21∧(j=0∨(j:Int)≤k)∧gk=21 - j∧Below w.heap.size w wr
theorem entry_any {N:Nat}(k:Int)(w:World)(G:Gl Tryz.prog N w):Calls Tryz.prog 101 #[.int .i64 k] w (fun e w'=>e= .returned (.tuple #[.string (evN k),.string (evF k)])∧Below w.heap.size w w'):=by
 have CA:=zhd (fun(i:Nat) (hi:i<21) W (B:Below w.heap.size w W)=>cutS_any (restW i) ⟨#[32]⟩ (oneW i) (restW (i+1)) W (G.below B) (by have h:(restW i).size≤367:=(rest_size ⟨i,by omega⟩).1;omega) (rest_cut ⟨i,hi⟩))
 have CB:=zhd (fun(i:Nat) (hi:i<21) W (B:Below w.heap.size w W)=>cutS_any (oneW i) ⟨#[58]⟩ (nameW i) (fieldW i) W (G.below B) (by have h:(oneW i).size≤367:=(rest_size ⟨i,by omega⟩).2.1;omega) (one_cut ⟨i,hi⟩))
 have HG:=zhd G
 clear G
 go_enter Tryz.func101,Tryz.ntmps101
 go_wp2_with fail
 go_loopg [2,3,4,5] 21 (fun gk v2 v3 v4 v5 wr=>EnRel w k gk v2 v3 v4 v5 wr)
 case atStart=>exact⟨0,by rw[(nm_zero k).1],by rw[(nm_zero k).2],congrArg Value.string (by kernel_rfl),rfl,Nat.zero_le _,.inl rfl,rfl,Below.refl _ _⟩
 case round=>
  obtain⟨j,rfl,rfl,rfl,rfl,hj,hjk,hgk,hB⟩:=hrel
  by_cases h1:(j:Int)+1≤k
  ·by_cases h2:j<21
   ·have hne:(restW j).size≠0:=fun e=>by have:=(rest_size ⟨j,by omega⟩).2.2.1 e;simp at this;omega
    obtain⟨r,hr⟩:∃r,restW j=r:=⟨_,rfl⟩
    obtain⟨r1,hr1⟩:∃r,restW (j+1)=r:=⟨_,rfl⟩
    obtain⟨o,ho⟩:∃o,oneW j=o:=⟨_,rfl⟩
    have C1:=CA.out j h2
    rw[hr,hr1,ho]at C1
    have C1:=zhd C1
    have hb:r.toList.isEmpty=false:=by
     rw[List.isEmpty_eq_false_iff,ByteArray.toList_eq]
     intro e
     rw[hr]at hne
     exact hne (by have:=congrArg List.length e;simpa using this)
    have hW:=zhd (show wrap64 ((j:Int)+1+1)=(j:Int)+1+1 from by unfold wrap64;omega)
    have HJ:=zh5 hgk hB hr hr1 ho
    rw[hr]
    have HM:=zhd (show 21 - (j+1)<gk from by omega)
    clear hne hr hr1 ho hgk hB
    by_cases h3:(j:Int)+1=k
    ·have C2:=CB.out j h2
     rw[HJ.out.2.2.2.2]at C2
     have C2:=zhd C2
     have hk3:((j:Int)+1==k)=true:=by rw[beq_iff_eq];exact h3
     have hn:nameW j=nmAt k (j+1)∧fieldW j=fdAt k (j+1):=by
      unfold nmAt fdAt evN evF
      rw[if_pos (by omega),if_pos (by omega),if_pos (by omega),if_pos (by omega)]
      have:k.toNat - 1=j:=by omega
      rw[this]
      exact⟨rfl,rfl⟩
     have HNN:=zhd hn
     clear hn
     go_wp2_with fail
     refine(C1.out _ HJ.out.2.1).mono ?_
     rintro e w5 ⟨rfl,hB5⟩
     have H5:=zhd (HJ.out.2.1.trans (hB5.mono HJ.out.2.1.size))
     clear hB5
     go_wp2_with fail
     refine(C2.out _ H5.out).mono ?_
     rintro e w6 ⟨rfl,hB6⟩
     have H6:=zhd (H5.out.trans (hB6.mono H5.out.size))
     clear hB6
     go_wp2_with fail
     go_roundg (21 - (j+1))
     case measure=>exact HM.out
     case rel=>exact⟨j+1,by rw[HNN.out.1],by rw[HNN.out.2],by rw[HJ.out.2.2.2.1],congrArg (Value.int .i64) (by omega),by omega,.inr (by omega),rfl,H6.out⟩
    ·have hk3:((j:Int)+1==k)=false:=by rw[beq_eq_false_iff_ne];exact h3
     have hn:nmAt k j=nmAt k (j+1)∧fdAt k j=fdAt k (j+1):=by
      unfold nmAt fdAt
      rw[if_neg (by omega),if_neg (by omega),if_neg (by omega),if_neg (by omega)]
      exact⟨rfl,rfl⟩
     have HNN:=zhd hn
     clear hn
     go_wp2_with fail
     refine(C1.out _ HJ.out.2.1).mono ?_
     rintro e w5 ⟨rfl,hB5⟩
     have H5:=zhd (HJ.out.2.1.trans (hB5.mono HJ.out.2.1.size))
     clear hB5
     go_wp2_with fail
     go_roundg (21 - (j+1))
     case measure=>exact HM.out
     case rel=>exact⟨j+1,by rw[HNN.out.1],by rw[HNN.out.2],by rw[HJ.out.2.2.2.1],congrArg (Value.int .i64) (by omega),by omega,.inr (by omega),rfl,H5.out⟩
   ·have hj1:j=21:=by omega
    have hz:(restW j).toList.isEmpty=true:=by
     have:(restW j).size=0:=by rw[hj1];exact(rest_size ⟨21,by omega⟩).2.2.2 rfl
     rw[List.isEmpty_iff,ByteArray.toList_eq]
     exact List.length_eq_zero_iff.1 (by simpa using this)
    have hE:nmAt k j=evN k∧fdAt k j=evF k:=by
     unfold nmAt fdAt evN evF
     rw[if_neg (by omega),if_neg (by omega),if_neg (by omega),if_neg (by omega)]
     exact⟨rfl,rfl⟩
    rw[hE.1,hE.2]
    have HB:=zhd hB
    generalize restW j=r at*
    clear hE hB hgk hjk hj1
    go_wp2_with fail
    go_ret2
    exact⟨rfl,HB.out⟩
  ·have hE:nmAt k j=evN k∧fdAt k j=evF k:=by
    unfold nmAt fdAt
    by_cases e:(j:Int)=k
    ·rw[if_pos e,if_pos e];exact⟨rfl,rfl⟩
    ·rw[if_neg e,if_neg e]
     unfold evN evF
     rw[if_neg (by omega),if_neg (by omega)]
     exact⟨rfl,rfl⟩
   rw[hE.1,hE.2]
   have HB:=zhd hB
   clear hE hB hgk hjk
   go_wp2_with fail
   go_ret2
   exact⟨rfl,HB.out⟩
theorem has_any (s:ByteArray)(c:UInt8)(w:World)(b:Bool)(hb:hasF s c=b):Calls Tryz.prog 102 #[.string s,.int .u8 (c.toNat:Int)] w (fun e w'=>e= .returned (.bool b)∧w=w'):=by
 have IB0:=Any.strings_IndexByte Tryz.lays137 s (c.toNat:Int) w
 have hc:(c.toNat:Int).toNat.toUInt8=c:=by simp
 rw[hc]at IB0
 have IB:=zhd (show Calls Tryz.prog 132 #[.string s,.int .u8 (c.toNat:Int)] w (fun e w'=>e= .returned (.int .i64 (Lib.indexByte s.data.toList c))∧w'=w)from IB0)
 clear IB0
 unfold hasF at hb
 generalize Lib.indexByte s.data.toList c=z at*
 have HB:=zhd hb
 clear hb hc
 go_enter Tryz.func102,Tryz.ntmps102
 go_wp2_with fail
 refine IB.out.mono ?_
 rintro e w1 ⟨rfl,hw⟩
 rw[hw]
 clear hw w1
 go_wp2_with fail
 go_ret
 exact⟨by rw[←HB.out];rfl,rfl⟩
theorem empty_iff (s:ByteArray):s.toList.isEmpty=decide (s.size=0):=by
 rw[ByteArray.toList_eq]
 by_cases h:s.size=0
 ·rw[decide_eq_true h,List.isEmpty_iff]
  exact List.length_eq_zero_iff.1 (by simpa using h)
 ·rw[decide_eq_false h,List.isEmpty_eq_false_iff]
  intro e
  exact h (by have:=congrArg List.length e;simpa using this)
theorem outside_any (id t k a b:Int)(nm tx:ByteArray)(vk vn:Int)(vs:ByteArray)(la:Option Addr)(ln lc:Nat)(w:World)(r:Bool)(hr:evOut k=r):
  Calls Tryz.prog 56 #[.agg #[.int .i64 id,.int .i64 t,.int .i64 k,.int .i64 a,.int .i64 b,.string nm,.string tx,.int .i64 vk,.int .i64 vn,.string vs,.slice la ln lc]] w (fun e w'=>e= .returned (.bool r)∧Below w.heap.size w w'):=by
 subst hr
 by_cases h8:k=8
 ·subst h8
  go_enter Tryz.func56,Tryz.ntmps56
  go_wp2_with fail
  go_ret
  exact⟨rfl,zal⟩
 ·have n8:(k==8)=false:=by rw[beq_eq_false_iff_ne];exact h8
  by_cases h9:k=9
  ·subst h9
   go_enter Tryz.func56,Tryz.ntmps56
   go_wp2_with fail
   go_ret
   exact⟨rfl,zal⟩
  ·have n9:(k==9)=false:=by rw[beq_eq_false_iff_ne];exact h9
   by_cases h10:k=10
   ·subst h10
    go_enter Tryz.func56,Tryz.ntmps56
    go_wp2_with fail
    go_ret
    exact⟨rfl,zal⟩
   ·have n10:(k==10)=false:=by rw[beq_eq_false_iff_ne];exact h10
    by_cases h12:k=12
    ·subst h12
     go_enter Tryz.func56,Tryz.ntmps56
     go_wp2_with fail
     go_ret
     exact⟨rfl,zal⟩
    ·have n12:(k==12)=false:=by rw[beq_eq_false_iff_ne];exact h12
     by_cases h14:k=14
     ·subst h14
      go_enter Tryz.func56,Tryz.ntmps56
      go_wp2_with fail
      go_ret
      exact⟨rfl,zal⟩
     ·have n14:(k==14)=false:=by rw[beq_eq_false_iff_ne];exact h14
      by_cases h15:k=15
      ·subst h15
       go_enter Tryz.func56,Tryz.ntmps56
       go_wp2_with fail
       go_ret
       exact⟨rfl,zal⟩
      ·have n15:(k==15)=false:=by rw[beq_eq_false_iff_ne];exact h15
       by_cases h19:k=19
       ·subst h19
        go_enter Tryz.func56,Tryz.ntmps56
        go_wp2_with fail
        go_ret
        exact⟨rfl,zal⟩
       ·have n19:(k==19)=false:=by rw[beq_eq_false_iff_ne];exact h19
        by_cases h20:k=20
        ·subst h20
         go_enter Tryz.func56,Tryz.ntmps56
         go_wp2_with fail
         go_ret
         exact⟨rfl,zal⟩
        ·have n20:(k==20)=false:=by rw[beq_eq_false_iff_ne];exact h20
         have he:(k==1)=evOut k:=by
          unfold evOut
          by_cases h1:k=1
          ·rw[h1];decide
          ·rw[decide_eq_false (by omega),beq_eq_false_iff_ne];exact h1
         have HE:=zhd he
         clear h8 h9 h10 h12 h14 h15 h19 h20 he
         go_enter Tryz.func56,Tryz.ntmps56
         go_wp2_with fail
         go_ret
         exact⟨by rw[←HE.out];rfl,zal⟩
theorem evcheck_any {N:Nat}(id t k a b:Int)(nm tx:ByteArray)(vk vn:Int)(vs:ByteArray)(la:Option Addr)(ln lc:Nat)(w:World)(G:Gl Tryz.prog N w)(cl:Int)(CH:∀W,Below w.heap.size w W→Calls Tryz.prog 70 #[.agg #[.int .i64 vk,.int .i64 vn,.string vs,.slice la ln lc]] W (fun e w'=>e= .returned (.int .i64 cl)∧Below W.heap.size W w'))(r:Int)(hr:evCh k id t a b nm.size tx.size vk cl=r):
  Calls Tryz.prog 55 #[.agg #[.int .i64 id,.int .i64 t,.int .i64 k,.int .i64 a,.int .i64 b,.string nm,.string tx,.int .i64 vk,.int .i64 vn,.string vs,.slice la ln lc]] w (fun e w'=>e= .returned (.int .i64 r)∧Below w.heap.size w w'):=by
 obtain⟨w0,hw0⟩:∃w0,w0=w.alloc (.cells #[.int .i64 id,.int .i64 t,.int .i64 k,.int .i64 a,.int .i64 b,.string nm,.string tx,.int .i64 vk,.int .i64 vn,.string vs,.slice la ln lc] 60):=⟨_,rfl⟩
 have B0:=zba hw0
 have hB:=zha hw0
 have r2:=zca hB 2 rfl
 have EN:=zhd (entry_any k w0 (G.below B0))
 have lr:w.heap.size<w0.heap.size:=zlt hB
 have H0:=zh2 B0 hB
 have HCH:=zhd CH
 clear B0 hB CH G
 unfold evCh at hr
 go_enter Tryz.func55,Tryz.ntmps55
 go_wp2_with fail
 rw[←hw0]
 clear hw0
 refine EN.out.mono ?_
 rintro e w5 ⟨rfl,hB5⟩
 have hb5:=(hB5.block w.heap.size lr).trans H0.out.2
 have HB:=zhd (H0.out.1.trans (hB5.mono H0.out.1.size))
 have q0:=zca hb5 0 rfl
 have q1:=zca hb5 1 rfl
 have q3:=zca hb5 3 rfl
 have q4:=zca hb5 4 rfl
 have q5:=zca hb5 5 rfl
 have q6:=zca hb5 6 rfl
 have q7:=zca hb5 7 rfl
 have q8:=zca hb5 8 rfl
 have q9:=zca hb5 9 rfl
 have q10:=zca hb5 10 rfl
 have l5:w.heap.size<w5.heap.size:=zlt hb5
 clear hb5 hB5 r2 lr
 by_cases hk:1≤k∧k≤21
 ·obtain⟨e1,e2,e3⟩:=evHas_some hk
  rw[e1]at hr
  dsimp only at hr
  have hne:(evN k).toList.isEmpty=false:=by rw[empty_iff];exact decide_eq_false e2
  have HA:=zhd (fun W=>has_any (evF k) 65 W _ rfl)
  have HBB:=zhd (fun W=>has_any (evF k) 66 W _ rfl)
  have HN:=zhd (fun W=>has_any (evF k) 78 W _ rfl)
  have HT:=zhd (fun W=>has_any (evF k) 84 W _ rfl)
  have HV:=zhd (fun W=>has_any (evF k) 86 W _ rfl)
  generalize hasF (evF k) 65=hA at*
  generalize hasF (evF k) 66=hBb at*
  generalize hasF (evF k) 78=hN at*
  generalize hasF (evF k) 84=hT at*
  generalize hasF (evF k) 86=hV at*
  generalize evF k=fd at*
  generalize evN k=nk at*
  clear e1 e2 e3 hk
  by_cases h1:id<1
  ·rw[if_pos (.inl h1)]at hr
   have HR:=zhd hr
   have d1:decide (id<1)=true:=decide_eq_true h1
   clear hr
   go_wp2_with fail
   all_goals
    go_ret
    exact⟨by rw[←HR.out];rfl,HB.out⟩
  ·by_cases h2:1048576<id
   ·rw[if_pos (.inr (.inl h2))]at hr
    have HR:=zhd hr
    have d1:decide (id<1)=false:=decide_eq_false h1
    have d2:decide (1048576<id)=true:=decide_eq_true h2
    clear hr
    go_wp2_with fail
    all_goals
     go_ret
     exact⟨by rw[←HR.out];rfl,HB.out⟩
   ·by_cases h3:t<0
    ·rw[if_pos (.inr (.inr (.inl h3)))]at hr
     have HR:=zhd hr
     have d1:decide (id<1)=false:=decide_eq_false h1
     have d2:decide (1048576<id)=false:=decide_eq_false h2
     have d3:decide (t<0)=true:=decide_eq_true h3
     clear hr
     go_wp2_with fail
     all_goals
      go_ret
      exact⟨by rw[←HR.out];rfl,HB.out⟩
    ·by_cases h4:4611686018427387903<t
     ·rw[if_pos (.inr (.inr (.inr h4)))]at hr
      have HR:=zhd hr
      have d1:decide (id<1)=false:=decide_eq_false h1
      have d2:decide (1048576<id)=false:=decide_eq_false h2
      have d3:decide (t<0)=false:=decide_eq_false h3
      have d4:decide (4611686018427387903<t)=true:=decide_eq_true h4
      clear hr
      go_wp2_with fail
      all_goals
       go_ret
       exact⟨by rw[←HR.out];rfl,HB.out⟩
     ·rw[if_neg (fun h=>h.elim h1 (fun h=>h.elim h2 (fun h=>h.elim h3 h4)))]at hr
      have HR:=zhd hr
      have d1:decide (id<1)=false:=decide_eq_false h1
      have d2:decide (1048576<id)=false:=decide_eq_false h2
      have d3:decide (t<0)=false:=decide_eq_false h3
      have d4:decide (4611686018427387903<t)=false:=decide_eq_false h4
      clear hr
      go_upto_region 6 with(fail)
      clear h1 h2 h3 h4 d1 d2 d3 d4
      go_cut [33] (fun v33 wx=>v33= .bool (decide (a<0∨b<0∨(hA=false∧a≠0)∨(hBb=false∧b≠0)))∧wx=w5)
      case first=>
       by_cases h1:a<0
       ·have d:=zhd (decide_eq_true (p:=a<0∨b<0∨(hA=false∧a≠0)∨(hBb=false∧b≠0)) (.inl h1))
        go_wp2_with fail
        go_meet
        case rel=>exact⟨by rw[d.out],rfl⟩
       ·by_cases h2:b<0
        ·have d:=zhd (decide_eq_true (p:=a<0∨b<0∨(hA=false∧a≠0)∨(hBb=false∧b≠0)) (.inr (.inl h2)))
         go_wp2_with fail
         go_meet
         case rel=>exact⟨by rw[d.out],rfl⟩
        ·have ha:(a !=0)=decide (a≠0):=by by_cases h:a=0<;>simp[h]
         have hb:(b !=0)=decide (b≠0):=by by_cases h:b=0<;>simp[h]
         have d:decide (a<0∨b<0∨(hA=false∧a≠0)∨(hBb=false∧b≠0))=((!hA&&(a !=0))||(!hBb&&(b !=0))):=by
          rw[ha,hb]
          cases hA<;>cases hBb<;>simp[h1,h2]
         obtain⟨za,hza⟩:∃z,(a !=0)=z:=⟨_,rfl⟩
         obtain⟨zb,hzb⟩:∃z,(b !=0)=z:=⟨_,rfl⟩
         rw[hza,hzb]at d
         have HD:=zhd d
         have n1:decide (a<0)=false:=decide_eq_false h1
         have n2:decide (b<0)=false:=decide_eq_false h2
         clear d ha hb h1 h2
         cases hA<;>cases hBb<;>cases za<;>cases zb
         all_goals
          go_wp2_with fail
          refine(HA.out _).mono ?_
          rintro e w9 ⟨rfl,hw⟩
          subst hw
          go_wp2_with fail
          try(refine(HBB.out _).mono ?_;rintro e w9 ⟨rfl,hw⟩;subst hw;go_wp2_with fail)
          go_meet
          case rel=>exact⟨by rw[HD.out];rfl,rfl⟩
      case rest=>
       obtain⟨rfl,rfl⟩:=hcut
       cases hd:decide (a<0∨b<0∨(hA=false∧a≠0)∨(hBb=false∧b≠0))with
       |true=>
        have HR:=zhd (show(1:Int)=r from by
         have h:=HR.out
         rw[if_pos (of_decide_eq_true hd)]at h
         exact h)
        go_wp2_with fail
        all_goals
         go_ret
         exact⟨by rw[←HR.out];rfl,HB.out⟩
       |false=>
        have HR:=zhd (show(if 64<nm.size∨128<tx.size then 2 else if(hN=false∧nm.size≠0)∨(hT=false∧tx.size≠0)then 8 else if hV=false∧vk≠0 then 8 else cl)=r from by
         have h:=HR.out
         rw[if_neg (of_decide_eq_false hd)]at h
         exact h)
        by_cases h5:64<nm.size
        ·have HR:=zhd (show(2:Int)=r from by have h:=HR.out;rw[if_pos (.inl h5)]at h;exact h)
         have d5:decide ((64:Int)<(nm.size:Int))=true:=decide_eq_true (by omega)
         go_wp2_with fail
         all_goals
          go_ret
          exact⟨by rw[←HR.out];rfl,HB.out⟩
        ·have d5:decide ((64:Int)<(nm.size:Int))=false:=decide_eq_false (by omega)
         by_cases h6:128<tx.size
         ·have HR:=zhd (show(2:Int)=r from by have h:=HR.out;rw[if_pos (.inr h6)]at h;exact h)
          have d6:decide ((128:Int)<(tx.size:Int))=true:=decide_eq_true (by omega)
          go_wp2_with fail
          all_goals
           go_ret
           exact⟨by rw[←HR.out];rfl,HB.out⟩
         ·have d6:decide ((128:Int)<(tx.size:Int))=false:=decide_eq_false (by omega)
          have HR:=zhd (show(if(hN=false∧nm.size≠0)∨(hT=false∧tx.size≠0)then 8 else if hV=false∧vk≠0 then 8 else cl)=r from by
           have h:=HR.out
           rw[if_neg (fun h=>h.elim h5 h6)]at h
           exact h)
          go_upto_region 10 with(fail)
          clear d5 d6 h5 h6 hd
          go_cut [73] (fun v73 wx=>v73= .bool (decide ((hN=false∧nm.size≠0)∨(hT=false∧tx.size≠0)))∧wx=wc)
          case first=>
           have d:decide ((hN=false∧nm.size≠0)∨(hT=false∧tx.size≠0))=((!hN&& !nm.toList.isEmpty)||(!hT&& !tx.toList.isEmpty)):=by
            rw[empty_iff,empty_iff]
            by_cases ha:nm.size=0<;>by_cases hb:tx.size=0<;>cases hN<;>cases hT<;>simp[ha,hb]
           obtain⟨za,hza⟩:∃z,nm.toList.isEmpty=z:=⟨_,rfl⟩
           obtain⟨zb,hzb⟩:∃z,tx.toList.isEmpty=z:=⟨_,rfl⟩
           rw[hza,hzb]at d
           have HD:=zhd d
           clear d
           cases hN<;>cases hT<;>cases za<;>cases zb
           all_goals
            go_wp2_with fail
            refine(HN.out _).mono ?_
            rintro e w9 ⟨rfl,hw⟩
            subst hw
            go_wp2_with fail
            try(refine(HT.out _).mono ?_;rintro e w9 ⟨rfl,hw⟩;subst hw;go_wp2_with fail)
            go_meet
            case rel=>exact⟨by rw[HD.out];rfl,rfl⟩
          case rest=>
           obtain⟨rfl,rfl⟩:=hcut
           cases hd2:decide ((hN=false∧nm.size≠0)∨(hT=false∧tx.size≠0))with
           |true=>
            have HR:=zhd (show(8:Int)=r from by
             have h:=HR.out
             rw[if_pos (of_decide_eq_true hd2)]at h
             exact h)
            go_wp2_with fail
            all_goals
             go_ret
             exact⟨by rw[←HR.out];rfl,HB.out⟩
           |false=>
            have HR:=zhd (show(if hV=false∧vk≠0 then 8 else cl)=r from by
             have h:=HR.out
             rw[if_neg (of_decide_eq_false hd2)]at h
             exact h)
            have CH:=zhd (HCH.out _ HB.out)
            cases hV with
            |true=>
             have HR:=zhd (show cl=r from by have h:=HR.out;rw[if_neg (fun h=>by cases h.1)]at h;exact h)
             go_wp2_with fail
             refine(HV.out _).mono ?_
             rintro e w9 ⟨rfl,hw⟩
             subst hw
             go_wp2_with fail
             refine CH.out.mono ?_
             rintro e w9 ⟨rfl,hB9⟩
             have HB:=zhd (HB.out.trans (hB9.mono HB.out.size))
             clear hB9
             go_wp2_with fail
             all_goals
              go_ret
              exact⟨by rw[←HR.out];rfl,HB.out⟩
            |false=>
             by_cases hv:vk=0
             ·subst hv
              have HR:=zhd (show cl=r from by have h:=HR.out;rw[if_neg (fun h=>h.2 rfl)]at h;exact h)
              go_wp2_with fail
              refine(HV.out _).mono ?_
              rintro e w9 ⟨rfl,hw⟩
              subst hw
              go_wp2_with fail
              refine CH.out.mono ?_
              rintro e w9 ⟨rfl,hB9⟩
              have HB:=zhd (HB.out.trans (hB9.mono HB.out.size))
              clear hB9
              go_wp2_with fail
              all_goals
               go_ret
               exact⟨by rw[←HR.out];rfl,HB.out⟩
             ·have hvb:(vk !=0)=true:=by simpa using hv
              have HR8:=zhd (show(8:Int)=r from by have h:=HR.out;rw[if_pos ⟨rfl,hv⟩]at h;exact h)
              go_wp2_with fail
              refine(HV.out _).mono ?_
              rintro e w9 ⟨rfl,hw⟩
              subst hw
              go_wp2_with fail
              all_goals
               go_ret
               exact⟨by rw[←HR8.out];rfl,HB.out⟩
 ·have HR:=zhd (show(9:Int)=r by rw[(evHas_none hk).1]at hr;exact hr)
  have he:(evN k).toList.isEmpty=true:=by rw[(evHas_none hk).2.1,empty_iff];rfl
  clear hr hk
  generalize evN k=nk at*
  go_wp2_with fail
  all_goals
   go_ret
   exact⟨by rw[←HR.out];rfl,HB.out⟩
end Go.Proofs.YtakljipkaoahnaaGreatDoor
