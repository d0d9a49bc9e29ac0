/- The row of ReplayRefuses and its tied card: The row of ReplayRefuses and its tied card: what is no history is told, event by event, by the first rule that it breaks, and nothing is wanted behind that. The conditions: those of the row and of the card. (The frame of this text is the kit's skeleton.) The conditions: those of the row and of the card. (The frame of this text is the kit's skeleton.) -/
import Derived.Test.YtpagmlndgblhhaaGreatDoorRows
import Derived.Test.YtpagmlndgblhhaaGreatDoorTie
import Derived.Test.YtpagmlndgblhhaaGreatDoorCards
import Derived.WalkKit
import Derived.ProofKit
import Derived.OpenShut
import Derived.ShutString
import Derived.ChangeOld
import Derived.Below
import Derived.Lay
import Derived.SevenTiedAt
import Derived.Stop.Joined
import Derived.Test.YtpagmlndgblhhaaGreatDoorR31
set_option maxRecDepth 100000
set_option maxHeartbeats 8000000
namespace Go.Proofs.YtpagmlndgblhhaaGreatDoor.replayRefuses
open Go.ChangeShapes Go.WideShapes Go.ChangeAt Go.RowKit
open Go.ChangeMaps (open_string shut_string)
set_option linter.unusedVariables false
theorem own:ownKnob Tryz.prog.godebug=none:=by kernel_rfl
theorem yjF:laidOutB Tryz.prog=true:=by kernel_rfl
theorem ynd (os:Os)(started:os.Started)(H:Type)(enc:TypeId×Value→H):
  ReturnsInHanded {} Tryz.checked os 6 .any (fun w args=>(Rows.replayRefusesSpec.pre enc Tryz.prog Tryz.f6 Rows.replayRefusesRow.domain false w args∧laidMetH Tryz.prog Rows.replayRefusesRow.laid w)∧sizedMet enc Tryz.prog Tryz.f6 (OpenSpec.ofChange Rows.replayRefusesSpec) false w args)
   (Rows.replayRefusesSpec.post enc Tryz.prog Tryz.f6 false true false false):=by
 refine ygF (C:=Tryz.checked) (X:=fun w _=>laidMetH Tryz.prog Rows.replayRefusesRow.laid w) (fun _ _ _ hh h=>h.of_heap hh) own started (by kernel_rfl) Tryz.func6
  (ChangeSpec.witness_shaped (enc:=enc) (C:=Tryz.checked) (os:=os) (X:=fun w _=>laidMetH Tryz.prog Rows.replayRefusesRow.laid w) false (World.laidAll Tryz.prog os Rows.replayRefusesRow.laid) #[.agg #[.slice none 0 0,.slice none 0 0,.slice none 0 0,.int .i64 0],.slice none 0 0] 8 (World.laidAll_os _ _ _)
    (World.shaped_of_ZipB (by kernel_rfl) (by kernel_rfl)) (by kernel_rfl) (by kernel_rfl) (by kernel_rfl)
    (by rw[MakeChecks.laidMetH_plain _ _ _ (by kernel_rfl)];exact laidMet_laidAll _ (by kernel_rfl) (by kernel_rfl))) ?_
 intro W base args ds gs before hval0 hW hL hS;have hval:∀(j:Nat) t v,Tryz.f6.params[j]? =some t→args[j]? =some v→Value.okWide Tryz.prog W .any base t v:=hval0;have hW':=hW;obtain⟨p,q,hA0,hV,rfl,hfz,hnd⟩:=hW;have hA:DataW.TrodAll enc Tryz.prog W 0 (fun _=>true) true Tryz.f6.params.toList args.toList ds p:=hA0;rw[Tryz.params6]at hA hval;obtain⟨v0,vs0,d0,ds0,p0,q0,hargs,rfl,rfl,h0,r0⟩:=trodAll_cons hA;obtain⟨v1,vs1,d1,ds1,p1,q1,rfl,rfl,rfl,h1,r1⟩:=trodAll_cons r0;obtain⟨rfl,rfl,rfl⟩:=trodAll_nil r1;obtain rfl:args=#[v0,v1]:=by cases args;simp_all
 obtain⟨rfl,rfl⟩:=trodVars_none hV;have lt0:∀x∈p0,x.block<W.heap.size:=by obtain⟨m,hm⟩:=h0;exact DataW.trod_lt m _ _ _ hm
 obtain⟨s1,len1,cap1,rfl⟩:=okWide_slice Tryz.underlying22 (hval 1 22 v1 rfl rfl);have lt1:∀x∈p1,x.block<W.heap.size:=by obtain⟨m,hm⟩:=h1;exact DataW.trod_lt m _ _ _ hm
 obtain⟨i0,im0,rfl,iat0,vb0,cb0⟩:=yio (hval 0 28 v0 rfl rfl) h0;obtain⟨l1,w1⟩:=ygB h1;have gl:=yoi hL hS;clear hA0 hval0 hL hS;refine(yfq i0 im0 W gl iat0 vb0 s1 len1 cap1 l1 w1.1 (fun e h=>(w1.2 e h).1)).mono fun e W' ⟨he,bel⟩=> ?_;subst he;exact⟨_,rfl,_,_,_,[],_,[],hW',trodAll_mk1 (shut_bool Tryz.underlying4 _),(trodAll_cons_mk (Below.trod yjF (by kernel_rfl) (znx (by kernel_rfl)) h0 bel lt0) (trodAll_cons_mk (Below.trod yjF (by kernel_rfl) (znx (by kernel_rfl)) h1 bel lt1) trodAll_mk0)),rfl,bel.frame _,fun h=>by cases h⟩
theorem over:Rows.replayRefusesRow.holds Tryz.pinned (OpenSpec.ofChange Rows.replayRefusesSpec):=
 OpenClaim.holds_of_wide 6 Tryz.f6 rfl rfl rfl rfl rfl rfl rfl ⟨rfl,rfl,rfl,rfl,rfl⟩ rfl rfl rfl rfl rfl (by kernel_rfl) Tryz.func6 (by kernel_rfl)
  (znx (by kernel_rfl)) (by unfold Func.isWrapper;first|(rw[if_pos (by decide+kernel)];kernel_rfl)|(rw[if_neg (by decide+kernel)];exact⟨rfl,rfl⟩))
  (fun os started H enc _=>ynd os started H enc)
theorem card:Claim7.holds Tryz.pinned (.plain (OpenSpec.ofChange Rows.replayRefusesSpec)) Rows.replayRefusesCard:=
 Claim7.holds_tied_plain_at .later [] [.data,.data,.data,.data,.sentinel,.sentinel,.pinned] true (true, "3d8ff7650082b3faf2ded0a449116659a1b996fa17b6f66355cf5c9deaf4724b") true over (fun _ h=>by cases h) (by kernel_rfl) (fun _ h=>by cases h) replayRefuses_row_tie rfl ⟨rfl,rfl⟩ (by kernel_rfl) rfl
  (fun f fn hf hfn=>by
    obtain rfl:f=6:=Option.some.inj ((show Tryz.prog.funcNamed "foliot/foliotlaw15.ReplayRefuses" =some 6 by kernel_rfl).symm.trans hf)|>.symm;obtain rfl:fn=Tryz.f6:=(Option.some.inj (Tryz.func6.symm.trans hfn)).symm;exact⟨by kernel_rfl,fun j t ht=>by
     rw[Tryz.params6]at ht;have hm:t∈[28,22]:=by simpa using Array.mem_of_getElem? ht
     have hall:([28,22].all fun u=> !Tryz.prog.wantsStandIn u)=true:=by kernel_rfl
     exact(show Tryz.prog.wantsStandIn t=false by simpa using List.all_eq_true.1 hall t hm)⟩)
  (by kernel_rfl)
end Go.Proofs.YtpagmlndgblhhaaGreatDoor.replayRefuses
namespace Go.Proofs.YtpagmlndgblhhaaGreatDoor
theorem replayRefuses_holds:Rows.ReplayRefusesCardSaid:=replayRefuses.card
#print axioms replayRefuses_holds
end Go.Proofs.YtpagmlndgblhhaaGreatDoor
