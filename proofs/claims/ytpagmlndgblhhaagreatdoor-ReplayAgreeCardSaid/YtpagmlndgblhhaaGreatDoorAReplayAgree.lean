/- The row of ReplayAgree and its tied card: of one program and the same events from outside, committed at two sorts of times, what is written of its commands by one is a beginning of what is written by the other. The conditions: those of the row and of the card. (The frame of this text is the kit's skeleton.) -/
import Derived.Test.YtpagmlndgblhhaaGreatDoorRows
import Derived.Test.YtpagmlndgblhhaaGreatDoorTie
import Derived.Test.YtpagmlndgblhhaaGreatDoorCards
import Derived.WalkKit
import Derived.ProofKit
import Derived.OpenShut
import Derived.ShutString
import Derived.ChangeOld
import Derived.Below
import Derived.Lay
import Derived.SevenTiedAt
import Derived.Stop.Joined
import Derived.Test.YtpagmlndgblhhaaGreatDoorA21
set_option maxRecDepth 100000
set_option maxHeartbeats 8000000
namespace Go.Proofs.YtpagmlndgblhhaaGreatDoor.replayAgree
open Go.ChangeShapes Go.WideShapes Go.ChangeAt Go.RowKit
open Go.ChangeMaps (open_string shut_string)
set_option linter.unusedVariables false
theorem own:ownKnob Tryz.prog.godebug=none:=by kernel_rfl
theorem yhu:laidOutB Tryz.prog=true:=by kernel_rfl
theorem yoj (os:Os)(started:os.Started)(H:Type)(enc:TypeId×Value->H):
  ReturnsInHanded {} Tryz.checked os 4 .any (fun w args=>(Rows.replayAgreeSpec.pre enc Tryz.prog Tryz.f4 Rows.replayAgreeRow.domain false w args/\laidMetH Tryz.prog Rows.replayAgreeRow.laid w)/\sizedMet enc Tryz.prog Tryz.f4 (OpenSpec.ofChange Rows.replayAgreeSpec) false w args)
   (Rows.replayAgreeSpec.post enc Tryz.prog Tryz.f4 false true false false):=by
 refine yhw (C:=Tryz.checked) (X:=fun w _=>laidMetH Tryz.prog Rows.replayAgreeRow.laid w) (fun _ _ _ hh h=>h.of_heap hh) own started (by kernel_rfl) Tryz.func4
  (ChangeSpec.witness_shaped (enc:=enc) (C:=Tryz.checked) (os:=os) (X:=fun w _=>laidMetH Tryz.prog Rows.replayAgreeRow.laid w) false (World.laidAll Tryz.prog os Rows.replayAgreeRow.laid) #[.agg #[.slice none 0 0,.slice none 0 0,.slice none 0 0,.int .i64 0],.slice none 0 0,.agg #[.slice none 0 0,.slice none 0 0]] 8 (World.laidAll_os _ _ _)
    (World.shaped_of_ZipB (by kernel_rfl) (by kernel_rfl)) (by kernel_rfl) (by kernel_rfl) (by kernel_rfl)
    (by rw[MakeChecks.laidMetH_plain _ _ _ (by kernel_rfl)];exact laidMet_laidAll _ (by kernel_rfl) (by kernel_rfl))) ?_
 intro W I args ds gs J B r u s;have A:∀(j:Nat) t v,Tryz.f4.params[j]? =some t->args[j]? =some v->Value.okWide Tryz.prog W .any I t v:=B;have c:=r;obtain⟨p,q,F,hV,rfl,Ac,Ab⟩:=r;have y:DataW.TrodAll enc Tryz.prog W 0 (fun _=>true) true Tryz.f4.params.toList args.toList ds p:=F;rw[Tryz.params4]at y A;obtain⟨v0,vs0,d0,Af,p0,q0,b,rfl,rfl,k,r0⟩:=trodAll_cons y;obtain⟨o,Aa,d1,Ae,p1,q1,rfl,rfl,rfl,i,r1⟩:=trodAll_cons r0;obtain⟨n,z,d2,Ad,p2,q2,rfl,rfl,rfl,g,r2⟩:=trodAll_cons r1;obtain⟨rfl,rfl,rfl⟩:=trodAll_nil r2;obtain rfl:args=#[v0,o,n]:=by cases args;simp_all
 obtain⟨rfl,rfl⟩:=trodVars_none hV;have V:∀x∈p0,x.block<W.heap.size:=by obtain⟨m,hm⟩:=k;exact DataW.trod_lt m _ _ _ hm
 obtain⟨s1,D,G,rfl⟩:=okWide_slice Tryz.underlying22 (A 1 22 o rfl rfl);have U:∀x∈p1,x.block<W.heap.size:=by obtain⟨m,hm⟩:=i;exact DataW.trod_lt m _ _ _ hm
 have T:∀x∈p2,x.block<W.heap.size:=by obtain⟨m,hm⟩:=g;exact DataW.trod_lt m _ _ _ hm
 obtain⟨i0,Y,rfl,E,K,Ag⟩:=yjf (A 0 28 v0 rfl rfl) k;obtain⟨l1,l⟩:=yhm i;obtain⟨S,P,R,O,L,N,Q,M,rfl,a,f,Z,d⟩:=yje (A 2 63 n rfl rfl) g;have gl:=yps u s;clear F B u s;refine(yjM i0 Y W gl E K s1 D G l1 l.1 (fun e h=>(l.2 e h).1) S P R O L N Q M a f Z d).mono fun e W' ⟨he,bel⟩=> ?_;subst he;exact⟨_,rfl,_,_,_,[],_,[],c,trodAll_mk1 (shut_bool Tryz.underlying4 _),(trodAll_cons_mk (Below.trod yhu (by kernel_rfl) (znx (by kernel_rfl)) k bel V) (trodAll_cons_mk (Below.trod yhu (by kernel_rfl) (znx (by kernel_rfl)) i bel U) (trodAll_cons_mk (Below.trod yhu (by kernel_rfl) (znx (by kernel_rfl)) g bel T) trodAll_mk0))),rfl,bel.frame _,fun h=>by cases h⟩
theorem over:Rows.replayAgreeRow.holds Tryz.pinned (OpenSpec.ofChange Rows.replayAgreeSpec):=
 OpenClaim.holds_of_wide 4 Tryz.f4 rfl rfl rfl rfl rfl rfl rfl ⟨rfl,rfl,rfl,rfl,rfl⟩ rfl rfl rfl rfl rfl (by kernel_rfl) Tryz.func4 (by kernel_rfl)
  (znx (by kernel_rfl)) (by unfold Func.isWrapper;first|(rw[if_pos (by decide+kernel)];kernel_rfl)|(rw[if_neg (by decide+kernel)];exact⟨rfl,rfl⟩))
  (fun os started H enc _=>yoj os started H enc)
theorem card:Claim7.holds Tryz.pinned (.plain (OpenSpec.ofChange Rows.replayAgreeSpec)) Rows.replayAgreeCard:=
 Claim7.holds_tied_plain_at .later [] [.data,.data,.data,.data,.sentinel,.sentinel,.pinned] true (true, "3d8ff7650082b3faf2ded0a449116659a1b996fa17b6f66355cf5c9deaf4724b") true over (fun _ h=>by cases h) (by kernel_rfl) (fun _ h=>by cases h) replayAgree_row_tie rfl ⟨rfl,rfl⟩ (by kernel_rfl) rfl
  (fun f fn hf hfn=>by
    obtain rfl:f=4:=Option.some.inj ((show Tryz.prog.funcNamed "foliot/foliotlaw15.ReplayAgree" =some 4 by kernel_rfl).symm.trans hf)|>.symm;obtain rfl:fn=Tryz.f4:=(Option.some.inj (Tryz.func4.symm.trans hfn)).symm;exact⟨by kernel_rfl,fun j t ht=>by
     rw[Tryz.params4]at ht;have hm:t∈[28,22,63]:=by simpa using Array.mem_of_getElem? ht
     have A:([28,22,63].all fun u=> !Tryz.prog.wantsStandIn u)=true:=by kernel_rfl
     exact(show Tryz.prog.wantsStandIn t=false by simpa using List.all_eq_true.1 A t hm)⟩)
  (by kernel_rfl)
end Go.Proofs.YtpagmlndgblhhaaGreatDoor.replayAgree
namespace Go.Proofs.YtpagmlndgblhhaaGreatDoor
theorem replayAgree_holds:Rows.ReplayAgreeCardSaid:=replayAgree.card
#print axioms replayAgree_holds
end Go.Proofs.YtpagmlndgblhhaaGreatDoor
