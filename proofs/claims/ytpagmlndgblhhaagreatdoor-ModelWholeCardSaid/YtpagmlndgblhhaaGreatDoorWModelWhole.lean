/- The row of ModelWhole and its tied card: without the document: the history of a run that is alone is one of its program, with nothing missing; and so is each beginning of it The conditions: those of the row and of the card. (The frame of this text is the kit's skeleton.) -/
import Derived.Test.YtpagmlndgblhhaaGreatDoorRows
import Derived.Test.YtpagmlndgblhhaaGreatDoorTie
import Derived.Test.YtpagmlndgblhhaaGreatDoorCards
import Derived.WalkKit
import Derived.ProofKit
import Derived.OpenShut
import Derived.ShutString
import Derived.ChangeOld
import Derived.Below
import Derived.Lay
import Derived.SevenTiedAt
import Derived.Stop.Joined
import Derived.Test.YtpagmlndgblhhaaGreatDoorW23
set_option maxRecDepth 100000
set_option maxHeartbeats 8000000
namespace Go.Proofs.YtpagmlndgblhhaaGreatDoor.modelWhole
open Go.ChangeShapes Go.WideShapes Go.ChangeAt Go.RowKit
open Go.ChangeMaps (open_string shut_string)
set_option linter.unusedVariables false
theorem own:ownKnob Tryz.prog.godebug=none:=by kernel_rfl
theorem laidOut:laidOutB Tryz.prog=true:=by kernel_rfl
theorem lifted (os:Os)(started:os.Started)(H:Type)(enc:TypeId×Value->H):
  ReturnsInHanded {} Tryz.checked os 7 .any (fun w args=>(Rows.modelWholeSpec.pre enc Tryz.prog Tryz.f7 Rows.modelWholeRow.domain false w args/\laidMetH Tryz.prog Rows.modelWholeRow.laid w)/\sizedMet enc Tryz.prog Tryz.f7 (OpenSpec.ofChange Rows.modelWholeSpec) false w args)
   (Rows.modelWholeSpec.post enc Tryz.prog Tryz.f7 false true false false):=by
 refine yej (C:=Tryz.checked) (X:=fun w _=>laidMetH Tryz.prog Rows.modelWholeRow.laid w) (fun _ _ _ hh h=>h.of_heap hh) own started (by kernel_rfl) Tryz.func7
  (ChangeSpec.witness_shaped (enc:=enc) (C:=Tryz.checked) (os:=os) (X:=fun w _=>laidMetH Tryz.prog Rows.modelWholeRow.laid w) false (World.laidAll Tryz.prog os Rows.modelWholeRow.laid) #[.agg #[.slice none 0 0,.slice none 0 0,.slice none 0 0,.int .i64 0],.slice none 0 0,.int .i64 0] 8 (World.laidAll_os _ _ _)
    (World.shaped_of_ZipB (by kernel_rfl) (by kernel_rfl)) (by kernel_rfl) (by kernel_rfl) (by kernel_rfl)
    (by rw[MakeChecks.laidMetH_plain _ _ _ (by kernel_rfl)];exact laidMet_laidAll _ (by kernel_rfl) (by kernel_rfl))) ?_
 intro W I args ds gs J B V Z Y;have A:∀(j:Nat) t v,Tryz.f7.params[j]? =some t->args[j]? =some v->Value.okWide Tryz.prog W .any I t v:=B;have P:=V;obtain⟨p,q,F,y,rfl,u,s⟩:=V;have a:DataW.TrodAll enc Tryz.prog W 0 (fun _=>true) true Tryz.f7.params.toList args.toList ds p:=F;rw[Tryz.params7]at a A;obtain⟨v0,vs0,d0,Ac,n,q0,O,rfl,rfl,R,k⟩:=trodAll_cons a;obtain⟨U,d,d1,Ab,l,q1,rfl,rfl,rfl,Q,i⟩:=trodAll_cons k;obtain⟨T,c,d2,Aa,p2,q2,rfl,rfl,rfl,z,g⟩:=trodAll_cons i;obtain⟨rfl,rfl,rfl⟩:=trodAll_nil g;obtain rfl:args=#[v0,U,T]:=by cases args;simp_all
 obtain⟨rfl,rfl⟩:=trodVars_none y;have M:∀x∈n,x.block<W.heap.size:=by obtain⟨m,hm⟩:=R;exact DataW.trod_lt m _ _ _ hm
 obtain⟨f,D,G,rfl⟩:=okWide_slice Tryz.underlying22 (A 1 22 U rfl rfl);have L:∀x∈l,x.block<W.heap.size:=by obtain⟨m,hm⟩:=Q;exact DataW.trod_lt m _ _ _ hm
 obtain⟨r,N,rfl,E,K,Ad⟩:=yfa (A 0 28 v0 rfl rfl) R;obtain⟨o,S⟩:=yee Q;obtain⟨a2,rfl,rfl,rfl,b⟩:=open_int Tryz.underlying3 (A 2 3 T rfl rfl) z;have gl:=yoE Z Y;clear F B Z Y;refine(yhv r N W gl E K f D G o S.1 (fun e h=>(S.2 e h).1) a2).mono fun e W' ⟨he,bel⟩=> ?_;subst he;exact⟨_,rfl,_,_,_,[],_,[],P,trodAll_mk1 (shut_bool Tryz.underlying4 _),(trodAll_cons_mk (Below.trod laidOut (by kernel_rfl) (znx (by kernel_rfl)) R bel M) (trodAll_cons_mk (Below.trod laidOut (by kernel_rfl) (znx (by kernel_rfl)) Q bel L) (trodAll_cons_mk (shut_int Tryz.underlying3 b) trodAll_mk0))),rfl,bel.frame _,fun h=>by cases h⟩
theorem over:Rows.modelWholeRow.holds Tryz.pinned (OpenSpec.ofChange Rows.modelWholeSpec):=
 OpenClaim.holds_of_wide 7 Tryz.f7 rfl rfl rfl rfl rfl rfl rfl ⟨rfl,rfl,rfl,rfl,rfl⟩ rfl rfl rfl rfl rfl (by kernel_rfl) Tryz.func7 (by kernel_rfl)
  (znx (by kernel_rfl)) (by unfold Func.isWrapper;first|(rw[if_pos (by decide+kernel)];kernel_rfl)|(rw[if_neg (by decide+kernel)];exact⟨rfl,rfl⟩))
  (fun os started H enc _=>lifted os started H enc)
theorem card:Claim7.holds Tryz.pinned (.plain (OpenSpec.ofChange Rows.modelWholeSpec)) Rows.modelWholeCard:=
 Claim7.holds_tied_plain_at .later [] [.data,.data,.data,.data,.sentinel,.sentinel,.pinned] true (true, "3d8ff7650082b3faf2ded0a449116659a1b996fa17b6f66355cf5c9deaf4724b") true over (fun _ h=>by cases h) (by kernel_rfl) (fun _ h=>by cases h) modelWhole_row_tie rfl ⟨rfl,rfl⟩ (by kernel_rfl) rfl
  (fun f fn hf hfn=>by
    obtain rfl:f=7:=Option.some.inj ((show Tryz.prog.funcNamed "foliot/foliotlaw27.ModelWhole" =some 7 by kernel_rfl).symm.trans hf)|>.symm;obtain rfl:fn=Tryz.f7:=(Option.some.inj (Tryz.func7.symm.trans hfn)).symm;exact⟨by kernel_rfl,fun j t ht=>by
     rw[Tryz.params7]at ht;have hm:t∈[28,22,3]:=by simpa using Array.mem_of_getElem? ht
     have A:([28,22,3].all fun u=> !Tryz.prog.wantsStandIn u)=true:=by kernel_rfl
     exact(show Tryz.prog.wantsStandIn t=false by simpa using List.all_eq_true.1 A t hm)⟩)
  (by kernel_rfl)
end Go.Proofs.YtpagmlndgblhhaaGreatDoor.modelWhole
namespace Go.Proofs.YtpagmlndgblhhaaGreatDoor
theorem modelWhole_holds:Rows.ModelWholeCardSaid:=modelWhole.card
#print axioms modelWhole_holds
end Go.Proofs.YtpagmlndgblhhaaGreatDoor
