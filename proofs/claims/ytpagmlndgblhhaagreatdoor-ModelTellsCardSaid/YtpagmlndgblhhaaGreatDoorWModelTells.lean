/- The row of ModelTells and its tied card: what it never wanted is found out: a history in which one thing more is written of a command, or another one, isn't one of the program The conditions: those of the row and of the card. (The frame of this text is the kit's skeleton.) -/
import Derived.Test.YtpagmlndgblhhaaGreatDoorRows
import Derived.Test.YtpagmlndgblhhaaGreatDoorTie
import Derived.Test.YtpagmlndgblhhaaGreatDoorCards
import Derived.WalkKit
import Derived.ProofKit
import Derived.OpenShut
import Derived.ShutString
import Derived.ChangeOld
import Derived.Below
import Derived.Lay
import Derived.SevenTiedAt
import Derived.Stop.Joined
import Derived.Test.YtpagmlndgblhhaaGreatDoorW24
set_option maxRecDepth 100000
set_option maxHeartbeats 8000000
namespace Go.Proofs.YtpagmlndgblhhaaGreatDoor.modelTells
open Go.ChangeShapes Go.WideShapes Go.ChangeAt Go.RowKit
open Go.ChangeMaps (open_string shut_string)
set_option linter.unusedVariables false
theorem own:ownKnob Tryz.prog.godebug=none:=by kernel_rfl
theorem laidOut:laidOutB Tryz.prog=true:=by kernel_rfl
theorem lifted (os:Os)(started:os.Started)(H:Type)(enc:TypeId×Value->H):
  ReturnsInHanded {} Tryz.checked os 8 .any (fun w args=>(Rows.modelTellsSpec.pre enc Tryz.prog Tryz.f8 Rows.modelTellsRow.domain false w args/\laidMetH Tryz.prog Rows.modelTellsRow.laid w)/\sizedMet enc Tryz.prog Tryz.f8 (OpenSpec.ofChange Rows.modelTellsSpec) false w args)
   (Rows.modelTellsSpec.post enc Tryz.prog Tryz.f8 false true false false):=by
 refine yej (C:=Tryz.checked) (X:=fun w _=>laidMetH Tryz.prog Rows.modelTellsRow.laid w) (fun _ _ _ hh h=>h.of_heap hh) own started (by kernel_rfl) Tryz.func8
  (ChangeSpec.witness_shaped (enc:=enc) (C:=Tryz.checked) (os:=os) (X:=fun w _=>laidMetH Tryz.prog Rows.modelTellsRow.laid w) false (World.laidAll Tryz.prog os Rows.modelTellsRow.laid) #[.agg #[.slice none 0 0,.slice none 0 0,.slice none 0 0,.int .i64 0],.slice none 0 0,.agg #[.int .i64 0,.int .i64 0]] 8 (World.laidAll_os _ _ _)
    (World.shaped_of_ZipB (by kernel_rfl) (by kernel_rfl)) (by kernel_rfl) (by kernel_rfl) (by kernel_rfl)
    (by rw[MakeChecks.laidMetH_plain _ _ _ (by kernel_rfl)];exact laidMet_laidAll _ (by kernel_rfl) (by kernel_rfl))) ?_
 intro W I args ds gs J B Z b a;have A:∀(j:Nat) t v,Tryz.f8.params[j]? =some t->args[j]? =some v->Value.okWide Tryz.prog W .any I t v:=B;have Q:=Z;obtain⟨p,q,F,hV,rfl,Ab,Aa⟩:=Z;have c:DataW.TrodAll enc Tryz.prog W 0 (fun _=>true) true Tryz.f8.params.toList args.toList ds p:=F;rw[Tryz.params8]at c A;obtain⟨v0,vs0,d0,Ae,u,q0,P,rfl,rfl,T,o⟩:=trodAll_cons c;obtain⟨Y,i,d1,Ad,s,q1,rfl,rfl,rfl,S,n⟩:=trodAll_cons o;obtain⟨V,g,d2,Ac,r,q2,rfl,rfl,rfl,R,l⟩:=trodAll_cons n;obtain⟨rfl,rfl,rfl⟩:=trodAll_nil l;obtain rfl:args=#[v0,Y,V]:=by cases args;simp_all
 obtain⟨rfl,rfl⟩:=trodVars_none hV;have N:∀x∈u,x.block<W.heap.size:=by obtain⟨m,hm⟩:=T;exact DataW.trod_lt m _ _ _ hm
 obtain⟨k,D,G,rfl⟩:=okWide_slice Tryz.underlying22 (A 1 22 Y rfl rfl);have M:∀x∈s,x.block<W.heap.size:=by obtain⟨m,hm⟩:=S;exact DataW.trod_lt m _ _ _ hm
 have L:∀x∈r,x.block<W.heap.size:=by obtain⟨m,hm⟩:=R;exact DataW.trod_lt m _ _ _ hm
 obtain⟨z,O,rfl,E,K,Af⟩:=yfa (A 0 28 v0 rfl rfl) T;obtain⟨y,U⟩:=yee S;obtain⟨f,d,rfl,w2⟩:=ykj (A 2 78 V rfl rfl) R;have gl:=yoE b a;clear F B b a;refine(yhw z O W gl E K k D G y U.1 (fun e h=>(U.2 e h).1) f d).mono fun e W' ⟨he,bel⟩=> ?_;subst he;exact⟨_,rfl,_,_,_,[],_,[],Q,trodAll_mk1 (shut_bool Tryz.underlying4 _),(trodAll_cons_mk (Below.trod laidOut (by kernel_rfl) (znx (by kernel_rfl)) T bel N) (trodAll_cons_mk (Below.trod laidOut (by kernel_rfl) (znx (by kernel_rfl)) S bel M) (trodAll_cons_mk (Below.trod laidOut (by kernel_rfl) (znx (by kernel_rfl)) R bel L) trodAll_mk0))),rfl,bel.frame _,fun h=>by cases h⟩
theorem over:Rows.modelTellsRow.holds Tryz.pinned (OpenSpec.ofChange Rows.modelTellsSpec):=
 OpenClaim.holds_of_wide 8 Tryz.f8 rfl rfl rfl rfl rfl rfl rfl ⟨rfl,rfl,rfl,rfl,rfl⟩ rfl rfl rfl rfl rfl (by kernel_rfl) Tryz.func8 (by kernel_rfl)
  (znx (by kernel_rfl)) (by unfold Func.isWrapper;first|(rw[if_pos (by decide+kernel)];kernel_rfl)|(rw[if_neg (by decide+kernel)];exact⟨rfl,rfl⟩))
  (fun os started H enc _=>lifted os started H enc)
theorem card:Claim7.holds Tryz.pinned (.plain (OpenSpec.ofChange Rows.modelTellsSpec)) Rows.modelTellsCard:=
 Claim7.holds_tied_plain_at .later [] [.data,.data,.data,.data,.sentinel,.sentinel,.pinned] true (true, "3d8ff7650082b3faf2ded0a449116659a1b996fa17b6f66355cf5c9deaf4724b") true over (fun _ h=>by cases h) (by kernel_rfl) (fun _ h=>by cases h) modelTells_row_tie rfl ⟨rfl,rfl⟩ (by kernel_rfl) rfl
  (fun f fn hf hfn=>by
    obtain rfl:f=8:=Option.some.inj ((show Tryz.prog.funcNamed "foliot/foliotlaw27.ModelTells" =some 8 by kernel_rfl).symm.trans hf)|>.symm;obtain rfl:fn=Tryz.f8:=(Option.some.inj (Tryz.func8.symm.trans hfn)).symm;exact⟨by kernel_rfl,fun j t ht=>by
     rw[Tryz.params8]at ht;have hm:t∈[28,22,78]:=by simpa using Array.mem_of_getElem? ht
     have A:([28,22,78].all fun u=> !Tryz.prog.wantsStandIn u)=true:=by kernel_rfl
     exact(show Tryz.prog.wantsStandIn t=false by simpa using List.all_eq_true.1 A t hm)⟩)
  (by kernel_rfl)
end Go.Proofs.YtpagmlndgblhhaaGreatDoor.modelTells
namespace Go.Proofs.YtpagmlndgblhhaaGreatDoor
theorem modelTells_holds:Rows.ModelTellsCardSaid:=modelTells.card
#print axioms modelTells_holds
end Go.Proofs.YtpagmlndgblhhaaGreatDoor
