/- Parts of the proof: what the functions and the plain laws give that later parts lean on. Conditions: none beyond those that each theorem names. -/
import Derived.Test.YtakljipkaoahnaaGreatDoorA7
import Derived.Test.YtakljipkaoahnaaGreatDoorA8
set_option maxRecDepth 100000
set_option maxHeartbeats 8000000
namespace Go.Va
open Go.Own Go.RowKit
def checkL (x:Val):Int:=bif (walkV x 0 (0,0)).2 !=0 then(walkV x 0 (0,0)).2 else bif decide (512<(bytesV x).length)then 2 else 0
mutual
theorem walkV_ok:∀(x:Val) (d p:Nat),(walkV x d (p,0)).2=0→(bytesV x).length+280*p≤280*(walkV x d (p,0)).1
 | .mk k n s l,d,p,h=>by
   rw[walkV]at h⊢
   rw[bytesV]
   simp only[bne_self_eq_false,cond_false]at h⊢
   cases h2:decide (256≤p)with
   |true=>rw[h2]at h;simp at h
   |false=>
    rw[h2]at h
    simp only[cond_false]at h⊢
    have z1:=numB_len (zigL n)
    have z2:=numB_len l.length
    cases h3:(k==0||k==1)with
    |true=>
     rw[h3]at h
     simp only[cond_true]
     have h4:k=0∨k=1:=by simpa using h3
     rcases h4 with rfl|rfl<;>simp<;>omega
    |false=>
     rw[h3]at h
     simp only[cond_false]at h⊢
     rw[Bool.or_eq_false_iff]at h3
     rw[h3.2]
     cases h5:(k==2)with
     |true=>
      rw[h5]at h
      simp only[cond_true,cond_false]at h⊢
      have hs:¬256<s.size:=fun e=>by rw[show decide (256<s.size)=true from by simpa using e]at h;simp at h
      have z3:=numB_len s.data.toList.length
      simp[Go.Va.textB]
      simp at z3
      omega
     |false=>
      rw[h5]at h
      simp only[cond_false]at h⊢
      cases h6:(k==3)with
      |true=>
       rw[h6]at h
       simp only[cond_true]at h⊢
       generalize he:(bif decide (8≤d)then(30:Int)else bif decide (64<l.length)then 2 else 0)=e at h⊢
       by_cases hz:e=0
       ·subst hz
        have:=walkL_ok l (d+1) (p+1) h
        simp
        omega
       ·rw[walkL_err _ _ _ (by simpa using hz)]at h
        exact absurd h hz
      |false=>rw[h6]at h;simp at h
theorem walkL_ok:∀(l:List Val) (d p:Nat),(walkV.walkL l d (p,0)).2=0→(bytesV.bytesL l).length+280*p≤280*(walkV.walkL l d (p,0)).1
 |[],d,p,h=>by rw[walkL_nil,bytesL_nil];simp
 |x::r,d,p,h=>by
  rw[walkL_cons]at h⊢
  simp only[bne_self_eq_false,cond_false]at h⊢
  rw[bytesL_cons,List.length_append]
  generalize hc:walkV x d (p,0)=c at h⊢
  obtain⟨q,e⟩:=c
  by_cases hz:e=0
  ·subst hz
   have h1:=walkV_ok x d p (by rw[hc])
   have h2:=walkL_ok r d q h
   rw[hc]at h1
   dsimp only at h1
   omega
  ·rw[walkL_err _ _ _ (by simpa using hz)]at h
   exact absurd h hz
end
theorem bytes_small {x:Val}(h:(walkV x 0 (0,0)).2=0):(bytesV x).length≤71680:=by
 have h1:=walkV_ok x 0 0 h
 have h2:=walkV_bd x 0 (0,0) (fun _=>by decide) h
 omega
theorem quotL_len:∀(n:Nat) (acc:List UInt8) (k:Nat) (r:List UInt8),r.length≤n→∀t k2,quotL acc k r=some (t,k2)→t.length≤acc.length+r.length
 |n,acc,k,[],_,t,k2,h=>by rw[quotL_nil]at h;cases h
 |0,acc,k,c::r,hl,t,k2,h=>by simp at hl
 |n+1,acc,k,c::r,hl,t,k2,h=>by
  rw[quotL_cons]at h
  simp only[List.length_cons]at hl⊢
  split at h
  ·cases h;omega
  ·split at h
   ·cases h
   ·split at h
    ·have:=quotL_len n _ _ r (by omega) _ _ h;simp at this;omega
    ·cases r with
     |nil=>cases h
     |cons d r1=>
      dsimp only at h
      simp only[List.length_cons]at hl⊢
      split at h
      ·have:=quotL_len n _ _ r1 (by omega) _ _ h;simp at this;omega
      ·split at h
       ·have:=quotL_len n _ _ r1 (by omega) _ _ h;simp at this;omega
       ·split at h
        ·cases h
        ·cases r1 with
         |nil=>cases h
         |cons a r2=>
          cases r2 with
          |nil=>cases h
          |cons b r3=>
           dsimp only at h
           simp only[List.length_cons]at hl⊢
           split at h
           ·cases h
           ·have:=quotL_len n _ _ r3 (by omega) _ _ h;simp at this;omega
theorem parseInt_bound {l:List UInt8}{v:Int}(h:Lib.parseIntB 64 l= .ok v): -9223372036854775808≤v∧v≤9223372036854775807:=by
 unfold Lib.parseIntB at h
 cases l with
 |nil=>cases h
 |cons c r=>
  dsimp only at h
  split at h
  ·cases h
  ·cases h
  ·rename_i u hu
   split at h
   ·cases h
   ·rename_i h1
    split at h
    ·cases h
    ·rename_i h2
     cases h
     by_cases hn:c.toNat=45
     ·simp[hn]at h2⊢
      omega
     ·simp[hn]at h1⊢
      omega
theorem numR_wf {s:List UInt8}{k:Nat}{x:Val}{k2:Nat}(h:numR s k= .ok x k2):x.wf:=by
 unfold numR at h
 split at h
 ·rename_i v hv
  split at h
  ·cases h
   have:=parseInt_bound hv
   rw[Val.wf,Val.wf.wfL]
   exact⟨⟨by decide,by decide⟩,this,Nat.zero_le _,trivial⟩
  ·cases h
 ·cases h
theorem headR_wf {L:Nat→PR}{s:List UInt8}{k:Nat}(hs:s.length≤4294967280)(hL:∀j x k2,L j= .ok x k2→x.wf){x:Val}{k2:Nat}(h:headR L s k= .ok x k2):x.wf:=by
 unfold headR at h
 split at h
 ·cases h
  rw[vNil,Val.wf,Val.wf.wfL]
  exact⟨⟨by decide,by decide⟩,⟨by decide,by decide⟩,Nat.zero_le _,trivial⟩
 ·split at h
  ·cases hq:quotL [] (k+1) (s.drop (k+1))with
   |some r=>
    obtain⟨t,k3⟩:=r
    rw[hq]at h
    cases h
    have:=quotL_len _ _ _ _ (Nat.le_refl _) _ _ hq
    simp at this
    rw[Val.wf,Val.wf.wfL]
    exact⟨⟨by decide,by decide⟩,⟨by decide,by decide⟩,(by show t.toArray.size≤_;simp;omega),trivial⟩
   |none=>rw[hq]at h;cases h
  ·split at h
   ·exact hL _ _ _ h
   ·exact numR_wf h
theorem listR_wf {V:Nat→PR}{s:List UInt8}(hV:∀j x k2,V j= .ok x k2→x.wf):∀(f k:Nat) (acc:List Val) (x:Val) (k2:Nat),Val.wf.wfL acc→listR V s f k acc= .ok x k2→x.wf
 |0,k,acc,x,k2,ha,h=>by cases h
 |f+1,k,acc,x,k2,ha,h=>by
  rw[listR]at h
  split at h
  ·cases h
   rw[Val.wf]
   exact⟨⟨by decide,by decide⟩,⟨by decide,by decide⟩,Nat.zero_le _,ha⟩
  ·split at h
   ·cases h
   ·split at h
    ·rename_i y k3 hv
     refine listR_wf hV f k3 _ x k2 ?_ h
     rw[Val.wfL_iff]at ha⊢
     intro z hz
     rcases List.mem_append.1 hz with hz|hz
     ·exact ha z hz
     ·simp at hz
      subst hz
      exact hV _ _ _ hv
    ·cases h
    ·cases h
theorem valR_wf:∀(n:Nat) (s:List UInt8) (k:Nat) (x:Val) (k2:Nat),s.length≤4294967280→valR n s k= .ok x k2→x.wf
 |0,s,k,x,k2,hs,h=>headR_wf hs (fun j x k2 h=>by cases h) h
 |n+1,s,k,x,k2,hs,h=>headR_wf hs (fun j x k2 h=>listR_wf (fun j x k2 h=>valR_wf n s j x k2 hs h) _ _ _ _ _ (by rw[Val.wf.wfL];trivial) h) h
def parseV (s:List UInt8):Val×Int:=
 match valR 8 s 0 with
 | .deep=>(vNil,30)
 | .bad=>(vNil,8)
 | .ok x k=>if k<s.length then(vNil,8)else if checkL x≠0 then(vNil,checkL x)else(x,0)
end Go.Va
namespace Go.Proofs.YtakljipkaoahnaaGreatDoor
open Go.RowKit Go.Own Go.Own.MapTy Go.Va Go.Sort
open Go.Own.Cells (sz enc)
theorem check_any (x:Val)(ck cn:Int)(cs:ByteArray)(la:Option Addr)(ln lc:Nat)(F:Nat→Prop)(w:World)(C:CF F w ⟨ck,cn,cs,la,ln,lc⟩ x)(hw:x.wf)(r:Int)(hr:checkL x=r):
  Calls Tryz.prog 70 #[.agg #[.int .i64 ck,.int .i64 cn,.string cs,.slice la ln lc]] w fun e w'=>e= .returned (.int .i64 r)∧Below w.heap.size w w':=by
 have C0:=C.mono (G:=fun j=>j<w.heap.size) (fun j _ h=>h)
 have K0:Keeps (fun _=>False) w ((w.alloc (.cells #[.int .i64 ck,.int .i64 cn,.string cs,.slice la ln lc] 39)).alloc (.cells #[.int .i64 0,.int .i64 0] 182)):=((Keeps.refl _ _).alloc _).alloc _
 have CW:=zhd (show Calls Tryz.prog 107 #[.pointer (some ⟨w.heap.size+1,0,none⟩),.agg #[.int .i64 ck,.int .i64 cn,.string cs,.slice la ln lc],.int .i64 0] _ (WPost _ (w.heap.size+1) (walkV x 0 (0,0)))from walk_any x.parts x (Nat.le_refl _) (w.heap.size+1) 0 0 0 ⟨ck,cn,cs,la,ln,lc⟩ _ _ (show CX _ (w.heap.size+1) (0,0)from heap_new2) (C0.keep K0 (fun _ _ f=>f)) (by omega) (by omega) (fun _=>by omega))
 have HC:=zh3 C0 hw hr
 clear C C0 hw hr K0
 go_enter Tryz.func70,Tryz.ntmps70
 go_wp2_with fail
 refine CW.out.mono ?_
 rintro e w2 ⟨rfl,hX,hK⟩
 have q:∀o,w2.cell? ⟨w.heap.size,o,none⟩=(#[.int .i64 ck,.int .i64 cn,.string cs,.slice la ln lc]:Array Value)[o]? :=fun o=>by
  rw[hK.cell (p:=⟨w.heap.size,o,none⟩) (by simp;omega) (show¬w.heap.size=w.heap.size+1 by omega),zch heap_lt2]
 have q0:=q 0
 have q1:=q 1
 have q2:=q 2
 have q3:=q 3
 simp only[List.getElem?_toArray,List.getElem?_cons_zero,List.getElem?_cons_succ]at q0 q1 q2 q3
 have c1:=hX.c1
 have sz2:=hK.size
 simp at sz2
 have sz3:w.heap.size<w2.heap.size:=by omega
 have HK:=zhd (show Below w.heap.size w w2 from(((zal).alloc (by simp) _).trans (hK.below (B:=w.heap.size) (by simp;omega) (fun k hk e=>by omega))))
 clear q CW hX hK
 generalize hc:walkV x 0 (0,0)=c at*
 cases he:(c.2 !=0)with
 |true=>
  have hr:=HC.out.2.2
  unfold checkL at hr
  rw[hc,he]at hr
  simp only[cond_true]at hr
  have HR:=zhd hr
  clear hr hc
  go_wp2_with fail
  go_ret
  exact⟨by rw[←HR.out];rfl,HK.out⟩
 |false=>
  have hr:=HC.out.2.2
  unfold checkL at hr
  rw[hc,he]at hr
  simp only[cond_false]at hr
  have hb:=bytes_small (x:=x) (by rw[hc];simpa using he)
  have C2:=HC.out.1.keep (zkb (S:=fun _=>False) HK.out) (fun _ _ f=>f)
  have W2:WB (w2.alloc (.cells #[.slice none 0 0] 185)) w2.heap.size []:=⟨none,0,heap_alloc_new _ _,RowAt.nil _ _,fun e=>by cases e⟩
  have C3:=C2.keep (S:=fun _=>False) ((Keeps.refl _ _).alloc (.cells #[.slice none 0 0] 185)) (fun _ _ f=>f)
  have CY:=zhd (write_any x.parts x (Nat.le_refl _) w2.heap.size [] ⟨ck,cn,cs,la,ln,lc⟩ _ _ W2 C3 (fun j h=>⟨by omega,fun⟨v,h1,h2⟩=>by
   rw[heap_alloc_new]at h1
   cases h1
   cases h2⟩) HC.out.2.1 (by simp;omega))
  have HR:=zhd hr
  clear hr hc C2 C3 W2
  go_wp2_with fail
  refine CY.out.mono ?_
  rintro e w3 ⟨rfl,H3⟩
  rw[List.nil_append]at H3
  have HB3:=zhd (show Below w.heap.size w w3 from(HK.out.alloc (by omega) _).trans (H3.out.2.1.below (B:=w.heap.size) (by simp;omega) (fun k hk e=>e.elim (fun e=>by omega) (fun⟨v,h1,h2⟩=>by
   rw[heap_alloc_new]at h1
   cases h1
   cases h2))))
  have CL:=zhd (len_any w2.heap.size _ _ H3.out.1)
  clear CY
  go_wp2_with fail
  refine CL.out.mono ?_
  rintro e w4 ⟨rfl,rfl⟩
  generalize hn:(bytesV x).length=n at*
  cases hg:decide (512<n)with
  |true=>
   rw[hg]at HR
   have h5:(512:Int)<n:=by have:=of_decide_eq_true hg;omega
   clear hn hg
   go_wp2_with fail
   go_ret
   exact⟨by rw[←HR.out];rfl,HB3.out⟩
  |false=>
   rw[hg]at HR
   have h5:¬(512:Int)<n:=by have:=of_decide_eq_false hg;omega
   clear hn hg
   go_wp2_with fail
   go_ret
   exact⟨by rw[←HR.out];rfl,HB3.out⟩
theorem below4 {w W:World}(h:Below w.heap.size w W)(x0 x1 x2 x3:Value):Below w.heap.size w ((((W.setCell ⟨w.heap.size,0,none⟩ x0).setCell ⟨w.heap.size,1,none⟩ x1).setCell ⟨w.heap.size,2,none⟩ x2).setCell ⟨w.heap.size,3,none⟩ x3):=
 (((h.setCell (Nat.le_refl _) _).setCell (Nat.le_refl _) _).setCell (Nat.le_refl _) _).setCell (Nat.le_refl _) _
theorem keep4 (B:Nat)(W:World)(x0 x1 x2 x3:Value):Keeps (fun j=>j=B) W ((((W.setCell ⟨B,0,none⟩ x0).setCell ⟨B,1,none⟩ x1).setCell ⟨B,2,none⟩ x2).setCell ⟨B,3,none⟩ x3):=
 ((((Keeps.refl (fun j=>j=B) W).setCell (p:=⟨B,0,none⟩) (.inl rfl) x0).setCell (p:=⟨B,1,none⟩) (.inl rfl) x1).setCell (p:=⟨B,2,none⟩) (.inl rfl) x2).setCell (p:=⟨B,3,none⟩) (.inl rfl) x3
def PPost (w:World)(r:Val×Int)(e:Ending)(w':World):Prop:=
 ∃c:VC,e= .returned (.tuple #[.agg #[.int .i64 c.kind,.int .i64 c.n,.string c.s,.slice c.la c.ln c.lc],.int .i64 r.2])∧CF (fun j=>w.heap.size≤j) w' c r.1∧Below w.heap.size w w'
theorem cf_nil (F:Nat→Prop)(w:World):CF F w ⟨0,0,⟨#[]⟩,none,0,0⟩ vNil:=⟨rfl,rfl,rfl,VF.nil _ _⟩
theorem parse_any {N:Nat}(s:ByteArray)(w:World)(hs:s.size≤4294967280)(G:Gl Tryz.prog N w)(r:Val×Int)(hr:parseV s.data.toList=r):
  Calls Tryz.prog 41 #[.string s] w (PPost w r):=by
 have hn:=G.n
 have T0:TX ((w.alloc (.cells #[.int .i64 0,.int .i64 0,.string ⟨#[]⟩,.slice none 0 0] 39)).alloc (.cells #[.string s,.int .i64 0,.bool false] 164)) (w.heap.size+1) s 0 false:=heap_new2
 have VA:=zhd (show Calls Tryz.prog 89 #[.pointer (some ⟨w.heap.size+1,0,none⟩),.int .i64 0] _ _ from value_any 8 0 rfl (w.heap.size+1) s 0 _ T0 hs (Nat.zero_le _) ((G.alloc _).alloc _) (by omega))
 have HH:=zh2 G hr
 clear G hr T0
 go_enter Tryz.func41,Tryz.ntmps41
 go_wp2_with fail
 refine VA.out.mono ?_
 rintro e w2 ⟨c,k2,hk2,K2,H2⟩
 have hr:=HH.out.2
 unfold parseV at hr
 have q:∀o,w2.cell? ⟨w.heap.size,o,none⟩=(#[.int .i64 0,.int .i64 0,.string ⟨#[]⟩,.slice none 0 0]:Array Value)[o]? :=fun o=>by
  rw[K2.cell (p:=⟨w.heap.size,o,none⟩) (by simp;omega) (show¬w.heap.size=w.heap.size+1 by omega),zch heap_lt2]
 have qf:∀o,w2.frozen? ⟨w.heap.size,o,none⟩=false:=fun o=>by
  rw[K2.frozen (p:=⟨w.heap.size,o,none⟩) (by simp;omega) (show¬w.heap.size=w.heap.size+1 by omega),zfr heap_lt2]
 have q0:=q 0
 have q1:=q 1
 have q2:=q 2
 have q3:=q 3
 simp only[List.getElem?_toArray,List.getElem?_cons_zero,List.getElem?_cons_succ]at q0 q1 q2 q3
 have sz2:=K2.size
 simp at sz2
 have sz3:w.heap.size<w2.heap.size:=by omega
 have sz4:w.heap.size+1<w2.heap.size:=by omega
 have HK:=zhd (show Below w.heap.size w w2 from(((zal).alloc (by simp) _).trans (K2.below (B:=w.heap.size) (by simp;omega) (fun k hk e=>by omega))))
 clear q VA K2
 generalize hv:valR 8 s.data.toList 0=v at*
 have hslen:s.data.toList.length=s.size:=by simp
 rw[hslen]at hr
 cases v with
 |deep=>
  obtain⟨rfl,T2⟩:=H2
  have c0:=T2.c0
  have c1:=T2.c1
  have c2:=T2.c2
  have HR:=zhd hr
  clear hr T2 hv hslen
  go_wp2_with fail
  rw[←HR.out]
  exact bodyPost_ret (v:=.tuple #[.agg #[.int .i64 0,.int .i64 0,.string ⟨#[]⟩,.slice none 0 0],.int .i64 30]) (by simp only[results,Tryz.results41];go_simp) rfl ⟨⟨0,0,⟨#[]⟩,none,0,0⟩,rfl,cf_nil _ _,(below4 HK.out _ _ _ _).alloc (by simp;omega) _⟩
 |bad=>
  obtain⟨rfl,T2⟩:=H2
  have c0:=T2.c0
  have c1:=T2.c1
  have c2:=T2.c2
  have HR:=zhd hr
  clear hr T2 hv hslen
  go_wp2_with fail
  rw[←HR.out]
  exact bodyPost_ret (v:=.tuple #[.agg #[.int .i64 0,.int .i64 0,.string ⟨#[]⟩,.slice none 0 0],.int .i64 8]) (by simp only[results,Tryz.results41];go_simp) rfl ⟨⟨0,0,⟨#[]⟩,none,0,0⟩,rfl,cf_nil _ _,(below4 HK.out _ _ _ _).alloc (by simp;omega) _⟩
 |ok x k=>
  obtain⟨rfl,rfl,hC,T2⟩:=H2
  have c0:=T2.c0
  have c1:=T2.c1
  have c2:=T2.c2
  have hwf:=valR_wf 8 _ _ _ _ (by omega) hv
  dsimp only at hr
  by_cases hkl:k2<s.size
  ·rw[if_pos hkl]at hr
   have e1:(k2:Int)<s.size:=by omega
   have e2:decide (k2<s.size)=true:=by rw[decide_eq_true_eq];exact hkl
   have HR:=zhd hr
   clear hr T2 hv hslen hC hwf
   go_wp2_with fail
   rw[←HR.out]
   exact bodyPost_ret (v:=.tuple #[.agg #[.int .i64 0,.int .i64 0,.string ⟨#[]⟩,.slice none 0 0],.int .i64 8]) (by simp only[results,Tryz.results41];go_simp) rfl ⟨⟨0,0,⟨#[]⟩,none,0,0⟩,rfl,cf_nil _ _,(below4 HK.out _ _ _ _).alloc (by simp;omega) _⟩
  ·rw[if_neg hkl]at hr
   have e1:¬(k2:Int)<s.size:=by omega
   have e2:decide (k2<s.size)=false:=by rw[decide_eq_false_iff_not];exact hkl
   have hC1:=(hC.mono (G:=fun j=>w.heap.size<j) (fun j h _=>by simp at h;omega)).keep (S:=fun _=>False) ((Keeps.refl _ _).alloc (.cells #[.int .i64 c.kind,.int .i64 c.n,.string c.s,.slice c.la c.ln c.lc] 39)) (fun _ _ f=>f)
   have CC:=zhd (check_any x c.kind c.n c.s c.la c.ln c.lc _ _ hC1 hwf _ rfl)
   generalize hcl:checkL x=cl at*
   have HX:=zhd hC1
   clear T2 hv hslen hC hwf hC1
   go_wp2_with fail
   refine CC.out.mono ?_
   rintro e w3 ⟨rfl,hB3⟩
   have p0:w3.cell? ⟨w2.heap.size,0,none⟩=some (.int .i64 c.kind):=by rw[hB3.cell (p:=⟨w2.heap.size,0,none⟩) (by simp),zch (heap_alloc_new _ _)];rfl
   have p1:w3.cell? ⟨w2.heap.size,1,none⟩=some (.int .i64 c.n):=by rw[hB3.cell (p:=⟨w2.heap.size,1,none⟩) (by simp),zch (heap_alloc_new _ _)];rfl
   have p2:w3.cell? ⟨w2.heap.size,2,none⟩=some (.string c.s):=by rw[hB3.cell (p:=⟨w2.heap.size,2,none⟩) (by simp),zch (heap_alloc_new _ _)];rfl
   have p3:w3.cell? ⟨w2.heap.size,3,none⟩=some (.slice c.la c.ln c.lc):=by rw[hB3.cell (p:=⟨w2.heap.size,3,none⟩) (by simp),zch (heap_alloc_new _ _)];rfl
   have q0':w3.cell? ⟨w.heap.size,0,none⟩=some (.int .i64 0):=by rw[hB3.cell (p:=⟨w.heap.size,0,none⟩) (by simp;omega)];exact(World.cell?_of_block (w:=w2) (Below.heap_alloc _ _ _ sz3)).trans q0
   have q1':w3.cell? ⟨w.heap.size,1,none⟩=some (.int .i64 0):=by rw[hB3.cell (p:=⟨w.heap.size,1,none⟩) (by simp;omega)];exact(World.cell?_of_block (w:=w2) (Below.heap_alloc _ _ _ sz3)).trans q1
   have q2':w3.cell? ⟨w.heap.size,2,none⟩=some (.string ⟨#[]⟩):=by rw[hB3.cell (p:=⟨w.heap.size,2,none⟩) (by simp;omega)];exact(World.cell?_of_block (w:=w2) (Below.heap_alloc _ _ _ sz3)).trans q2
   have q3':w3.cell? ⟨w.heap.size,3,none⟩=some (.slice none 0 0):=by rw[hB3.cell (p:=⟨w.heap.size,3,none⟩) (by simp;omega)];exact(World.cell?_of_block (w:=w2) (Below.heap_alloc _ _ _ sz3)).trans q3
   have qf':∀o,w3.frozen? ⟨w.heap.size,o,none⟩=false:=fun o=>by rw[hB3.frozen (p:=⟨w.heap.size,o,none⟩) (by simp;omega)];exact(World.frozen?_of_block (w:=w2) (Below.heap_alloc _ _ _ sz3)).trans (qf o)
   have sz5:=hB3.size
   simp at sz5
   have sz6:w.heap.size<w3.heap.size:=by omega
   have sz7:w2.heap.size<w3.heap.size:=by omega
   have HB:=zhd (show Below w.heap.size w w3 from(HK.out.alloc (by omega) _).trans (hB3.mono (by simp;omega)))
   have HX3:=zhd (HX.out.keep (zkb (S:=fun _=>False) hB3) (fun _ _ f=>f))
   clear hB3 c0 c1 c2 q0 q1 q2 q3 qf CC HX
   cases hz:(cl !=0)with
   |true=>
    rw[if_pos (by simpa using hz)]at hr
    have HR:=zhd hr
    clear hr hcl
    go_wp2_with fail
    rw[←HR.out]
    exact bodyPost_ret (v:=.tuple #[.agg #[.int .i64 0,.int .i64 0,.string ⟨#[]⟩,.slice none 0 0],.int .i64 cl]) (by simp only[results,Tryz.results41];go_simp) rfl ⟨⟨0,0,⟨#[]⟩,none,0,0⟩,rfl,cf_nil _ _,below4 HB.out _ _ _ _⟩
   |false=>
    rw[if_neg (by simpa using hz)]at hr
    have HR:=zhd hr
    clear hr hcl
    go_wp2_with fail
    rw[←HR.out]
    exact bodyPost_ret (v:=.tuple #[.agg #[.int .i64 c.kind,.int .i64 c.n,.string c.s,.slice c.la c.ln c.lc],.int .i64 0]) (by simp only[results,Tryz.results41];go_simp) rfl ⟨c,rfl,(HX3.out.keep (keep4 w.heap.size w3 _ _ _ _) (fun j h e=>by omega)).mono (fun j h _=>by omega),below4 HB.out _ _ _ _⟩
end Go.Proofs.YtakljipkaoahnaaGreatDoor
namespace Go.Va
open Go.Own Go.RowKit
def numberL (s:List UInt8):Option Nat:=
 match Lib.atoiAll s with
 | .ok v=>if 0≤v∧v<100∧Lib.decDigits v.toNat=s then some v.toNat else none
 |_=>none
def quotedL (s:List UInt8):Option ByteArray:=if(parseV s).2=0∧(parseV s).1.kind=2 then some (parseV s).1.txt else none
end Go.Va
namespace Go.Proofs.YtakljipkaoahnaaGreatDoor
open Go.RowKit Go.Own Go.Own.MapTy Go.Va Go.Sort
open Go.Own.Cells (sz enc)
def QUPost (w:World)(r:Option ByteArray)(e:Ending)(w':World):Prop:=
 Below w.heap.size w w'∧match r with
  |some t=>e= .returned (.tuple #[.string t,.bool true])
  |none=>∃t,e= .returned (.tuple #[.string t,.bool false])
theorem quotedA_any {N:Nat}(s:ByteArray)(w:World)(hs:s.size≤4294967280)(G:Gl Tryz.prog N w):Calls Tryz.prog 120 #[.string s] w (QUPost w (quotedL s.data.toList)):=by
 have PA:=zhd (parse_any s w hs G _ rfl)
 clear G
 unfold quotedL
 generalize parseV s.data.toList=p at*
 obtain⟨x,er⟩:=p
 dsimp only
 generalize hr:(if er=0∧x.kind=2 then some x.txt else none)=r
 have HR:=zhd hr
 clear hr
 go_enter Tryz.func120,Tryz.ntmps120
 go_wp2_with fail
 refine PA.out.mono ?_
 rintro e w1 ⟨c,rfl,hC,hB⟩
 have HC:=zh2 hC hB
 clear hC hB
 go_wp2_with fail
 obtain⟨w2,hw2⟩:∃w2,w2=w1.alloc (.cells #[.int .i64 c.kind,.int .i64 c.n,.string c.s,.slice c.la c.ln c.lc] 39):=⟨_,rfl⟩
 have z0:w2.cell? ⟨w1.heap.size,0,none⟩=some (.int .i64 c.kind):=by rw[hw2,zch (heap_alloc_new _ _)];rfl
 have z2:w2.cell? ⟨w1.heap.size,2,none⟩=some (.string c.s):=by rw[hw2,zch (heap_alloc_new _ _)];rfl
 have sz2:w1.heap.size<w2.heap.size:=by rw[hw2];simp
 have HB:=zhd (show Below w.heap.size w w2 from by rw[hw2];exact HC.out.2.alloc HC.out.2.size _)
 rw[←hw2]
 clear hw2
 cases h1:(er==0)with
 |false=>
  refine wp_region_ext (by kernel_rfl) (by kernel_rfl) ?_
  repeat(go_big_quiet_step (fail))
  refine wpQuiet_nil ?_
  intro w7 hB7
  go_wp2_with fail
  have hn:r=none:=by rw[←HR.out,if_neg (fun h=>by rw[h.1]at h1;simp at h1)]
  subst hn
  exact bodyPost_ret (v:=.tuple #[.string c.s,.bool false]) (by simp only[results,Tryz.results120];go_simp) rfl ⟨HB.out.trans (hB7.mono HB.out.size),_,rfl⟩
 |true=>
  cases h2:(c.kind==2)with
  |false=>
   refine wp_region_ext (by kernel_rfl) (by kernel_rfl) ?_
   repeat(go_big_quiet_step (fail))
   refine wpQuiet_nil ?_
   intro w7 hB7
   go_wp2_with fail
   have hn:r=none:=by
    rw[←HR.out,if_neg (fun h=> ?_)]
    have:=HC.out.1.kind
    rw[h.2]at this
    rw[this]at h2
    simp at h2
   subst hn
   exact bodyPost_ret (v:=.tuple #[.string c.s,.bool false]) (by simp only[results,Tryz.results120];go_simp) rfl ⟨HB.out.trans (hB7.mono HB.out.size),_,rfl⟩
  |true=>
   refine wp_region_ext (by kernel_rfl) (by kernel_rfl) ?_
   repeat(go_big_quiet_step (fail))
   refine wpQuiet_nil ?_
   intro w7 hB7
   go_wp2_with fail
   have hn:r=some c.s:=by
    have hk:=HC.out.1.kind
    have hs':=HC.out.1.s
    rw[←HR.out,if_pos ⟨by simpa using h1,by rw[←hk];simpa using h2⟩,hs']
   subst hn
   exact bodyPost_ret (v:=.tuple #[.string c.s,.bool true]) (by simp only[results,Tryz.results120];go_simp) rfl ⟨HB.out.trans (hB7.mono HB.out.size),rfl⟩
def NUPost (w:World)(r:Option Nat)(e:Ending)(w':World):Prop:=
 Below w.heap.size w w'∧match r with
  |some n=>n<100∧e= .returned (.tuple #[.int .i64 n,.bool true])
  |none=>∃n:Int,e= .returned (.tuple #[.int .i64 n,.bool false])
theorem atoi_any {N:Nat}(s:ByteArray)(w:World)(hs:s.size≤4294967280)(G:Gl Tryz.prog N w):
  Calls Tryz.prog 154 #[.string s] w fun e w'=>Below w.heap.size w w'∧match Lib.atoiAll s.data.toList with
   | .ok v=>e= .returned (.tuple #[.int .i64 v,.nilIface])
   |_=>∃(n:Int) (t:TypeId) (p:Value),e= .returned (.tuple #[.int .i64 n,.iface t p]):=by
 cases hp:Lib.atoiAll s.data.toList with
 |ok v=>
  refine(Any.strconv_Atoi_ok Tryz.laysC172 s (by omega) v hp w).mono ?_
  rintro e w' ⟨rfl,hw⟩
  refine⟨?_,rfl⟩
  rcases hw with rfl|⟨t,rfl⟩
  ·exact Below.refl _ _
  ·exact Joins.below_bytesWorld _ _ _ _ (Nat.le_refl _)
 |range=>
  obtain⟨tp,p,hv⟩:=G.er
  refine(Any.strconv_Atoi_range_var Tryz.laysC172 s (by omega) hp tp p w hv).mono ?_
  rintro e w' ⟨n,rfl,_,_,hB⟩
  exact⟨hB,_,_,_,rfl⟩
 |_=>
  obtain⟨tp,p,hv⟩:=G.es
  refine(Any.strconv_Atoi_syntax_var Tryz.laysC172 s (by omega) hp tp p w hv).mono ?_
  rintro e w' ⟨n,rfl,_,_,hB⟩
  exact⟨hB,_,_,_,rfl⟩
theorem numberA_any {N:Nat}(s:ByteArray)(w:World)(hs:s.size≤4294967280)(G:Gl Tryz.prog N w):Calls Tryz.prog 121 #[.string s] w (NUPost w (numberL s.data.toList)):=by
 have AT:=zhd (atoi_any s w hs G)
 clear G
 obtain⟨r,hr⟩:∃r,numberL s.data.toList=r:=⟨_,rfl⟩
 rw[hr]
 unfold numberL at hr
 generalize Lib.atoiAll s.data.toList=p at*
 have HR:=zhd hr
 clear hr
 go_enter Tryz.func121,Tryz.ntmps121
 go_wp2_with fail
 refine AT.out.mono ?_
 rintro e w1 ⟨hB,h1⟩
 have HB:=zhd hB
 clear hB AT
 cases p with
 |ok v=>
  obtain rfl:=h1
  by_cases h0:0≤v
  ·by_cases h100:v<100
   ·obtain⟨n,rfl⟩:=Int.eq_ofNat_of_zero_le h0
    have IT:=zhd (Any.strconv_Itoa_small Tryz.lays171 n (by omega))
    cases hq:(Lib.decDigits n==s.data.toList)
    all_goals
     have e5:((⟨(Lib.decDigits n).toArray⟩:ByteArray).toList==s.toList)=(Lib.decDigits n==s.data.toList):=by rw[ByteArray.toList_eq,ByteArray.toList_eq]
     rw[hq]at e5
     have HQ:=zhd hq
     clear hq
     go_wp2_with fail
     refine(IT.out _).mono ?_
     rintro e w2 ⟨rfl,rfl⟩
     go_wp2_with fail
     first
     |(have hn:r=some n:=by
        have h:=HR.out
        try dsimp only at h
        rw[←h,if_pos ⟨by omega,by omega,by simpa using beq_iff_eq.1 HQ.out⟩]
        rfl
       subst hn
       exact bodyPost_ret (v:=.tuple #[.int .i64 n,.bool true]) (by simp only[results,Tryz.results121];go_simp;rw[ByteArray.toList_eq];exact beq_iff_eq.1 HQ.out) rfl ⟨HB.out,by omega,rfl⟩)
     |(have hn:r=none:=by
        have h:=HR.out
        try dsimp only at h
        rw[←h,if_neg (fun e=>by have:=HQ.out;rw[beq_iff_eq.2 (by simpa using e.2.2)]at this;cases this)]
       subst hn
       exact bodyPost_ret (v:=.tuple #[.int .i64 n,.bool false]) (by simp only[results,Tryz.results121];go_simp;rw[ByteArray.toList_eq];exact fun e=>by have:=HQ.out;rw[beq_iff_eq.2 e]at this;cases this) rfl ⟨HB.out,_,rfl⟩)
   ·have hn:r=none:=by
     have h:=HR.out
     try dsimp only at h
     rw[←h,if_neg (fun e=>h100 e.2.1)]
    clear HR
    go_wp2_with fail
    subst hn
    exact bodyPost_ret (v:=.tuple #[.int .i64 v,.bool false]) (by simp only[results,Tryz.results121];go_simp) rfl ⟨HB.out,_,rfl⟩
  ·have hn:r=none:=by
    have h:=HR.out
    try dsimp only at h
    rw[←h,if_neg (fun e=>h0 e.1)]
   clear HR
   go_wp2_with fail
   subst hn
   exact bodyPost_ret (v:=.tuple #[.int .i64 v,.bool false]) (by simp only[results,Tryz.results121];go_simp) rfl ⟨HB.out,_,rfl⟩
 |range=>
  obtain⟨n,t,q,rfl⟩:=h1
  have hn:r=none:=HR.out.symm
  clear HR
  go_wp2_with fail
  subst hn
  exact bodyPost_ret (v:=.tuple #[.int .i64 n,.bool false]) (by simp only[results,Tryz.results121];go_simp) rfl ⟨HB.out,_,rfl⟩
 |_=>
  obtain⟨n,t,q,rfl⟩:=h1
  have hn:r=none:=HR.out.symm
  clear HR
  go_wp2_with fail
  subst hn
  exact bodyPost_ret (v:=.tuple #[.int .i64 n,.bool false]) (by simp only[results,Tryz.results121];go_simp) rfl ⟨HB.out,_,rfl⟩
end Go.Proofs.YtakljipkaoahnaaGreatDoor
