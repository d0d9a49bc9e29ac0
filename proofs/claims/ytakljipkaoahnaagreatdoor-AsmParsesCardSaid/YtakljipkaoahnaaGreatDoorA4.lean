/- Parts of the proof: what the functions and the plain laws give that later parts lean on. Conditions: none beyond those that each theorem names. -/
import Derived.Laws.IdiomStrings
import Derived.Lib.LaidTab
import Derived.Lib.ParseIntB
import Derived.Lib.ItoaNum
import Derived.Test.YtakljipkaoahnaaGreatDoorA3
set_option maxRecDepth 100000
set_option maxHeartbeats 8000000
namespace Go.Va
open Go.Own Go.RowKit
instance:Cells UInt8 where
 sz:=1
 enc:=fun c=>[.int .u8 c.toNat]
 len:=fun _=>rfl
 one:=by
  intro x v hv
  simp at hv
  subst hv
  rfl
def hexV (a b:UInt8):Int:=(16*digL a+digL b)%256
def hexBad (a b:UInt8):Bool:=decide (digL a<0∨digL b<0∨(32≤hexV a b∧hexV a b≤126))
def quotL (acc:List UInt8)(k:Nat):List UInt8→Option (List UInt8×Nat)
 |[]=>none
 |c::r=>
  if c.toNat=34 then some (acc,k+1)else
  if c.toNat<32∨126<c.toNat then none else
  if c.toNat≠92 then quotL (acc++[c]) (k+1) r else
  match r with
  |[]=>none
  |d::r1=>
   if d.toNat=34 then quotL (acc++[34]) (k+2) r1 else
   if d.toNat=92 then quotL (acc++[92]) (k+2) r1 else
   if d.toNat≠120 then none else
   match r1 with
   |a::b::r2=>if hexBad a b then none else quotL (acc++[UInt8.ofNat (hexV a b).toNat]) (k+4) r2
   |_=>none
theorem quotL_cons (acc:List UInt8)(k:Nat)(c:UInt8)(r:List UInt8):quotL acc k (c::r)=
  if c.toNat=34 then some (acc,k+1)else
  if c.toNat<32∨126<c.toNat then none else
  if c.toNat≠92 then quotL (acc++[c]) (k+1) r else
  match r with
  |[]=>none
  |d::r1=>
   if d.toNat=34 then quotL (acc++[34]) (k+2) r1 else
   if d.toNat=92 then quotL (acc++[92]) (k+2) r1 else
   if d.toNat≠120 then none else
   match r1 with
   |a::b::r2=>if hexBad a b then none else quotL (acc++[UInt8.ofNat (hexV a b).toNat]) (k+4) r2
   |_=>none:=by
 first|(rw[quotL.eq_def];done)|(rw[quotL.eq_def];rfl)
theorem quotL_nil (acc:List UInt8)(k:Nat):quotL acc k []=none:=by rw[quotL.eq_def]
theorem run_str {P:Program}{w:World}{e:TypeId}{v:Value}{l:List UInt8}(h:RowAt w e v l)(src dst e':TypeId)(hs:P.underlying src=some (.slice e'))(he:P.underlying e'=some (.int .u8))(hd:P.underlying dst=some .string):
  (convert src dst v).run P w= .ok (.string ⟨l.toArray⟩) w:=by
 rcases h with⟨rfl,rfl⟩|⟨g,off,cap,cur,rfl,hh,hl,hm,hs',hc⟩
 ·exact run_convert_bytes_nil w src e' hs he 0 0 dst hd
 ·refine run_convert_bytes_back w src dst e' ⟨g,off,none⟩ cap l hs he hd (fun j hj=> ?_)
  rw[Addr.add_lit,zch hh]
  refine hc j _ ?_
  have:=flat_get l j 0 l[j] (by simp) (by decide)
  simpa[Cells.sz,Cells.enc]using this
end Go.Va
namespace Go.Proofs.YtakljipkaoahnaaGreatDoor
open Go.RowKit Go.Own Go.Own.MapTy Go.Va
open Go.Own.Cells (sz enc)
theorem elemB:ElemOf UInt8 Tryz.prog 140 5 1:=elem_mk Tryz.underlying140 (z:=.int .u8 0) (n:=1) (by kernel_rfl) rfl rfl
def QPost (w:World)(b:Nat)(s:ByteArray)(deep:Bool)(r:Option (List UInt8×Nat))(e:Ending)(w':World):Prop:=
 ∃k,k≤s.size∧TX w' b s k deep∧Keeps (fun j=>j=b) w w'∧(match r with
  |some (t,k1)=>e= .returned (.tuple #[.string ⟨t.toArray⟩,.bool true])∧k=k1
  |none=>e= .returned (.tuple #[.string ⟨#[]⟩,.bool false]))
def QRel (w:World)(b:Nat)(s:ByteArray)(deep:Bool)(r:Option (List UInt8×Nat))(gk:Nat)(v4:Value)(wr:World):Prop:=
 ∃(k:Nat) (acc:List UInt8),gk=s.size - k∧k≤s.size∧acc.length≤k∧TX wr b s k deep∧RowAt wr 5 v4 acc∧quotL acc k (s.data.toList.drop k)=r∧Keeps (fun j=>j=b) w wr∧∀g,v4.ownBlock=some g→w.heap.size≤g
theorem QRel.app {w wx w6:World}{b:Nat}{s:ByteArray}{deep:Bool}{r:Option (List UInt8×Nat)}{k:Nat}{v4 v6:Value}{acc:List UInt8}{x:UInt8}{o:Obj}(b0:b<w.heap.size)(hT:TX wx b s k deep)(hK:Keeps (fun j=>j=b) w wx)
  (hO:∀g,v4.ownBlock=some g→w.heap.size≤g)(hk6:Keeps (fun j=>v4.ownBlock=some j) (wx.alloc o) w6)(hr6:RowAt w6 5 v6 (acc++[x]))(hf6:∀g,v6.ownBlock=some g→v4.ownBlock=some g∨(wx.alloc o).heap.size≤g)
  (hq:quotL (acc++[x]) k (s.data.toList.drop k)=r)(hk:k≤s.size)(hak:acc.length+1≤k):QRel w b s deep r (s.size - k) v6 w6:=by
 have k0:Keeps (fun _=>False) wx (wx.alloc o):=(Keeps.refl _ _).alloc _
 have hsz:=hK.size
 refine⟨k,acc++[x],rfl,hk,by simp;exact hak,(hT.keep k0 (fun f=>f)).keep hk6 (fun e=>by have:=hO b e;omega),hr6,hq,(hK.trans k0 (fun _ _ f=>f.elim)).trans hk6 (fun j hj e=>by have:=hO j e;omega),fun g hg=> ?_⟩
 rcases hf6 g hg with e|e
 ·exact hO g e
 ·have e':wx.heap.size+1≤g:=by simpa using e
  omega
theorem new_set (wr:World)(a:Addr)(v:Value)(o:Obj):((wr.setCell a v).alloc o).heap[wr.heap.size]? =some o:=by
 have:=heap_alloc_new (wr.setCell a v) o
 rwa[setCell_size]at this
theorem new_byte (wr:World)(a:Addr)(v:Value)(x:Int)(y:UInt8)(t:TypeId)(h:(y.toNat:Int)=x):((wr.setCell a v).alloc (.cells #[.int .u8 x] t)).heap[wr.heap.size]? =some (.cells (Cells.enc y).toArray t):=by
 rw[new_set,←h]
 rfl
theorem drop_at {s:ByteArray}{k:Nat}(h:k<s.size):s.data.toList.drop k=s[k]::s.data.toList.drop (k+1):=by
 have h':k<s.data.toList.length:=by simpa using h
 rw[List.drop_eq_getElem_cons h']
 rfl
theorem quoted_any (b:Nat)(s:ByteArray)(at_:Nat)(deep:Bool)(w:World)(H:TX w b s at_ deep)(hs:s.size≤4294967280)(ha:at_≤s.size):
  Calls Tryz.prog 124 #[.pointer (some ⟨b,0,none⟩)] w (QPost w b s deep (quotL [] at_ (s.data.toList.drop at_))):=by
 have b0:b<w.heap.size:=zlt H
 have HH:=zhd H
 clear H
 generalize hr:quotL [] at_ (s.data.toList.drop at_)=r
 have HR0:=zhd hr
 clear hr
 go_enter Tryz.func124,Tryz.ntmps124
 go_wp2_with fail
 go_loopg [4] (s.size - at_) (fun gk v4 wr=>QRel w b s deep r gk v4 wr)
 case atStart=>exact⟨at_,[],rfl,ha,Nat.zero_le _,HH.out,.inl ⟨rfl,rfl⟩,HR0.out,Keeps.refl _ _,fun g hg=>by cases hg⟩
 case round=>
  obtain⟨k,acc,hgk,hk,hak,hT,hR,hq,hK,hO⟩:=hrel
  have c0:=zca hT 0 rfl
  have c1:=zca hT 1 rfl
  have f0:∀o,wr.frozen? ⟨b,o,none⟩=false:=fun o=>zfr hT o
  have hb:b<wr.heap.size:=zlt hT
  have hR1:RowAt (wr.setCell ⟨b,1,none⟩ (.int .i64 ((k:Int)+1))) 5 _ acc:=hR.keep (Keeps.setCell (S:=fun j=>j=b) (p:=⟨b,1,none⟩) (Keeps.refl _ _) (.inl rfl) _) (fun g hg e=>by have:=hO g hg;omega)
  have hK1:Keeps (fun j=>j=b) w (wr.setCell ⟨b,1,none⟩ (.int .i64 ((k:Int)+1))):=hK.setCell (p:=⟨b,1,none⟩) (.inl rfl) _
  have hT1:TX (wr.setCell ⟨b,1,none⟩ (.int .i64 ((k:Int)+1))) b s (k+1) deep:=hT.move (k+1)
  have HX:=zh6 hT hR hK hO hgk hak
  have H1:=zh3 hT1 hR1 hK1
  clear hT hR hK hO hgk hak hT1 hR1 hK1
  by_cases hkn:k<s.size
  ·have e0:(k:Int)<s.size:=by omega
   have hw:wrap64 ((k:Int)+1)=(k:Int)+1:=by unfold wrap64;omega
   rw[drop_at hkn]at hq
   have hc0:∃c,c=s[k]:=⟨_,rfl⟩
   obtain⟨c,hc⟩:=hc0
   rw[←hc,quotL_cons]at hq
   by_cases h34:c.toNat=34
   ·rw[if_pos h34]at hq
    have HQ:=zhd hq
    clear hq
    have hcv:=run_str H1.out.2.1.drew.drew 140 9 5 Tryz.underlying140 Tryz.underlying5 Tryz.underlying9
    have h1:((s[k].toNat:Int)==34)=true:=by rw[←hc];simp[h34]
    go_wp2_with fail
    go_region
    go_wp2_with fail
    go_region
    go_wp2_with fail
    rw[←HQ.out]
    exact bodyPost_ret (v:=.tuple #[.string ⟨acc.toArray⟩,.bool true]) (by simp only[results,Tryz.results124];go_simp) rfl ⟨k+1,hkn,H1.out.1.drew.drew,H1.out.2.2.drew.drew,rfl,rfl⟩
   ·rw[if_neg h34]at hq
    have h1:((s[k].toNat:Int)==34)=false:=by rw[←hc,beq_eq_false_iff_ne];omega
    by_cases hbad:c.toNat<32∨126<c.toNat
    ·rw[if_pos hbad]at hq
     have HQ:=zhd hq
     clear hq
     rw[hc]at hbad
     by_cases hlo:s[k].toNat<32
     ·have h2:((s[k].toNat:Int)<32):=by omega
      go_wp2_with fail
      go_region
      go_wp2_with fail
      go_region
      go_wp2_with fail
      rw[←HQ.out]
      exact bodyPost_ret (v:=.tuple #[.string ⟨#[]⟩,.bool false]) (by simp only[results,Tryz.results124];go_simp) rfl ⟨k+1,hkn,H1.out.1.drew.drew,H1.out.2.2.drew.drew,rfl⟩
     ·have h2:¬((s[k].toNat:Int)<32):=by omega
      have h3:((126:Int)<(s[k].toNat:Int)):=by omega
      go_wp2_with fail
      go_region
      go_wp2_with fail
      go_region
      go_wp2_with fail
      rw[←HQ.out]
      exact bodyPost_ret (v:=.tuple #[.string ⟨#[]⟩,.bool false]) (by simp only[results,Tryz.results124];go_simp) rfl ⟨k+1,hkn,H1.out.1.drew.drew,H1.out.2.2.drew.drew,rfl⟩
    ·rw[if_neg hbad]at hq
     have h2:¬((s[k].toNat:Int)<32):=by rw[←hc];omega
     have h3:¬((126:Int)<(s[k].toNat:Int)):=by rw[←hc];omega
     by_cases h92:c.toNat=92
     ·rw[if_neg (by omega)]at hq
      have h4:((s[k].toNat:Int)!=92)=false:=by rw[←hc];simp[h92]
      have he0:∀(hk2:k+1<s.size) x,eatL s.data.toList (k+1) x=(s[k+1]==x):=fun hk2 x=>by
       have hg:s.data.toList[k+1]? =some s[k+1]:=by simp[hk2];rfl
       rw[eatL,hg]
      by_cases hN:eatL s.data.toList (k+1) 34=false∧eatL s.data.toList (k+1) 92=false∧eatL s.data.toList (k+1) 120=false
      ·
       have HQ:=zhd (show(none:Option (List UInt8×Nat))=r from by
        by_cases hk2:k+1<s.size
        ·rw[he0 hk2,he0 hk2,he0 hk2]at hN
         simp only[beq_eq_false_iff_ne]at hN
         rw[drop_at hk2]at hq
         dsimp only at hq
         rw[if_neg (show¬s[k+1].toNat=34 from fun e=>hN.1 (UInt8.toNat_inj.1 e)),if_neg (show¬s[k+1].toNat=92 from fun e=>hN.2.1 (UInt8.toNat_inj.1 e)),if_pos (show s[k+1].toNat≠120 from fun e=>hN.2.2 (UInt8.toNat_inj.1 e))]at hq
         exact hq
        ·rw[List.drop_eq_nil_of_le (by simp;omega)]at hq
         exact hq)
       clear hq
       have EN1:=zhd (show Calls Tryz.prog 123 #[.pointer (some ⟨b,0,none⟩),.int .u8 34] _ _ from eat_no b s (k+1) deep 34 _ H1.out.1.drew.drew hN.1)
       have EN2:=zhd (show Calls Tryz.prog 123 #[.pointer (some ⟨b,0,none⟩),.int .u8 92] _ _ from eat_no b s (k+1) deep 92 _ H1.out.1.drew.drew.drew hN.2.1)
       have EN3:=zhd (show∀W,Below _ _ W→Calls Tryz.prog 123 #[.pointer (some ⟨b,0,none⟩),.int .u8 120] W (fun en w'=>en= .returned (.bool false)∧Below W.heap.size W w')from fun W hB=>(eat_no b s (k+1) deep 120 W (H1.out.1.drew.drew.drew.drew.keep (S:=fun _=>False) (zkb hB) (fun f=>f)) hN.2.2).mono (fun e' w' ⟨h1,h2⟩=>⟨h1,by rw[h2];exact(Below.refl _ _).drew⟩))
       go_wp2_with fail
       go_region
       go_wp2_with fail
       go_region
       go_wp2_with fail
       refine EN1.out.mono ?_
       rintro e w1 ⟨rfl,rfl⟩
       go_wp2_with fail
       refine EN2.out.mono ?_
       rintro e w2 ⟨rfl,rfl⟩
       go_wp2_with fail
       refine wp_region_ext (by kernel_rfl) (by kernel_rfl) ?_
       repeat(go_big_quiet_step ((go_at_call 123;exact ext_call (EN3.out _ (Subtype.property _)))))
       refine wpQuiet_nil ?_
       intro w7 hB7
       have hT7:=H1.out.1.drew.drew.drew.drew.keep (S:=fun _=>False) (zkb hB7) (fun f=>f)
       have hK7:=H1.out.2.2.drew.drew.drew.drew.trans (T:=fun _=>False) (zkb hB7) (fun _ _ f=>f.elim)
       go_wp2_with fail
       rw[←HQ.out]
       exact bodyPost_ret (v:=.tuple #[.string ⟨#[]⟩,.bool false]) (by simp only[results,Tryz.results124];go_simp) rfl ⟨k+1,hkn,hT7,hK7,rfl⟩
      by_cases hk2:k+1<s.size
      ·have he:∀x,eatL s.data.toList (k+1) x=(s[k+1]==x):=fun x=>by
        have hg:s.data.toList[k+1]? =some s[k+1]:=by simp[hk2];rfl
        rw[eatL,hg]
       rw[drop_at hk2]at hq
       dsimp only at hq
       by_cases d34:s[k+1].toNat=34
       ·rw[if_pos d34]at hq
        have EA:=zhd (show Calls Tryz.prog 123 #[.pointer (some ⟨b,0,none⟩),.int .u8 34] _ _ from eat_yes b s (k+1) deep 34 _ H1.out.1.drew.drew hs hk2 (by rw[he,beq_iff_eq];exact UInt8.toNat_inj.1 d34))
        have HQ:=zhd hq
        clear hq
        go_wp2_with fail
        go_region
        go_wp2_with fail
        go_region
        go_wp2_with fail
        refine EA.out.mono ?_
        rintro e w2 ⟨rfl,hw2⟩
        have hT2:TX w2 b s (k+2) deep:=by rw[hw2];exact(H1.out.1.drew.drew.move (k+2)).drew
        have hK2:Keeps (fun j=>j=b) w w2:=by rw[hw2];exact(Keeps.setCell (p:=⟨b,1,none⟩) H1.out.2.2.drew.drew (.inl rfl) _).drew
        have hR2:=(H1.out.2.1.drew.drew.keep (Keeps.setCell (S:=fun j=>j=b) (p:=⟨b,1,none⟩) (Keeps.refl _ _) (.inl rfl) (.int .i64 (((k+1:Nat):Int)+1))) (fun g hg e=>by have:=HX.out.2.2.2.1 g hg;omega)).drew
        rw[←hw2]at hR2
        have H2:=zh3 hT2 hR2 hK2
        clear hT2 hR2 hK2 hw2
        go_wp2_with (at_builtin;go_must (refine wp_appW (α:=UInt8) elemB rfl (.tmp 57) (.tmp 58) rfl (H2.out.2.1.alloc _) 34 rfl rfl (heap_alloc_new _ _) (by have:=HX.out.2.2.2.2.2;omega) (by have:=HX.out.2.2.2.2.2;unfold maxLen;omega) ?_);intro a6 q6 w6 hr6 hk6 hf6)
        go_roundg (s.size - (k+2))
        case measure=>have:=HX.out.2.2.2.2.1;omega
        case rel=>exact QRel.app b0 H2.out.1 H2.out.2.2 HX.out.2.2.2.1 hk6 hr6 hf6 HQ.out hk2 (by have:=HX.out.2.2.2.2.2;omega)
       ·rw[if_neg d34]at hq
        have EN:=zhd (show Calls Tryz.prog 123 #[.pointer (some ⟨b,0,none⟩),.int .u8 34] _ _ from eat_no b s (k+1) deep 34 _ H1.out.1.drew.drew (by rw[he,beq_eq_false_iff_ne];exact fun e=>d34 (by rw[e];rfl)))
        by_cases d92:s[k+1].toNat=92
        ·rw[if_pos d92]at hq
         have EA:=zhd (show Calls Tryz.prog 123 #[.pointer (some ⟨b,0,none⟩),.int .u8 92] _ _ from eat_yes b s (k+1) deep 92 _ H1.out.1.drew.drew.drew hs hk2 (by rw[he,beq_iff_eq];exact UInt8.toNat_inj.1 d92))
         have HQ:=zhd hq
         clear hq
         go_wp2_with fail
         go_region
         go_wp2_with fail
         go_region
         go_wp2_with fail
         refine EN.out.mono ?_
         rintro e w1 ⟨rfl,rfl⟩
         go_wp2_with fail
         refine EA.out.mono ?_
         rintro e w2 ⟨rfl,hw2⟩
         have hT2:TX w2 b s (k+2) deep:=by rw[hw2];exact(H1.out.1.drew.drew.drew.move (k+2)).drew
         have hK2:Keeps (fun j=>j=b) w w2:=by rw[hw2];exact(Keeps.setCell (p:=⟨b,1,none⟩) H1.out.2.2.drew.drew.drew (.inl rfl) _).drew
         have hR2:=(H1.out.2.1.drew.drew.drew.keep (Keeps.setCell (S:=fun j=>j=b) (p:=⟨b,1,none⟩) (Keeps.refl _ _) (.inl rfl) (.int .i64 (((k+1:Nat):Int)+1))) (fun g hg e=>by have:=HX.out.2.2.2.1 g hg;omega)).drew
         rw[←hw2]at hR2
         have H2:=zh3 hT2 hR2 hK2
         clear hT2 hR2 hK2 hw2
         go_wp2_with (at_builtin;go_must (refine wp_appW (α:=UInt8) elemB rfl (.tmp 63) (.tmp 64) rfl (H2.out.2.1.alloc _) 92 rfl rfl (heap_alloc_new _ _) (by have:=HX.out.2.2.2.2.2;omega) (by have:=HX.out.2.2.2.2.2;unfold maxLen;omega) ?_);intro a6 q6 w6 hr6 hk6 hf6)
         go_roundg (s.size - (k+2))
         case measure=>have:=HX.out.2.2.2.2.1;omega
         case rel=>exact QRel.app b0 H2.out.1 H2.out.2.2 HX.out.2.2.2.1 hk6 hr6 hf6 HQ.out hk2 (by have:=HX.out.2.2.2.2.2;omega)
        ·rw[if_neg d92]at hq
         have d120:s[k+1].toNat=120:=by
          refine Classical.byContradiction fun hne=>hN ⟨?_,?_,?_⟩
          ·rw[he,beq_eq_false_iff_ne];exact fun e=>d34 (by rw[e];rfl)
          ·rw[he,beq_eq_false_iff_ne];exact fun e=>d92 (by rw[e];rfl)
          ·rw[he,beq_eq_false_iff_ne];exact fun e=>hne (by rw[e];rfl)
         rw[if_neg (by omega)]at hq
         have EN2:=zhd (show Calls Tryz.prog 123 #[.pointer (some ⟨b,0,none⟩),.int .u8 92] _ _ from eat_no b s (k+1) deep 92 _ H1.out.1.drew.drew.drew (by rw[he,beq_eq_false_iff_ne];exact fun e=>d92 (by rw[e];rfl)))
         obtain⟨wx,hwx⟩:∃wx,wx=(wr.setCell ⟨b,1,none⟩ (.int .i64 ((k:Int)+1))).drew.drew.drew.drew:=⟨_,rfl⟩
         obtain⟨j,hj⟩:∃j,j=k+2:=⟨_,rfl⟩
         have hTx:=H1.out.1.drew.drew.drew.drew
         have hRx:=H1.out.2.1.drew.drew.drew.drew
         have hKx:=H1.out.2.2.drew.drew.drew.drew
         rw[←hwx]at hTx hRx hKx
         have HW:=zhd hwx
         have EA:=zhd (show Calls Tryz.prog 123 #[.pointer (some ⟨b,0,none⟩),.int .u8 120] wx.drew (fun e w'=>e= .returned (.bool true)∧Hid (TX w' b s j deep∧RowAt w' 5 _ acc∧Keeps (fun j=>j=b) w w'))from
          (eat_yes b s (k+1) deep 120 wx.drew hTx.drew hs hk2 (by rw[he,beq_iff_eq];exact UInt8.toNat_inj.1 d120)).mono fun e w' ⟨h1,h2⟩=>⟨h1,zhd (by
            subst hj
            rw[h2]
            exact⟨(hTx.drew.move (k+2)).drew,(hRx.drew.keep (Keeps.setCell (S:=fun j=>j=b) (p:=⟨b,1,none⟩) (Keeps.refl _ _) (.inl rfl) _) (fun g hg e=>by have:=HX.out.2.2.2.1 g hg;omega)).drew,(Keeps.setCell (p:=⟨b,1,none⟩) hKx.drew (.inl rfl) _).drew⟩)⟩)
         have HQ:=zhd hq
         clear hwx hTx hRx hKx hq
         go_wp2_with fail
         go_region
         go_wp2_with fail
         go_region
         go_wp2_with fail
         refine EN.out.mono ?_
         rintro e w1 ⟨rfl,rfl⟩
         go_wp2_with fail
         refine EN2.out.mono ?_
         rintro e w2 ⟨rfl,rfl⟩
         go_wp2_with fail
         rw[←HW.out]
         clear c0 c1 f0 hw h1 h2 h3 h4
         have hjs:j≤s.size:=by omega
         have HJ:=zhd hj
         clear hj
         by_cases hk4:j+2≤s.size
         ·have e4:((j:Int)+2)≤s.size:=by omega
          have HG:=zhd (show(if hexBad s[j] s[j+1]then none else quotL (acc++[UInt8.ofNat (hexV s[j] s[j+1]).toNat]) (j+2) (s.data.toList.drop (j+2)))=r from by
           have h:=HQ.out
           have e:=HJ.out
           subst e
           rw[show k+1+1=k+2 from rfl,drop_at (by omega),drop_at (by omega)]at h
           exact h)
          have HE:=zhd (show gk=s.size - k∧acc.length+1≤j+2∧j=k+2 from by have:=HX.out.2.2.2.2;have:=HJ.out;omega)
          have w2:IntKind.i64.wrap ((j:Int)+2)=(j:Int)+2:=IntWalk.i64_in _ (by omega)
          go_region_with (go_at_call 123;refine EA.out.mono ?_;rintro e w3 ⟨rfl,H3⟩;have c0:=H3.out.1.c0;have c1:=H3.out.1.c1;have f0:=H3.out.1.fr;have b3:=H3.out.1.lt)
          all_goals go_wp2_with fail
          all_goals
           clear w2
           have hj1:j<s.size:=by omega
           have hj2:j+1<s.size:=by omega
           have e5:(0:Int)≤(j:Int)+1:=by omega
           have e6:((j:Int)+1)<s.size:=by omega
           have e7:((j:Int)+1).toNat=j+1:=by omega
           obtain⟨da,hda⟩:∃a,a=digL s[j]:=⟨_,rfl⟩
           obtain⟨db,hdb⟩:∃a,a=digL s[j+1]:=⟨_,rfl⟩
           have DA:=zhd (show∀W,Calls Tryz.prog 155 #[.int .u8 s[j].toNat] W (fun e w'=>e= .returned (.int .i64 da)∧W=w')from fun W=>(digit_any s[j] W).mono fun e w' ⟨h1,h2⟩=>⟨by rw[h1,hda],h2.symm⟩)
           have DB:=zhd (show∀W,Calls Tryz.prog 155 #[.int .u8 s[j+1].toNat] W (fun e w'=>e= .returned (.int .i64 db)∧W=w')from fun W=>(digit_any s[j+1] W).mono fun e w' ⟨h1,h2⟩=>⟨by rw[h1,hdb],h2.symm⟩)
           have ba: -1≤da∧da≤15:=by rw[hda];exact digL_bd _
           have bb: -1≤db∧db≤15:=by rw[hdb];exact digL_bd _
           obtain⟨ba1,ba2⟩:=ba
           obtain⟨bb1,bb2⟩:=bb
           have HV:=zhd (show hexV s[j] s[j+1]=(16*da+db)%256 from by unfold hexV;rw[hda,hdb])
           have HY:=zhd (show((UInt8.ofNat ((16*da+db)%256).toNat).toNat:Int)=(16*da+db)%256 from by
            have:((16*da+db)%256).toNat<256:=by omega
            rw[UInt8.toNat_ofNat_of_lt' (by exact this)]
            omega)
           have HD:=zh2 hda hdb
           clear hda hdb
           have w1:IntKind.i64.wrap ((j:Int)+1)=(j:Int)+1:=IntWalk.i64_in _ (by omega)
           simp only[Act.put,List.setIfInBounds_toArray,List.set_cons_succ,List.set_cons_zero,List.getElem_toArray,List.getElem_cons_succ,List.getElem_cons_zero]
           refine wp_region_ext (by kernel_rfl) (by kernel_rfl) ?_
           repeat(go_big_quiet_step ((go_at_call 155;first|exact ext_call_same (DA.out _)|exact ext_call_same (DB.out _))))
           refine wpQuiet_nil ?_
           intro w7 hB7
           clear w1
           have T7:=H3.out.1.keep (S:=fun _=>False) (zkb hB7) (fun f=>f)
           have R7:=H3.out.2.1.keep (S:=fun _=>False) (zkb hB7) (fun _ _ f=>f)
           have K7:=H3.out.2.2.trans (T:=fun _=>False) (zkb hB7) (fun _ _ f=>f.elim)
           have H7:=zh3 T7 R7 K7
           have T8:TX (w7.setCell ⟨b,1,none⟩ (.int .i64 ((j:Int)+2))) b s (j+2) deep:=T7.move (j+2)
           have R8:=R7.keep (Keeps.setCell (S:=fun j=>j=b) (p:=⟨b,1,none⟩) (Keeps.refl _ _) (.inl rfl) (.int .i64 ((j:Int)+2))) (fun g hg e=>by have:=HX.out.2.2.2.1 g hg;omega)
           have K8:=Keeps.setCell (p:=⟨b,1,none⟩) K7 (.inl rfl) (.int .i64 ((j:Int)+2))
           have H8:=zh3 T8 R8 K8
           clear T7 R7 K7 T8 R8 K8 hB7 c0 c1 f0 b3
           have c0:=H7.out.1.c0
           have c1:=H7.out.1.c1
           have f0:=H7.out.1.fr
           have b3:=H7.out.1.lt
           go_wp2_with (at_builtin;go_must (refine wp_appW (α:=UInt8) elemB rfl (.tmp 129) (.tmp 131) rfl (H8.out.2.1.alloc _) (UInt8.ofNat ((16*da+db)%256).toNat) rfl rfl (new_byte _ _ _ _ _ _ HY.out) (by have:=HE.out;omega) (by have:=HE.out;unfold maxLen;omega) ?_);intro a6 q6 w6 hr6 hk6 hf6)
           all_goals as_aux_lemma=>
            first
            |(have hb:hexBad s[j] s[j+1]=true:=by
               unfold hexBad
               rw[HV.out,←HD.out.1,←HD.out.2,decide_eq_true_eq]
               omega
              have hN:=HG.out
              rw[if_pos hb]at hN
              rw[←hN]
              exact bodyPost_ret (v:=.tuple #[.string ⟨#[]⟩,.bool false]) (by simp only[results,Tryz.results124];go_simp) rfl ⟨j+2,hk4,H8.out.1,H8.out.2.2,rfl⟩)
            |(have hb:¬hexBad s[j] s[j+1]=true:=by
               unfold hexBad
               rw[HV.out,←HD.out.1,←HD.out.2,decide_eq_true_eq]
               omega
              have hN:=HG.out
              rw[if_neg hb,HV.out]at hN
              go_roundg (s.size - (j+2))
              case measure=>have:=HE.out;omega
              case rel=>exact QRel.app b0 H8.out.1 H8.out.2.2 HX.out.2.2.2.1 hk6 hr6 hf6 hN hk4 HE.out.2.1)
         ·have e4:¬((j:Int)+2)≤s.size:=by omega
          have w2:IntKind.i64.wrap ((j:Int)+2)=(j:Int)+2:=IntWalk.i64_in _ (by omega)
          have HN:=zhd (show(none:Option (List UInt8×Nat))=r from by
           rw[←HQ.out]
           have hl:(List.drop (k+1+1) s.data.toList).length<2:=by have:=HJ.out;simp;omega
           match hm:List.drop (k+1+1) s.data.toList with
           |[]=>rfl
           |[_]=>rfl
           |_::_::_=>rw[hm]at hl;simp at hl;omega)
          go_region_with (go_at_call 123;refine EA.out.mono ?_;rintro e w3 ⟨rfl,H3⟩;have c0:=H3.out.1.c0;have c1:=H3.out.1.c1;have f0:=H3.out.1.fr;have b3:=H3.out.1.lt)
          all_goals go_wp2_with fail
          all_goals as_aux_lemma=>
           rw[←HN.out]
           exact bodyPost_ret (v:=.tuple #[.string ⟨#[]⟩,.bool false]) (by simp only[results,Tryz.results124];go_simp) rfl ⟨j,hjs,H3.out.1,H3.out.2.2,rfl⟩
      ·exact absurd ⟨by rw[eatL,List.getElem?_eq_none (by simp;omega)],by rw[eatL,List.getElem?_eq_none (by simp;omega)],by rw[eatL,List.getElem?_eq_none (by simp;omega)]⟩ hN
     ·rw[if_pos h92]at hq
      have HQ:=zhd hq
      clear hq
      have h4:((s[k].toNat:Int)!=92)=true:=by rw[←hc,bne_iff_ne];omega
      go_wp2_with fail
      go_region
      go_wp2_with fail
      go_region
      go_wp2_with (at_builtin;go_must (refine wp_appW (α:=UInt8) elemB rfl (.tmp 50) (.tmp 52) rfl (H1.out.2.1.alloc _).drew.drew s[k] rfl rfl (new_set _ _ _ _) (by have:=HX.out.2.2.2.2.2;omega) (by have:=HX.out.2.2.2.2.2;unfold maxLen;omega) ?_);intro a6 q6 w6 hr6 hk6 hf6)
      go_roundg (s.size - (k+1))
      case measure=>have:=HX.out.2.2.2.2.1;omega
      case rel=>
       have hsz:=HX.out.2.2.1.size
       have hkk:=HX.out.2.2.2.2.2
       have k0:Keeps (fun _=>False) (wr.setCell ⟨b,1,none⟩ (.int .i64 ((k:Int)+1))) _:=((Keeps.refl _ _).alloc (.cells #[.int .u8 s[k].toNat] 5)).drew.drew
       refine⟨k+1,acc++[s[k]],rfl,hkn,by simp;exact hkk,(H1.out.1.keep k0 (fun f=>f)).keep hk6 (fun e=>by have:=HX.out.2.2.2.1 b e;omega),hr6,by rw[←hc];exact HQ.out,(H1.out.2.2.trans k0 (fun _ _ f=>f.elim)).trans hk6 (fun j hj e=>by have:=HX.out.2.2.2.1 j e;omega),fun g hg=> ?_⟩
       rcases hf6 g hg with e|e
       ·exact HX.out.2.2.2.1 g e
       ·have e':wr.heap.size+1≤g:=by simpa[setCell_size]using e
        omega
  ·obtain rfl:k=s.size:=by omega
   rw[List.drop_eq_nil_of_le (by simp),quotL_nil]at hq
   have HQ:=zhd hq
   clear hq
   go_wp2_with fail
   go_region
   go_wp2_with fail
   rw[←HQ.out]
   exact bodyPost_ret (v:=.tuple #[.string ⟨#[]⟩,.bool false]) (by simp only[results,Tryz.results124];go_simp) rfl ⟨s.size,Nat.le_refl _,HX.out.1.drew,HX.out.2.2.1.drew,rfl⟩
end Go.Proofs.YtakljipkaoahnaaGreatDoor
namespace Go.Va
open Go.Own Go.RowKit
open Cells (sz enc)
def RdF {α:Type}[Cells α](F:Nat→Prop)(w:World)(v:Value)(xs:List α):Prop:=
 ∃a cap,v= .slice a xs.length cap∧xs.length≤cap∧cap≤maxLen∧∀i x,xs[i]? =some x→∃g off,a=some ⟨g,off,none⟩∧F g∧g<w.heap.size∧∀j u,(enc x)[j]? =some u→w.cell? ⟨g,off+(i*sz α+j),none⟩=some u
section
variable{α:Type} [Cells α] {F G:Nat→Prop} {w w':World} {v:Value} {xs:List α}
theorem RdF.slice (h:RdF F w v xs):∃a cap,v= .slice a xs.length cap:=by obtain⟨a,cap,h,_⟩:=h;exact⟨a,cap,h⟩
theorem RdF.length_le (h:RdF F w v xs):xs.length≤maxLen:=by obtain⟨a,cap,_,h1,h2,_⟩:=h;omega
theorem RdF.keep {S:Nat→Prop}(h:RdF F w v xs)(K:Keeps S w w')(hs:∀g,F g→¬S g):RdF F w' v xs:=by
 obtain⟨a,cap,rfl,h1,h2,h3⟩:=h
 refine⟨a,cap,rfl,h1,h2,fun i x hx=> ?_⟩
 obtain⟨g,off,rfl,hF,hg,hc⟩:=h3 i x hx
 exact⟨g,off,rfl,hF,Nat.lt_of_lt_of_le hg K.size,fun j u hu=>(K.cell (p:=⟨g,_,none⟩) hg (hs g hF)).trans (hc j u hu)⟩
theorem RdF.mono (h:RdF F w v xs)(hs:∀g,F g→g<w.heap.size→G g):RdF G w v xs:=by
 obtain⟨a,cap,rfl,h1,h2,h3⟩:=h
 refine⟨a,cap,rfl,h1,h2,fun i x hx=> ?_⟩
 obtain⟨g,off,rfl,hF,hg,hc⟩:=h3 i x hx
 exact⟨g,off,rfl,hs g hF hg,hg,hc⟩
theorem RdF.at_ {a:Option Addr}{n cap:Nat}(h:RdF F w (.slice a n cap) xs){i:Nat}{x:α}(hx:xs[i]? =some x):∃g off,a=some ⟨g,off,none⟩∧F g∧g<w.heap.size∧∀j u,(enc x)[j]? =some u→w.cell? ⟨g,off+(i*sz α+j),none⟩=some u:=by
 obtain⟨a',cap',hv,_,_,h3⟩:=h
 cases hv
 exact h3 i x hx
theorem RdF.of_row {e:TypeId}(h:RowAt w e v xs)(hF:∀g,v.ownBlock=some g→F g):RdF F w v xs:=by
 rcases h with⟨rfl,rfl⟩|⟨g,off,cap,cur,rfl,hh,hl,hm,hs,hc⟩
 ·exact⟨none,0,rfl,Nat.le_refl _,Nat.zero_le _,fun i x hx=>by simp at hx⟩
 ·refine⟨_,cap,rfl,hl,hm,fun i x hx=>⟨g,off,rfl,hF g rfl,zlt hh,fun j u hu=> ?_⟩⟩
  have hj:j<sz α:=by have:=(zge hu).1;rwa[Cells.len]at this
  rw[zch hh]
  exact hc _ u (by rw[flat_get xs i j x hx hj];exact hu)
theorem RdF.nil (F:Nat→Prop)(w:World):RdF (α:=α) F w (.slice none 0 0) []:=⟨none,0,rfl,Nat.le_refl _,Nat.zero_le _,fun i x hx=>by simp at hx⟩
end
inductive VF (F:Nat→Prop) (w:World):Value→List Val→Prop
 |mk (v:Value) (cs:List VC) (l:List Val) (hr:RdF F w v cs) (hl:cs.length=l.length) (h:∀(i:Nat) (c:VC) (x:Val),cs[i]? =some c→l[i]? =some x→c.kind=x.kind∧c.n=x.num∧c.s=x.txt)
   (hv:∀(i:Nat) (c:VC) (x:Val),cs[i]? =some c→l[i]? =some x→VF F w (.slice c.la c.ln c.lc) x.list):VF F w v l
theorem VF.keep {F S:Nat→Prop}{w w':World}(K:Keeps S w w')(hs:∀g,F g→¬S g){v:Value}{l:List Val}(h:VF F w v l):VF F w' v l:=by
 induction h with
 |mk v cs l hr hl h0 _ ih=>exact .mk v cs l (hr.keep K hs) hl h0 ih
theorem VF.mono {F G:Nat→Prop}{w:World}(hs:∀g,F g→g<w.heap.size→G g){v:Value}{l:List Val}(h:VF F w v l):VF G w v l:=by
 induction h with
 |mk v cs l hr hl h0 _ ih=>exact .mk v cs l (hr.mono hs) hl h0 ih
theorem VF.nil (F:Nat→Prop)(w:World):VF F w (.slice none 0 0) []:=.mk _ [] [] (RdF.nil F w) rfl (fun i c x h=>by simp at h) (fun i c x h=>by simp at h)
structure CF (F:Nat→Prop)(w:World)(c:VC)(x:Val):Prop where
 kind:c.kind=x.kind
 n:c.n=x.num
 s:c.s=x.txt
 l:VF F w (.slice c.la c.ln c.lc) x.list
theorem CF.keep {F S:Nat→Prop}{w w':World}{c:VC}{x:Val}(h:CF F w c x)(K:Keeps S w w')(hs:∀g,F g→¬S g):CF F w' c x:=⟨h.kind,h.n,h.s,h.l.keep K hs⟩
theorem CF.mono {F G:Nat→Prop}{w:World}{c:VC}{x:Val}(h:CF F w c x)(hs:∀g,F g→g<w.heap.size→G g):CF G w c x:=⟨h.kind,h.n,h.s,h.l.mono hs⟩
def VRow (F:Nat→Prop)(w:World)(e:TypeId)(v:Value)(l:List Val):Prop:=
 ∃cs:List VC,RowAt w e v cs∧cs.length=l.length∧∀(i:Nat) (c:VC) (x:Val),cs[i]? =some c→l[i]? =some x→CF F w c x
theorem VRow.vf {F G:Nat→Prop}{w:World}{e:TypeId}{v:Value}{l:List Val}(h:VRow F w e v l)(hF:∀g,F g→G g)(hG:∀g,v.ownBlock=some g→G g):VF G w v l:=by
 obtain⟨cs,h1,h2,h3⟩:=h
 exact .mk v cs l (RdF.of_row h1 hG) h2 (fun i c x hc hx=>⟨(h3 i c x hc hx).kind,(h3 i c x hc hx).n,(h3 i c x hc hx).s⟩) (fun i c x hc hx=>(h3 i c x hc hx).l.mono (fun g h _=>hF g h))
theorem VRow.slice {F:Nat→Prop}{w:World}{e:TypeId}{v:Value}{l:List Val}(h:VRow F w e v l):∃a cap,v= .slice a l.length cap:=by
 obtain⟨cs,h1,h2,h3⟩:=h
 obtain⟨a,cap,h⟩:=h1.slice
 exact⟨a,cap,by rw[←h2];exact h⟩
theorem VRow.nil (F:Nat→Prop)(w:World)(e:TypeId):VRow F w e (.slice none 0 0) []:=⟨[],.inl ⟨rfl,rfl⟩,rfl,fun i c x h=>by simp at h⟩
theorem VRow.keep {F S:Nat→Prop}{w w':World}{e:TypeId}{v:Value}{l:List Val}(h:VRow F w e v l)(K:Keeps S w w')(hs:∀g,F g→¬S g)(hv:∀g,v.ownBlock=some g→¬S g):VRow F w' e v l:=by
 obtain⟨cs,h1,h2,h3⟩:=h
 exact⟨cs,h1.keep K hv,h2,fun i c x hc hx=>(h3 i c x hc hx).keep K hs⟩
theorem VRow.mono {F G:Nat→Prop}{w:World}{e:TypeId}{v:Value}{l:List Val}(h:VRow F w e v l)(hs:∀g,F g→g<w.heap.size→G g):VRow G w e v l:=by
 obtain⟨cs,h1,h2,h3⟩:=h
 exact⟨cs,h1,h2,fun i c x hc hx=>(h3 i c x hc hx).mono hs⟩
theorem VRow.app {F G:Nat→Prop}{w w1:World}{e:TypeId}{v v1:Value}{cs:List VC}{l:List Val}{c:VC}{x:Val}(h2:cs.length=l.length)(h3:∀(i:Nat) (c:VC) (x:Val),cs[i]? =some c→l[i]? =some x→CF F w c x)(hc:CF F w c x)
  (h1:RowAt w1 e v1 (cs++[c]))(K:Keeps (fun j=>v.ownBlock=some j) w w1)(hF:∀g,F g→¬v.ownBlock=some g)(hG:∀g,F g→g<w.heap.size→G g):VRow G w1 e v1 (l++[x]):=by
 refine⟨cs++[c],h1,by simp[h2],fun i c' x' hc' hx'=> ?_⟩
 have hk:∀{c x},CF F w c x→CF G w1 c x:=fun hx=>(hx.mono (G:=fun g=>F g∧G g) (fun g h hl=>⟨h,hG g h hl⟩)).keep K (fun g h=>hF g h.1)|>.mono (fun g h _=>h.2)
 by_cases hi:i<cs.length
 ·rw[List.getElem?_append_left hi]at hc'
  rw[List.getElem?_append_left (by omega)]at hx'
  exact hk (h3 i c' x' hc' hx')
 ·rw[List.getElem?_append_right (by omega)]at hc' hx'
  rw[h2]at hc'
  cases hj:i - l.length with
  |zero=>
   rw[hj]at hc' hx'
   simp at hc' hx'
   subst hc' hx'
   exact hk hc
  |succ j=>rw[hj]at hc';simp at hc'
theorem VF.elem {F:Nat→Prop}{w:World}{a:Option Addr}{n cap:Nat}{l:List Val}(h:VF F w (.slice a n cap) l):n=l.length∧∀(i:Nat) (x:Val),l[i]? =some x→∃c g off,CF F w c x∧a=some ⟨g,off,none⟩∧F g∧g<w.heap.size∧
  w.cell? ⟨g,off+i*4,none⟩=some (.int .i64 c.kind)∧w.cell? ⟨g,off+i*4+1,none⟩=some (.int .i64 c.n)∧w.cell? ⟨g,off+i*4+2,none⟩=some (.string c.s)∧w.cell? ⟨g,off+i*4+3,none⟩=some (.slice c.la c.ln c.lc):=by
 cases h with
 |mk _ cs _ hr hl h hv4=>
  obtain⟨a',cap',hv⟩:=hr.slice
  cases hv
  refine⟨hl,fun i x hx=> ?_⟩
  have hi:i<cs.length:=by rw[hl];exact(zge hx).1
  have hc:cs[i]? =some cs[i]:=List.getElem?_eq_getElem hi
  obtain⟨h1,h2,h3⟩:=h i _ x hc hx
  have h4:=hv4 i _ x hc hx
  obtain⟨g,off,hg,hF,hgl,hcs⟩:=hr.at_ hc
  exact⟨cs[i],g,off,⟨h1,h2,h3,h4⟩,hg,hF,hgl,hcs 0 _ rfl,by rw[Nat.add_assoc];exact hcs 1 _ rfl,by rw[Nat.add_assoc];exact hcs 2 _ rfl,by rw[Nat.add_assoc];exact hcs 3 _ rfl⟩
theorem VF.elems {F:Nat→Prop}{w:World}{a:Option Addr}{n cap:Nat}{l:List Val}(h:VF F w (.slice a n cap) l):n=l.length∧n≤maxLen∧(l=[]∨∃g off,a=some ⟨g,off,none⟩∧F g∧g<w.heap.size∧∀(i:Nat) (x:Val),l[i]? =some x→∃c,CF F w c x∧
  w.cell? ⟨g,off+i*4,none⟩=some (.int .i64 c.kind)∧w.cell? ⟨g,off+i*4+1,none⟩=some (.int .i64 c.n)∧w.cell? ⟨g,off+i*4+2,none⟩=some (.string c.s)∧w.cell? ⟨g,off+i*4+3,none⟩=some (.slice c.la c.ln c.lc)):=by
 obtain⟨h1,h2⟩:=h.elem
 refine⟨h1,?_,?_⟩
 ·cases h with
  |mk _ cs _ hr hl h hv4=>
   have:=hr.length_le
   omega
 ·cases l with
  |nil=>exact .inl rfl
  |cons x r=>
   obtain⟨c,g,off,hc,ha,hF,hg,_⟩:=h2 0 x rfl
   refine .inr ⟨g,off,ha,hF,hg,fun i y hy=> ?_⟩
   obtain⟨c',g',off',hc',ha',_,_,h3⟩:=h2 i y hy
   rw[ha]at ha'
   cases ha'
   exact⟨c',hc',h3⟩
structure Gl (P:Program)(N:Nat)(w:World):Prop where
 m:∃m:Int,w.cell? ⟨0,0,none⟩=some (.int .i64 m)
 es:∃tp p,w.var? P "strconv.ErrSyntax" =some #[.iface tp p]
 er:∃tp p,w.var? P "strconv.ErrRange" =some #[.iface tp p]
 tab:Lib.TabIs P w "internal/strconv.uint64pow10" .u64 Lib.pow10Tab
 gs:∃g1 g2 g3,P.globalNamed "strconv.ErrSyntax" =some g1∧P.globalNamed "strconv.ErrRange" =some g2∧P.globalNamed "internal/strconv.uint64pow10" =some g3∧g1<N∧g2<N∧g3<N
 n0:0<N
 n:N≤w.heap.size
theorem var_keep {P:Program}{w w':World}{s:String}{g:Nat}(hg:P.globalNamed s=some g)(h:w'.heap[g]? =w.heap[g]?):w'.var? P s=w.var? P s:=by
 simp[World.var?,hg,h]
theorem Gl.keep {P:Program}{N:Nat}{S:Nat→Prop}{w w':World}(h:Gl P N w)(K:Keeps S w w')(hs:∀j,S j→N≤j):Gl P N w':=by
 obtain⟨h1,h2,h3,h4,⟨g1,g2,g3,e1,e2,e3,l1,l2,l3⟩,h6,h7⟩:=h
 have hb:∀g,g<N→w'.heap[g]? =w.heap[g]? :=fun g hg=>K.block g (by omega) (fun hS=>by have:=hs g hS;omega)
 refine⟨?_,?_,?_,?_,⟨g1,g2,g3,e1,e2,e3,l1,l2,l3⟩,h6,Nat.le_trans h7 K.size⟩
 ·rw[World.cell?_of_block (w:=w) (hb 0 h6)];exact h1
 ·rw[var_keep e1 (hb g1 l1)];exact h2
 ·rw[var_keep e2 (hb g2 l2)];exact h3
 ·unfold Lib.TabIs;rw[var_keep e3 (hb g3 l3)];exact h4
theorem Gl.below {P:Program}{N:Nat}{w w':World}(h:Gl P N w)(K:Below w.heap.size w w'):Gl P N w':=h.keep (S:=fun _=>False) (zkb K) (fun _ f=>f.elim)
theorem Gl.alloc {P:Program}{N:Nat}{w:World}(h:Gl P N w)(o:Obj):Gl P N (w.alloc o):=h.keep ((Keeps.refl (fun _=>False) w).alloc o) (fun _ f=>f.elim)
end Go.Va
