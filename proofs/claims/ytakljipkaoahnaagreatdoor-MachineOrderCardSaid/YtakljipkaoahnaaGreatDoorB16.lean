/- Parts of the proof: what the functions and the plain laws give that later parts lean on. Conditions: none beyond those that each theorem names. -/
import Derived.Test.YtakljipkaoahnaaGreatDoorB15
set_option maxRecDepth 100000
set_option maxHeartbeats 8000000
namespace Go.Proofs.YtakljipkaoahnaaGreatDoor
open Go.RowKit Go.Own Go.Own.MapTy Go.Va Go.Sort
open Go.Own.Cells (sz enc)
def cloneC (c:Cm):Cm:={c with v:=cloneV c.v}
def MdPost (W:World)(l:List Cm)(e:Ending)(w':World):Prop:=∃r:Value,e= .returned r∧Hid (XRow (fun g=>W.heap.size≤g) w' 68 r l∧(∀g,r.ownBlock=some g→W.heap.size≤g)∧Below W.heap.size W w')
theorem steps_any
  {Z:Nat→Prop}(b:Nat)(v:MV)(p:Img)(s:MS)(W:World)(M:MX TT Z W b v p s)
  :Calls Tryz.prog 21 #[.pointer (some ⟨b,0,none⟩)] W (fun e w'=>e= .returned (.int .i64 (s.steps:Int))∧Below W.heap.size W w'):=by
 have c0:W.cell? ⟨b,24,none⟩=some (.int .i64 (s.steps:Int)):=M.cell (k:=24) rfl
 have b0:=zlt M.h
 clear M
 go_enter Tryz.func21,Tryz.ntmps21
 go_wp2_with fail
 go_ret
 exact⟨rfl,Below.refl _ _⟩
theorem events_any
  {Z:Nat→Prop}(b:Nat)(v:MV)(p:Img)(s:MS)(W:World)(M:MX TT Z W b v p s)
  :Calls Tryz.prog 22 #[.pointer (some ⟨b,0,none⟩)] W (fun e w'=>e= .returned (.int .i64 (s.events:Int))∧Below W.heap.size W w'):=by
 have c0:W.cell? ⟨b,23,none⟩=some (.int .i64 (s.events:Int)):=M.cell (k:=23) rfl
 have b0:=zlt M.h
 clear M
 go_enter Tryz.func22,Tryz.ntmps22
 go_wp2_with fail
 go_ret
 exact⟨rfl,Below.refl _ _⟩
theorem trap_any
  {Z:Nat→Prop}(b:Nat)(v:MV)(p:Img)(s:MS)(W:World)(M:MX TT Z W b v p s)
  :Calls Tryz.prog 25 #[.pointer (some ⟨b,0,none⟩)] W (fun e w'=>e= .returned (.string s.trap)∧Below W.heap.size W w'):=by
 have c0:W.cell? ⟨b,20,none⟩=some (.string s.trap):=M.cell (k:=20) rfl
 have b0:=zlt M.h
 clear M
 go_enter Tryz.func25,Tryz.ntmps25
 go_wp2_with fail
 go_ret
 exact⟨rfl,Below.refl _ _⟩
theorem xrow_slice3 {α β:Type}[Cells α][Elt α β]{F:Nat→Prop}{w:World}{e:TypeId}{v:Value}{l:List β}(h:XRow F w e v l):∃a n c,v= .slice a n c:=by
 obtain⟨a,c,h⟩:=h.slice
 exact⟨_,_,_,h⟩
def MdRel (W:World)(l:List Cm)(gk:Nat)(v3 v11:Value)(wr:World):Prop:=
 ∃i:Nat,v11= .int .i64 i∧i≤l.length∧gk=l.length - i∧XRow (fun g=>W.heap.size≤g∧¬v3.ownBlock=some g) wr 68 v3 ((l.take i).map cloneC)∧(∀g,v3.ownBlock=some g→W.heap.size≤g)∧Below W.heap.size W wr
theorem made_any
  {Z:Nat→Prop}(b:Nat)(v:MV)(p:Img)(s:MS)(W:World)(M:MX TT Z W b v p s)
  (hz:∀c∈s.made,szV c.v≤1073741824)(hl:s.made.length≤4294967296):
  Calls Tryz.prog 24 #[.pointer (some ⟨b,0,none⟩)] W (MdPost W (s.made.map cloneC)):=by
 obtain⟨am,cap,hms⟩:∃a cap,v.ms= .slice a s.made.length cap:=M.mds.slice
 have c21:W.cell? ⟨b,21,none⟩=some (.slice am s.made.length cap):=by rw[←hms];exact M.cell (k:=21) rfl
 have hR:XRow (MZ Z v b) W 68 (.slice am s.made.length cap) s.made:=hms▸M.mds
 have b0:=zlt M.h
 have HX:=zh3 hR hz hl
 clear M hms hR hz hl
 go_enter Tryz.func24,Tryz.ntmps24
 go_wp2_with fail
 obtain⟨n,hn⟩:∃n,s.made.length=n:=⟨_,rfl⟩
 have HN:=zhd hn
 rw[hn]
 clear hn c21
 go_loopg [3,11] n (fun gk v3 v11 wr=>MdRel W s.made gk v3 v11 wr)
 case atStart=>exact⟨0,rfl,Nat.zero_le _,by rw[HN.out];rfl,XRow.nil _ _ _,(fun g h=>by cases h),Below.refl _ _⟩
 case round=>
  obtain⟨i,rfl,hi,hgk,hX,hO,hB⟩:=hrel
  rw[HN.out]at hi hgk
  by_cases hin:i<n
  ·obtain⟨c,hc⟩:=elem_at (l:=s.made) (k:=i) (by rw[HN.out];exact hin)
   obtain⟨g,off,cc,rfl,hg,hrel,_,hcs⟩:=HX.out.1.at_ hc
   have hin':(i:Int)<(n:Int):=by omega
   have hwi:wrap64 ((i:Int)+1)=(i:Int)+1:=by have:=HX.out.2.2;have:=HN.out;unfold wrap64;omega
   obtain⟨ck,ct,ca,cb,cn,⟨vk,vn,vs,la,ln,lc⟩⟩:=cc
   have m0:W.cell? ⟨g,off+i*9,none⟩=some (.int .i64 ck):=hcs 0 _ rfl
   have m1:W.cell? ⟨g,off+i*9+1,none⟩=some (.int .i64 ct):=hcs 1 _ rfl
   have m2:W.cell? ⟨g,off+i*9+2,none⟩=some (.int .i64 ca):=hcs 2 _ rfl
   have m3:W.cell? ⟨g,off+i*9+3,none⟩=some (.int .i64 cb):=hcs 3 _ rfl
   have m4:W.cell? ⟨g,off+i*9+4,none⟩=some (.string cn):=hcs 4 _ rfl
   have m5:W.cell? ⟨g,off+i*9+5,none⟩=some (.int .i64 vk):=hcs 5 _ rfl
   have m6:W.cell? ⟨g,off+i*9+6,none⟩=some (.int .i64 vn):=hcs 6 _ rfl
   have m7:W.cell? ⟨g,off+i*9+7,none⟩=some (.string vs):=hcs 7 _ rfl
   have m8:W.cell? ⟨g,off+i*9+8,none⟩=some (.slice la ln lc):=hcs 8 _ rfl
   rw[←hB.cell (p:=⟨g,_,none⟩) hg]at m0 m1 m2 m3 m4 m5 m6 m7 m8
   have hgl:g<wr.heap.size:=Nat.lt_of_lt_of_le hg hB.size
   have hrel2:CmF (MZ Z v b) W ⟨ck,ct,ca,cb,cn,⟨vk,vn,vs,la,ln,lc⟩⟩ c:=hrel
   have hzc:=HX.out.2.1 c (zmg hc)
   have H0:=zh7 hX hO hB hrel2 hc hgk hzc
   clear hcs hrel hrel2 hX hO hB hc hgk hi hzc
   go_upto_region 5 with(fail)
   refine wp_named ?_
   intro w1 hw1
   have B1:=zba hw1
   have hb1:=zha hw1
   have q5:=zca hb1 5 rfl
   have q6:=zca hb1 6 rfl
   have q7:=zca hb1 7 rfl
   have q8:=zca hb1 8 rfl
   have hl1:=zlt hb1
   have CL:=zhd (clone_any c.v vk vn vs la ln lc _ w1 ((H0.out.2.2.2.1.v.keep (S:=fun _=>False) (zkb H0.out.2.2.1) (fun _ _ f=>f)).keep (S:=fun _=>False) (zkb B1) (fun _ _ f=>f)) H0.out.2.2.2.2.2.2)
   have H1:=zh2 B1 hb1
   clear hw1 B1 hb1 m0 m1 m2 m3 m4 m5 m6 m7 m8
   go_wp2_with fail
   refine CL.out.mono ?_
   rintro e w2 ⟨⟨k8,n8,s8,la8,ln8,lc8⟩,rfl,H2⟩
   have hb2:=(H2.out.2.block wr.heap.size hl1).trans H1.out.2
   have hf2:∀o,w2.frozen? ⟨wr.heap.size,o,none⟩=false:=fun o=>zfr hb2 o
   have hl2:=zlt hb2
   have q5:=zca hb2 5 rfl
   have q6:=zca hb2 6 rfl
   have q7:=zca hb2 7 rfl
   have q8:=zca hb2 8 rfl
   have HB2:=zhd hb2
   clear hb2
   go_upto_region 6 with(fail)
   refine wp_named ?_
   intro w3 hw3
   have hb3:w3.heap[wr.heap.size]? =some (.cells #[.int .i64 ck,.int .i64 ct,.int .i64 ca,.int .i64 cb,.string cn,.int .i64 k8,.int .i64 n8,.string s8,.slice la8 ln8 lc8] 68 (0,0)):=by
    rw[hw3]
    have:=HB2.out
    simp[World.setCell,Array.getElem?_modify,this]
   have K3:Keeps (fun j=>j=wr.heap.size) w2 w3:=by rw[hw3];exact four_keep w2 wr.heap.size 5 6 7 8 _ _ _ _
   have q0:=zca hb3 0 rfl
   have q1:=zca hb3 1 rfl
   have q2:=zca hb3 2 rfl
   have q3:=zca hb3 3 rfl
   have q4:=zca hb3 4 rfl
   have q5:=zca hb3 5 rfl
   have q6:=zca hb3 6 rfl
   have q7:=zca hb3 7 rfl
   have q8:=zca hb3 8 rfl
   have hl3:=zlt hb3
   have B12:Below wr.heap.size wr w2:=H1.out.1.trans (H2.out.2.mono H1.out.1.size)
   have B13:Below wr.heap.size wr w3:=B12.trans (K3.below B12.size (fun jz hj e=>Nat.ne_of_lt hj e))
   have C3:CF (fun g=>wr.heap.size≤g∧g≠wr.heap.size) w3 ⟨k8,n8,s8,la8,ln8,lc8⟩ (cloneV c.v):=(H2.out.1.mono (G:=fun g=>wr.heap.size≤g∧g≠wr.heap.size) (fun g hg _=>by have hg:w1.heap.size≤g:=hg;omega)).keep K3 (fun g hg e=>hg.2 e)
   obtain⟨va,vl,vc,hv3⟩:=xrow_slice3 H0.out.1
   subst hv3
   obtain⟨ks,hKR,hKP⟩:=(H0.out.1.below B13).cells
   have hkl:ks.length=i:=by
    rw[hKP.1,List.length_map,List.length_take]
    have:=HN.out
    omega
   have RA:=zhd (hKR.below ((Below.refl w3.heap.size w3).alloc (Nat.le_refl _) (.cells #[.int .i64 ck,.int .i64 ct,.int .i64 ca,.int .i64 cb,.string cn,.int .i64 k8,.int .i64 n8,.string s8,.slice la8 ln8 lc8] 68)))
   have HBD:=zhd (show(ks.length+1)*104≤140737488355328∧ks.length+1≤maxLen from by have:=HX.out.2.2;have:=HN.out;rw[hkl];unfold maxLen;omega)
   have H3:=zh4 hKP C3 B13 hkl
   clear hw3 hb3 K3 B12 B13 C3 hKR hKP hkl
   go_wp2_with (at_builtin;refine wp_appW (α:=CC) elemC rfl (.tmp 19) (.tmp 21) rfl RA.out (⟨ck,ct,ca,cb,cn,⟨k8,n8,s8,la8,ln8,lc8⟩⟩:CC) rfl rfl (heap_alloc_new _ _) HBD.out.1 HBD.out.2 ?_;intro a1 c1 w4 hr1 hk1 hf1;have HF:=zh3 hr1 hk1 hf1;clear hr1 hk1 hf1)
   go_roundg (n - (i+1))
   case measure=>have h1:=H0.out.2.2.2.2.2.1;have h2:=HN.out;omega
   case rel=>
    have A4:Below w3.heap.size w3 (w3.alloc (.cells (enc (⟨ck,ct,ca,cb,cn,⟨k8,n8,s8,la8,ln8,lc8⟩⟩:CC)).toArray 68)):=zal
    have hw3:W.heap.size≤w3.heap.size:=Nat.le_trans H0.out.2.2.1.size H3.out.2.2.1.size
    have hwa:wr.heap.size≤w3.heap.size:=H3.out.2.2.1.size
    have hsz:(w3.alloc (.cells (enc (⟨ck,ct,ca,cb,cn,⟨k8,n8,s8,la8,ln8,lc8⟩⟩:CC)).toArray 68)).heap.size=w3.heap.size+1:=by simp
    have hvo:∀g,(Value.slice va vl vc).ownBlock=some g→W.heap.size≤g∧g<wr.heap.size:=fun g hg=>⟨H0.out.2.1 g hg,H0.out.1.lt hg⟩
    have hta:s.made.take (i+1)=s.made.take i++[c]:=by rw[List.take_add_one,H0.out.2.2.2.2.1];rfl
    refine⟨i+1,by simp[hwi],by rw[HN.out];omega,by rw[HN.out],?_,?_,?_⟩
    ·rw[hta,List.map_append,List.map_singleton]
     have P1:Ptw (fun g=>W.heap.size≤g∧¬(Value.slice va vl vc).ownBlock=some g) w3 (ks++[⟨ck,ct,ca,cb,cn,⟨k8,n8,s8,la8,ln8,lc8⟩⟩]) ((s.made.take i).map cloneC++[cloneC c]):=H3.out.1.app (Ptw.one (x:=cloneC c) ⟨H0.out.2.2.2.1.kind,H0.out.2.2.2.1.time,H0.out.2.2.2.1.a,H0.out.2.2.2.1.b,H0.out.2.2.2.1.name,H3.out.2.1.mono (fun g hg _=>⟨Nat.le_trans H0.out.2.2.1.size hg.1,fun e=>by have:=(hvo g e).2;omega⟩)⟩)
     have P2:Ptw (fun g=>(W.heap.size≤g∧¬(Value.slice va vl vc).ownBlock=some g)∧g<w3.heap.size) w3 (ks++[⟨ck,ct,ca,cb,cn,⟨k8,n8,s8,la8,ln8,lc8⟩⟩]) ((s.made.take i).map cloneC++[cloneC c]):=P1.mono (fun g hg hl=>⟨hg,hl⟩)
     have P3:=(P2.keep (S:=fun _=>False) (zkb A4) (fun _ _ f=>f)).keep HF.out.2.1 (fun g hg e=>hg.1.2 e)
     refine XRow.of HF.out.1 (Ptw.mono P3 ?_)
     intro g hg _
     refine⟨hg.1.1,fun e=> ?_⟩
     rcases HF.out.2.2 g e with h|h
     ·exact hg.1.2 h
     ·have h:w3.heap.size+1≤g:=by simpa using h
      have:=hg.2;omega
    ·intro g hg
     rcases HF.out.2.2 g hg with h|h
     ·exact(hvo g h).1
     ·have h:w3.heap.size+1≤g:=by simpa using h
      omega
    ·have K34:=((zkb (S:=fun _=>False) A4).mono (fun _ _ f=>f.elim)).trans HF.out.2.1 (fun _ _ e=>e)
     exact(H0.out.2.2.1.trans (H3.out.2.2.1.mono H0.out.2.2.1.size)).trans (K34.below hw3 (fun j hj e=>by have:=hvo j e;omega))
  ·obtain rfl:i=n:=by omega
   have hnn:¬(i:Int)<i:=by omega
   have hT:s.made.take i=s.made:=List.take_of_length_le (by rw[HN.out];exact Nat.le_refl _)
   rw[hT]at hX
   have H0:=zh3 (hX.mono (G:=fun g=>W.heap.size≤g) (fun g h _=>h.1)) hO hB
   clear hX hO hB hgk hT hi
   go_wp2_with fail
   go_ret
   exact⟨_,rfl,zhd H0.out⟩
def TkPost (Z:Nat→Prop)(W:World)(b:Nat)(v:MV)(p:Img)(s:MS)(e:Ending)(w':World):Prop:=∃r:Value,e= .returned r∧Hid (XRow (fun g=>W.heap.size≤g) w' 68 r ((s.made.drop s.taken).map cloneC)∧(∀g,r.ownBlock=some g→W.heap.size≤g)∧MX TT Z w' b v p {s with taken:=s.made.length}∧MK b v W v w')
theorem take_any2
  {Z:Nat→Prop}(b:Nat)(v:MV)(p:Img)(s:MS)(W:World)(M:MX TT Z W b v p s)
  (hz:∀c∈s.made,szV c.v≤1073741824)(hl:s.made.length≤4294967296)(ht:s.taken≤s.made.length):
  Calls Tryz.prog 29 #[.pointer (some ⟨b,0,none⟩)] W (TkPost Z W b v p s):=by
 have MA:=zhd (made_any b v p s W.drew (M.ext (Below.refl _ _).drew) hz hl)
 have c22:W.cell? ⟨b,22,none⟩=some (.int .i64 (s.taken:Int)):=M.cell (k:=22) rfl
 have b22:=zlt M.h
 have HX:=zhd M
 clear M
 go_enter Tryz.func29,Tryz.ntmps29
 have HT:=zhd ht
 clear ht
 go_upto_region 1 with(fail)
 go_region_law ((go_simp;go_at_call 24;refine MA.out.mono ?_;rintro e w1 ⟨r,rfl,H1⟩;have M1:=HX.out.ext ((Below.refl W.heap.size W).drew.trans H1.out.2.2);have t22:w1.cell? ⟨b,22,none⟩=some (.int .i64 (s.taken:Int)):=M1.cell (k:=22) rfl;have t0:=zlt M1.h;obtain⟨ra,rc,hrs⟩:=H1.out.1.slice;subst hrs;obtain⟨ks,hR,hP⟩:=H1.out.1.cells;obtain⟨ad,hrun,hRow,hown⟩:=cut_fromO elemC hR (k:=s.taken) (by rw[hP.1,List.length_map];exact HT.out);have hown2:=(fun g hg=>H1.out.2.1 g (hown g hg));simp only[List.length_map]at hrun hRow hown2;have HM:=zh4 M1 hRow hown2 hP;clear M1 hR hP hRow hown hown2))
 all_goals
  obtain⟨am,cap,hms⟩:∃a cap,v.ms= .slice a s.made.length cap:=HM.out.1.mds.slice
  have d21:w1.cell? ⟨b,21,none⟩=some (.slice am s.made.length cap):=by rw[←hms];exact HM.out.1.cell (k:=21) rfl
  have df:∀o,w1.frozen? ⟨b,o,none⟩=false:=fun o=>HM.out.1.frozen o
  have SN:=zhd (HM.out.1.scalar 22 (.int .i64 (s.made.length:Int)) {s with taken:=s.made.length} rfl rfl rfl rfl rfl rfl rfl rfl)
  clear hms hrun
  go_wp2_with fail
  go_ret
  have hp:=HM.out.2.2.2.drop s.taken
  rw[←List.map_drop]at hp
  have hb:∀g,W.heap.size≤g→¬g=b:=fun g hg e=>by have:=zlt HX.out.h;omega
  refine⟨_,rfl,zhd ⟨XRow.of (HM.out.2.1.keep (Keeps.setCell (S:=fun j=>j=b) (p:=⟨b,22,none⟩) (Keeps.refl _ _) (.inl rfl) _) (fun g hg e=>hb g (HM.out.2.2.1 g hg) e)) (hp.keep (Keeps.setCell (S:=fun j=>j=b) (p:=⟨b,22,none⟩) (Keeps.refl _ _) (.inl rfl) _) (fun g hg e=>hb g hg e)),fun g hg=>HM.out.2.2.1 g hg,SN.out.1,(MK.ext ((Below.refl W.heap.size W).drew.trans H1.out.2.2)).trans SN.out.2⟩⟩
theorem fields1_any (W:World):Calls Tryz.prog 69 #[.int .i64 1] W (fun e w'=>e= .returned (.tuple #[.agg #[.bool true,.bool true,.bool false,.bool false],.bool true])∧Below W.heap.size W w'):=by
 go_enter Tryz.func69,Tryz.ntmps69
 go_wp2_with fail
 exact bodyPost_ret (v:=.tuple #[.agg #[.bool true,.bool true,.bool false,.bool false],.bool true]) (by simp only[results,Tryz.results69];go_simp) rfl ⟨rfl,by repeat(first|exact Below.refl _ _|refine Below.setCell ?_ (by first|(simp;done)|(simp;omega)) _|refine Below.alloc ?_ (by first|(simp;done)|(simp;omega)) _)⟩
theorem fields4_any (W:World):Calls Tryz.prog 69 #[.int .i64 4] W (fun e w'=>e= .returned (.tuple #[.agg #[.bool false,.bool false,.bool false,.bool true],.bool true])∧Below W.heap.size W w'):=by
 go_enter Tryz.func69,Tryz.ntmps69
 go_wp2_with fail
 exact bodyPost_ret (v:=.tuple #[.agg #[.bool false,.bool false,.bool false,.bool true],.bool true]) (by simp only[results,Tryz.results69];go_simp) rfl ⟨rfl,by repeat(first|exact Below.refl _ _|refine Below.setCell ?_ (by first|(simp;done)|(simp;omega)) _|refine Below.alloc ?_ (by first|(simp;done)|(simp;omega)) _)⟩
theorem cname1_any (W:World):Calls Tryz.prog 96 #[.int .i64 1] W (fun e w'=>e= .returned (.string ⟨#[115,116,97,114,116,45,116,105,109,101,114]⟩)∧w'=W):=by
 go_enter Tryz.func96,Tryz.ntmps96
 go_wp2_with fail
 go_ret
 exact⟨rfl,rfl⟩
theorem cname4_any (W:World):Calls Tryz.prog 96 #[.int .i64 4] W (fun e w'=>e= .returned (.string ⟨#[99,111,109,112,108,101,116,101]⟩)∧w'=W):=by
 go_enter Tryz.func96,Tryz.ntmps96
 go_wp2_with fail
 go_ret
 exact⟨rfl,rfl⟩
theorem itoa10:Lib.itoa 10=[49,48]:=by kernel_rfl
theorem itoa1:Lib.itoa 1=[49]:=by kernel_rfl
theorem itoa5:Lib.itoa 5=[53]:=by kernel_rfl
theorem itoa15:Lib.itoa 15=[49,53]:=by kernel_rfl
theorem print_start {N:Nat}(la:Option Addr)(ln lc:Nat)(W:World)(G:Gl Tryz.prog N W):
  Calls Tryz.prog 49 #[.agg #[.int .i64 1,.int .i64 10,.int .i64 1,.int .i64 5,.string ⟨#[]⟩,.int .i64 0,.int .i64 0,.string ⟨#[]⟩,.slice la ln lc]] W (fun e w'=>e= .returned (.string ⟨#[64,49,48,32,115,116,97,114,116,45,116,105,109,101,114,32,49,32,53]⟩)∧Below W.heap.size W w'):=by
 have HG:=zhd G
 clear G
 have FI:=zhd (fun(n:Int) (h0: -9223372036854775808≤n) (h1:n≤9223372036854775807) (w:World) (B:Below W.heap.size W w)=>formatInt_any n h0 h1 w (HG.out.below B))
 obtain⟨w0,hw0⟩:∃w0,w0=W.alloc (.cells #[.int .i64 1,.int .i64 10,.int .i64 1,.int .i64 5,.string ⟨#[]⟩,.int .i64 0,.int .i64 0,.string ⟨#[]⟩,.slice la ln lc] 68):=⟨_,rfl⟩
 have B0:=zba hw0
 have hB:=zha hw0
 have c0:=zca hB 0 rfl
 have l0:=zlt hB
 have H0:=zh2 B0 hB
 clear B0 hB
 go_enter Tryz.func49,Tryz.ntmps49
 go_wp2_with fail
 rw[←hw0]
 clear hw0
 refine(fields1_any _).mono ?_
 rintro e w1 ⟨rfl,hB1⟩
 have b1:=(hB1.block W.heap.size l0).trans H0.out.2
 have HB1:=zh2 b1 (H0.out.1.trans (hB1.mono H0.out.1.size))
 have l1:=zlt b1
 clear c0 l0 hB1 b1
 go_upto_region 2 with(fail)
 refine wp_named ?_
 intro w2 hw2
 have B2:=zba hw2
 have f2:=zha hw2
 have BW2:=HB1.out.2.trans (B2.mono HB1.out.2.size)
 have b2:=(B2.block W.heap.size l1).trans HB1.out.1
 have k0:=zca b2 0 rfl
 have k1:=zca b2 1 rfl
 have l2:=zlt b2
 have F2:=zhd (fun(w:World) (B:Below w2.heap.size w2 w)=>itoa10▸formatInt_any 10 (by decide) (by decide) w (HG.out.below (BW2.trans (B.mono BW2.size))))
 have H2:=zh3 BW2 b2 f2
 clear hw2 B2 f2 b2 BW2 FI l1
 refine wp_region_ext (by kernel_rfl) (by kernel_rfl) ?_
 repeat(go_big_quiet_step (first|(go_at_call 95;exact ext_call (F2.out _ (ext_below _)))|(go_at_call 96;exact ext_call ((cname1_any _).mono (fun e w h=>⟨h.1,h.2▸Below.refl _ _⟩)))))
 refine wpQuiet_nil ?_
 intro w3 hB3
 have b3:=(hB3.block W.heap.size l2).trans H2.out.2.1
 have f3:=(hB3.block w1.heap.size (zlt H2.out.2.2)).trans H2.out.2.2
 have k0:=zca f3 0 rfl
 have l3:=zlt f3
 have H3:=zh3 (H2.out.1.trans (hB3.mono H2.out.1.size)) b3 f3
 clear hB3 b3 f3 k1 l2
 have c2:=zca H3.out.2.1 2 rfl
 have m3:=zlt H3.out.2.1
 have F3:=zhd (fun(w:World) (B:Below w3.heap.size w3 w)=>itoa1▸formatInt_any 1 (by decide) (by decide) w (HG.out.below (H3.out.1.trans (B.mono H3.out.1.size))))
 go_upto_region 4 with(fail)
 go_wp2_with fail
 refine(F3.out _ (Below.refl _ _)).mono ?_
 rintro e w4 ⟨rfl,hB4⟩
 have b4:=(hB4.block W.heap.size m3).trans H3.out.2.1
 have f4:=(hB4.block w1.heap.size l3).trans H3.out.2.2
 have k0:=zca f4 1 rfl
 have c3:=zca b4 3 rfl
 have l4:=zlt f4
 have m4:=zlt b4
 have BW4:=H3.out.1.trans (hB4.mono H3.out.1.size)
 have F4:=zhd (fun(w:World) (B:Below w4.heap.size w4 w)=>itoa5▸formatInt_any 5 (by decide) (by decide) w (HG.out.below (BW4.trans (B.mono BW4.size))))
 have H4:=zh3 BW4 b4 f4
 clear hB4 b4 f4 c2 m3 l3 BW4 F3 F2
 go_upto_region 6 with(fail)
 go_wp2_with fail
 refine(F4.out _ (Below.refl _ _)).mono ?_
 rintro e w5 ⟨rfl,hB5⟩
 have b5:=(hB5.block W.heap.size m4).trans H4.out.2.1
 have f5:=(hB5.block w1.heap.size l4).trans H4.out.2.2
 have k2:=zca f5 2 rfl
 have k3:=zca f5 3 rfl
 have l5:=zlt f5
 have H5:=zhd (H4.out.1.trans (hB5.mono H4.out.1.size))
 clear hB5 b5 f5 k0 c3 l4 m4 F4
 go_wp2_with fail
 go_ret
 exact⟨rfl,H5.out⟩
theorem print_complete {N:Nat}(W:World)(G:Gl Tryz.prog N W)(F:Nat→Prop)(la:Option Addr)(ln lc:Nat)(C:CF F W ⟨1,15,⟨#[]⟩,la,ln,lc⟩ (vInt 15)):
  Calls Tryz.prog 49 #[.agg #[.int .i64 4,.int .i64 15,.int .i64 0,.int .i64 0,.string ⟨#[]⟩,.int .i64 1,.int .i64 15,.string ⟨#[]⟩,.slice la ln lc]] W (fun e w'=>e= .returned (.string ⟨#[64,49,53,32,99,111,109,112,108,101,116,101,32,49,53]⟩)∧Below W.heap.size W w'):=by
 have HG:=zh2 G C
 clear G C
 obtain⟨w0,hw0⟩:∃w0,w0=W.alloc (.cells #[.int .i64 4,.int .i64 15,.int .i64 0,.int .i64 0,.string ⟨#[]⟩,.int .i64 1,.int .i64 15,.string ⟨#[]⟩,.slice la ln lc] 68):=⟨_,rfl⟩
 have B0:=zba hw0
 have hB:=zha hw0
 have c0:=zca hB 0 rfl
 have l0:=zlt hB
 have H0:=zh2 B0 hB
 clear B0 hB
 go_enter Tryz.func49,Tryz.ntmps49
 go_wp2_with fail
 rw[←hw0]
 clear hw0
 refine(fields4_any _).mono ?_
 rintro e w1 ⟨rfl,hB1⟩
 have b1:=(hB1.block W.heap.size l0).trans H0.out.2
 have HB1:=zh2 b1 (H0.out.1.trans (hB1.mono H0.out.1.size))
 have l1:=zlt b1
 clear c0 l0 hB1 b1
 go_upto_region 2 with(fail)
 refine wp_named ?_
 intro w2 hw2
 have B2:=zba hw2
 have f2:=zha hw2
 have BW2:=HB1.out.2.trans (B2.mono HB1.out.2.size)
 have b2:=(B2.block W.heap.size l1).trans HB1.out.1
 have k0:=zca b2 0 rfl
 have k1:=zca b2 1 rfl
 have l2:=zlt b2
 have F2:=zhd (fun(w:World) (B:Below w2.heap.size w2 w)=>itoa15▸formatInt_any 15 (by decide) (by decide) w (HG.out.1.below (BW2.trans (B.mono BW2.size))))
 have H2:=zh3 BW2 b2 f2
 clear hw2 B2 f2 b2 BW2 l1
 refine wp_region_ext (by kernel_rfl) (by kernel_rfl) ?_
 repeat(go_big_quiet_step (first|(go_at_call 95;exact ext_call (F2.out _ (ext_below _)))|(go_at_call 96;exact ext_call ((cname4_any _).mono (fun e w h=>⟨h.1,h.2▸Below.refl _ _⟩)))))
 refine wpQuiet_nil ?_
 intro w3 hB3
 have b3:=(hB3.block W.heap.size l2).trans H2.out.2.1
 have f3:=(hB3.block w1.heap.size (zlt H2.out.2.2)).trans H2.out.2.2
 have k0:=zca f3 0 rfl
 have k1:=zca f3 1 rfl
 have k2:=zca f3 2 rfl
 have k3:=zca f3 3 rfl
 have c5:=zca b3 5 rfl
 have c6:=zca b3 6 rfl
 have c7:=zca b3 7 rfl
 have c8:=zca b3 8 rfl
 have l3:=zlt f3
 have m3:=zlt b3
 have BW3:=H2.out.1.trans (hB3.mono H2.out.1.size)
 have PV:=zhd (print_any (vInt 15) 1 15 ⟨#[]⟩ la ln lc F w3 (HG.out.2.keep (S:=fun _=>False) (zkb BW3) (fun _ _ f=>f)) (HG.out.1.below BW3) (by simp[vInt,Val.wf_eq,Val.kind,Val.num,Val.txt,Val.list,Val.wf.wfL];decide) (by rw[szV_eq];decide))
 have H3:=zhd BW3
 clear hB3 b3 f3 l2 BW3 F2
 go_wp2_with fail
 refine PV.out.mono ?_
 rintro e w4 ⟨he,hB4⟩
 have hpv:printV (vInt 15)=⟨#[49,53]⟩:=by kernel_rfl
 rw[hpv]at he
 subst he
 have H4:=zhd (H3.out.trans (hB4.mono H3.out.size))
 clear hB4 k0 k1 k2 k3 c5 c6 c7 c8 l3 m3 PV
 go_wp2_with fail
 go_ret
 exact⟨rfl,H4.out⟩
def spk (s:MS)(i:Nat):MS:={s with stk:=s.stk.take (s.stk.length - i)}
theorem spk_zero (s:MS):spk s 0=s:=by unfold spk;rw[Nat.sub_zero,List.take_length]
theorem spk_pop {s:MS}{i:Nat}(h:i<s.stk.length):(spk s i).pop=spk s (i+1)∧s.stk.drop (s.stk.length - (i+1))=(spk s i).top::s.stk.drop (s.stk.length - i):=by
 obtain⟨x,hx⟩:=elem_at (l:=s.stk) (k:=s.stk.length - (i+1)) (by omega)
 constructor
 ·unfold spk MS.pop
  simp only
  rw[List.dropLast_eq_take,List.take_take,List.length_take]
  congr 1
  congr 1
  omega
 ·rw[drop_get hx,show s.stk.length - (i+1)+1=s.stk.length - i from by omega]
  congr 1
  unfold spk MS.top
  simp only
  rw[List.getLast?_eq_getElem?,List.length_take,List.getElem?_take,if_pos (by omega),show min (s.stk.length - i) s.stk.length - 1=s.stk.length - (i+1)from by omega,hx]
  rfl
theorem ptw_step {Z:Nat→Prop}{W w':World}{b:Nat}{v v':MV}{cs:List VC}{l:List Val}(K:MK b v W v' w')(h:Ptw (MZ Z v b) W cs l):Ptw (MZ Z v' b) w' cs l:=
 ((h.mono (G:=fun g=>MZ Z v b g∧MZ Z v' b g) (fun _ hg hl=>⟨hg,MZ.step K hg hl⟩)).keep K.keeps (fun _ hg e=>hg.1.1 e)).mono (fun _ hg _=>hg.2)
structure PkR (Z:Nat→Prop)(W:World)(b:Nat)(v:MV)(p:Img)(s:MS)(B i:Nat)(v':MV)(a:Option Addr)(cap:Nat)(cs:List VC)(wr:World):Prop where
 m:MX TT (fun j=>Z j∧j≠B) wr b v' p (spk s i)
 k:MK b v W v' wr
 box:wr.heap[B]? =some (.cells #[.int .i64 3,.int .i64 0,.string ⟨#[]⟩,.slice a i cap] 39 (0,0))
 nb:¬MO v' b B
 row:RowAt wr 39 (.slice a i cap) cs
 p:Ptw (MZ (fun j=>Z j∧j≠B) v' b) wr cs (s.stk.drop (s.stk.length - i))
 own:∀g,(Value.slice a i cap).ownBlock=some g→W.heap.size≤g∧¬MO v' b g∧g≠B
 sz:W.heap.size≤wr.heap.size
def PkRel (Z:Nat→Prop)(W:World)(b:Nat)(v:MV)(p:Img)(s:MS)(B k:Nat)(gk:Nat)(v15:Value)(wr:World):Prop:=
 ∃(i:Nat) (v':MV) (a:Option Addr) (cap:Nat) (cs:List VC),v15= .int .i64 i∧i≤k∧gk=k - i∧PkR Z W b v p s B i v' a cap cs wr
theorem reckon_pack
  {Z:Nat→Prop}(b:Nat)(v:MV)(p:Img)(s:MS)(W:World)(M:MX TT Z W b v p s)
  (k:Nat)(hks:k≤s.stk.length)(hk:s.stk.length≤4294967296)(hl:s.made.length≤4294967296)(hZ:∀j,W.heap.size≤j→Z j)(s':MS)(hw:(Val.mk 3 0 ⟨#[]⟩ (s.stk.drop (s.stk.length - k))).wf)
  (hs':s'=(spk s k).put (.mk 3 0 ⟨#[]⟩ (s.stk.drop (s.stk.length - k)))):
  Calls Tryz.prog 142 #[.pointer (some ⟨b,0,none⟩),.agg #[.int .i64 29,.int .i64 k]] W (MP Z W b v p (.bool true) s'):=by
 obtain⟨w0,hw0⟩:∃w0,w0=W.alloc (.cells #[.int .i64 29,.int .i64 k] 43):=⟨_,rfl⟩
 have B0:=zba hw0
 have hs0:w0.heap.size=W.heap.size+1:=by rw[hw0];simp
 have hlt:W.heap.size<w0.heap.size:=by rw[hs0];omega
 have c0:w0.cell? ⟨W.heap.size,0,none⟩=some (.int .i64 29):=by rw[hw0,zch (heap_alloc_new _ _)];rfl
 have c1:w0.cell? ⟨W.heap.size,1,none⟩=some (.int .i64 k):=by rw[hw0,zch (heap_alloc_new _ _)];rfl
 obtain⟨w1,hw1⟩:∃w1,w1=w0.alloc (.cells #[.int .i64 3,.int .i64 0,.string ⟨#[]⟩,.slice none 0 0] 39):=⟨_,rfl⟩
 have B1:Below W.heap.size W w1:=by rw[hw1];exact B0.alloc B0.size _
 have hb1:w1.heap[W.heap.size+1]? =some (.cells #[.int .i64 3,.int .i64 0,.string ⟨#[]⟩,.slice none 0 0] 39 (0,0)):=by rw[hw1,←hs0];exact heap_alloc_new _ _
 have d1:w1.cell? ⟨W.heap.size,1,none⟩=some (.int .i64 k):=by rw[hw1,World.cell?_of_block (w:=w0) (Below.heap_alloc _ _ _ hlt)];exact c1
 have l1:W.heap.size<w1.heap.size:=by rw[hw1,alloc_sz'];omega
 have P0:PkR Z W b v p s (W.heap.size+1) 0 v none 0 [] w1:=⟨by rw[spk_zero];exact(M.monoZ (fun j h l=>⟨h,by omega⟩)).ext B1,MK.ext B1,hb1,fun e=>by have:=M.lt e;omega,RowAt.nil _ _,by rw[Nat.sub_zero,List.drop_length];exact Ptw.nil,(fun g hg=>by cases hg),B1.size⟩
 have hB0:W.heap.size≤w0.heap.size:=by omega
 have HX:=zh8 P0 hw hs' hk hl hZ hks hB0
 clear M P0 hw hs' hk hl hZ hs0 hb1 B0 B1
 go_enter Tryz.func142,Tryz.ntmps142
 go_wp2_with fail
 rw[←hw0,←hw1]
 clear hw0 hw1 c0 c1 d1 hB0 hlt l1
 go_loopg [15] k (fun gk v15 wr=>PkRel Z W b v p s (W.heap.size+1) k gk v15 wr)
 case atStart=>exact⟨0,v,none,0,[],rfl,Nat.zero_le _,rfl,HX.out.1⟩
 case round=>
  obtain⟨i,v',a,cap,cs,rfl,hi,hgk,R⟩:=hrel
  have hks:=HX.out.2.2.2.2.2.2.1
  have hk:=HX.out.2.2.2.1
  have q0:=zca R.box 0 rfl
  have q1:=zca R.box 1 rfl
  have q2:=zca R.box 2 rfl
  have q3:=zca R.box 3 rfl
  have qf:∀o,wr.frozen? ⟨W.heap.size+1,o,none⟩=false:=fun o=>zfr R.box o
  have lb:=zlt R.box
  by_cases hin:i<k
  ·have hin':(i:Int)<k:=by omega
   have HMS:=zhd (show k - (i+1)<gk from by omega)
   have HIW:=zhd (show wrap64 ((i:Int)+1)=(i:Int)+1 from by unfold wrap64;omega)
   have hi1:i+1≤k:=by omega
   obtain⟨hp1,hp2⟩:=spk_pop (s:=s) (i:=i) (by omega)
   have PO:=zhd (pop_any b v' p (spk s i) wr.drew (R.m.ext (Below.refl _ _).drew))
   have hcl:cs.length=i:=by rw[R.p.1,List.length_drop];omega
   have HR:=zh4 R hp1 hp2 hcl
   have HBD:=zhd (show∀c:VC,([c].length+cs.length)*56≤140737488355328∧[c].length+cs.length≤maxLen∧[c].length+cs.length=i+1 from fun c=>by unfold maxLen;simp;omega)
   clear R hp1 hp2 hcl hgk hks hk
   go_wp2_with fail
   go_region_law (first
    |(go_simp;go_at_call 136;refine PO.out.mono ?_;rintro e w5 ⟨v5,⟨ck,cn,ct,la,ln,lc⟩,rfl,H5⟩;have hb5:=(H5.out.2.1.keeps.block (W.heap.size+1) lb (fun e=>HR.out.1.nb e)).trans HR.out.1.box;have e3:w5.cell? ⟨W.heap.size+1,3,none⟩=some (.slice a i cap):=(by rw[zch hb5];rfl);have ef:∀o,w5.frozen? ⟨W.heap.size+1,o,none⟩=false:=(fun o=>zfr hb5 o);have el:=zlt hb5;have HB5:=zhd hb5;clear hb5)
    |(refine step_apps (α:=VC) (o:=⟨some 24,_,_,_,_,_⟩) elemV (by rfl) (.tmp 21) (.tmp 23) (by rfl) (v:=.slice (some ⟨w5.heap.size,0,none⟩) 1 1) (u:=.slice a i cap) (by rfl) (by rfl) (xs:=[⟨ck,cn,ct,la,ln,lc⟩]) (ys:=cs) (RowAt.lit (α:=VC) (y:=⟨ck,cn,ct,la,ln,lc⟩) (heap_alloc_new _ _)) ((HR.out.1.row.drew.keep H5.out.2.1.keeps (fun g hg e=>(HR.out.1.own g hg).2.1 e)).alloc _) (HBD.out _).1 (HBD.out _).2.1 (i+1) (HBD.out _).2.2 ?_;intro a1 cp w7 hr1 hk1 hf1;have hb7:=(hk1.block (W.heap.size+1) (by simp;omega) (fun e=>by simp[Value.ownBlock]at e;omega)).trans ((Below.heap_alloc _ _ _ el).trans HB5.out);have g3:w7.cell? ⟨W.heap.size+1,3,none⟩=some (.slice a i cap):=(by rw[zch hb7];rfl);have gf:∀o,w7.frozen? ⟨W.heap.size+1,o,none⟩=false:=(fun o=>zfr hb7 o);have gl:=zlt hb7;have H7:=zh4 hr1 hk1 hf1 hb7;clear hr1 hk1 hf1 hb7))
   all_goals
    go_wp2_with fail
    go_roundg (k - (i+1))
    case measure=>exact HMS.out
    case rel=>
     have sz5:=H5.out.2.1.keeps.size
     have KA:Keeps (fun _=>False) w5 w7:=((Keeps.refl (fun _=>False) w5).alloc _).trans H7.out.2.1 (fun j hj e=>by simp[Value.ownBlock]at e;omega)
     have KB:Keeps (fun j=>j=W.heap.size+1) w7 (w7.setCell ⟨W.heap.size+1,3,none⟩ (.slice a1 (i+1) cp)):=Keeps.setCell (S:=fun j=>j=W.heap.size+1) (p:=⟨W.heap.size+1,3,none⟩) (Keeps.refl _ _) (.inl rfl) _
     have hnb:¬MO v5 b (W.heap.size+1):=fun e=>(H5.out.2.1.own _ e).elim HR.out.1.nb (fun h=>by have h:wr.heap.size≤W.heap.size+1:=h;omega)
     have hfr:∀g,(Value.slice a1 (i+1) cp).ownBlock=some g→w5.heap.size≤g:=fun g hg=>by
      rcases H7.out.2.2.1 g hg with h|h
      ·simp[Value.ownBlock]at h;omega
      ·simp at h;omega
     have KAB:Keeps (fun j=>j=W.heap.size+1) w5 (w7.setCell ⟨W.heap.size+1,3,none⟩ (.slice a1 (i+1) cp)):=(KA.mono (fun _ _ f=>f.elim)).trans KB (fun _ _ e=>e)
     have K5:MK b v' wr v5 w5:=(MK.ext ((Below.refl wr.heap.size wr).drew)).trans H5.out.2.1
     have KM:MK b v W v5 (w7.setCell ⟨W.heap.size+1,3,none⟩ (.slice a1 (i+1) cp)):=(HR.out.1.k.trans K5).late (KAB.mono (fun j _ e=>by omega))
     have hlt5:W.heap.size+1<w5.heap.size:=Nat.lt_of_lt_of_le lb sz5
     have M5:MX TT (fun j=>Z j∧j≠W.heap.size+1) w5 b v5 p (spk s (i+1)):=by rw[←HR.out.2.1];exact H5.out.1
     refine⟨i+1,v5,a1,cp,[⟨ck,cn,ct,la,ln,lc⟩]++cs,by first|rfl|(rw[HIW.out];rfl)|simp,hi1,rfl,⟨?_,KM,?_,hnb,?_,?_,?_,?_⟩⟩
     ·exact M5.far KAB (fun j e h=>hnb (e▸h)) (fun j e h=>h.2 e)
     ·have h7:=H7.out.2.2.2
      simp[World.setCell,Array.getElem?_modify,h7]
     ·exact H7.out.1.keep KB (fun g hg e=>by have:=hfr g hg;have e:g=W.heap.size+1:=e;omega)
     ·rw[HR.out.2.2.1]
      exact((Ptw.one (x:=(spk s i).top) H5.out.2.2).app (ptw_step K5 HR.out.1.p)).keep KAB (fun g h e=>h.2.2 e)
     ·exact fun g hg=>⟨by have:=hfr g hg;omega,fun e=>by have:=M5.lt e;have:=hfr g hg;omega,by have:=hfr g hg;omega⟩
     ·have:=KAB.size
      have:=HR.out.1.sz
      omega
  ·obtain rfl:i=k:=by omega
   have CV:CF (MZ Z v' b) wr ⟨3,0,⟨#[]⟩,a,i,cap⟩ (.mk 3 0 ⟨#[]⟩ (s.stk.drop (s.stk.length - i))):=⟨rfl,rfl,rfl,VF.of (RdF.of_row R.row (fun g hg=>⟨(R.own g hg).2.1,HX.out.2.2.2.2.2.1 g (R.own g hg).1⟩)) (R.p.mono (fun g h _=>⟨h.1,h.2.1⟩))⟩
   have PU:=zhd (put_any b v' p (spk s i) wr (R.m.monoZ (fun j h _=>h.1)) (.mk 3 0 ⟨#[]⟩ (s.stk.drop (s.stk.length - i))) 3 0 ⟨#[]⟩ a i cap CV HX.out.2.1 (by unfold spk;simp only[List.length_take];omega) (by exact HX.out.2.2.2.2.1) (hZ_step HX.out.2.2.2.2.2.1 R.sz) s' HX.out.2.2.1.symm)
   have HR:=zhd R
   clear CV R hks hk hgk
   go_wp2_with fail
   refine PU.out.mono ?_
   rintro e w5 ⟨v5,rfl,H5⟩
   go_wp2_with fail
   go_ret
   exact⟨v5,rfl,zhd ⟨H5.out.1,HR.out.k.trans H5.out.2⟩⟩
end Go.Proofs.YtakljipkaoahnaaGreatDoor
