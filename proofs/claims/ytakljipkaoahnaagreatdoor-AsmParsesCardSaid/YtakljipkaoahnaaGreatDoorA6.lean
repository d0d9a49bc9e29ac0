/- Parts of the proof: what the functions and the plain laws give that later parts lean on. Conditions: none beyond those that each theorem names. -/
import Derived.Laws.OwnMore
import Derived.Lib.AppendStr
import Derived.Laws.Bits64
import Derived.Test.YtakljipkaoahnaaGreatDoorA5
set_option maxRecDepth 100000
set_option maxHeartbeats 8000000
namespace Go.Va
open Go.Own Go.RowKit
def byteV (c:UInt8):Value:=.int .u8 c.toNat
def numF:Nat→Nat→List UInt8
 |0,n=>[UInt8.ofNat n]
 |f+1,n=>bif decide (128≤n)then UInt8.ofNat (n%128+128)::numF f (n/128)else[UInt8.ofNat n]
def numB (n:Nat):List UInt8:=numF 10 n
theorem numF_stable:∀(f n:Nat),n<128^ (f+1)→numF f n=numF (f+1) n
 |0,n,h=>by
  rw[numF,numF]
  have:decide (128≤n)=false:=by rw[decide_eq_false_iff_not];omega
  rw[this]
  rfl
 |f+1,n,h=>by
  rw[numF]
  conv=>rhs;rw[numF]
  cases hn:decide (128≤n)with
  |false=>rfl
  |true=>
   have h2:n/128<128^ (f+1):=by
    rw[Nat.pow_succ]at h
    exact Nat.div_lt_of_lt_mul (by rw[Nat.mul_comm];exact h)
   rw[numF_stable f _ h2]
theorem numB_big {n:Nat}(h:128≤n)(hn:n<18446744073709551616):numB n=UInt8.ofNat (n%128+128)::numB (n/128):=by
 unfold numB
 rw[numF]
 have h1:decide (128≤n)=true:=by rw[decide_eq_true_eq];exact h
 rw[h1,numF_stable 9 (n/128) (by omega)]
 rfl
theorem numB_small {n:Nat}(h:n<128):numB n=[UInt8.ofNat n]:=by
 unfold numB
 rw[numF]
 have h1:decide (128≤n)=false:=by rw[decide_eq_false_iff_not];omega
 rw[h1]
 rfl
theorem numF_len:∀f n,(numF f n).length≤f+1
 |0,n=>by rw[numF];exact Nat.le_refl _
 |f+1,n=>by
  rw[numF]
  cases decide (128≤n)with
  |true=>have:=numF_len f (n/128);simp;omega
  |false=>simp
theorem numB_len (n:Nat):(numB n).length≤11:=numF_len 10 n
def zigL (n:Int):Nat:=if 0≤n then(2*n).toNat else(-2*n - 1).toNat
def textB (s:List UInt8):List UInt8:=numB s.length++s
theorem run_append_str {P:Program}{w:World}(t u ty e:TypeId)(ht:P.underlying t=some (.slice e))(hu:P.underlying u=some .string)(hi:(P.info? e).map (fun i=>(i.zero,i.size,i.bytes))=some (some (.int .u8 0),1,1))
  {v:Value}{xs:List UInt8}(h:RowAt w e v xs)(s:ByteArray)(hb:xs.length+s.size≤1099511627776):
  ∃v' w',(Builtin.append_ #[t,u] ty #[v,.string s]).run P w= .ok v' w'∧RowAt w' e v' (xs++s.data.toList)∧Keeps (fun j=>v.ownBlock=some j) w w'∧(∀g,v'.ownBlock=some g→v.ownBlock=some g∨w.heap.size≤g):=by
 obtain⟨i,hi,hz,hs1,hby⟩:=info_parts hi
 have el:∀l:List UInt8,l.flatMap (Cells.enc (α:=UInt8))=l.map byteV:=fun l=>by
  induction l with
  |nil=>rfl
  |cons x r ih=>rw[List.flatMap_cons,ih];rfl
 have es:Lib.strCells s=s.data.toList.map byteV:=rfl
 have hsl:s.data.toList.length=s.size:=by simp
 have grown:∀(old:Nat),old<xs.length+s.size→
   RowAt (w.drew.alloc (.cells ((xs.map byteV).toArray++(Lib.strCells s).toArray++Builtin.zeroCells (Value.int .u8 0).cells (grownCap w (xs.length+s.size) old e - (xs.length+s.size))) e)) e
    (.slice (some ⟨w.heap.size,0,none⟩) (xs.length+s.size) (grownCap w (xs.length+s.size) old e)) (xs++s.data.toList):=by
  intro old ho
  have hge:=grownCap_ge w (xs.length+s.size) old e
  have hcm:grownCap w (xs.length+s.size) old e≤maxLen:=grownCap_le_maxLen w _ old e (by unfold maxLen;omega)
  refine .inr ⟨w.heap.size,0,_,_,by simp[hsl],heap_alloc_new w.drew _,by simpa[hsl]using hge,hcm,?_,?_⟩
  ·have hz1:(Value.int IntKind.u8 0).cells.size=1:=rfl
   simp only[Array.size_append,List.size_toArray,size_zeroCells,hz1,List.length_map,es,hsl,Cells.sz]
   omega
  ·intro j u hu
   rw[el,List.map_append]at hu
   have hlt:=(zge hu).1
   rw[Nat.zero_add,Array.getElem?_append_left (by simpa[es]using hlt)]
   simpa[es]using hu
 rcases h with⟨rfl,rfl⟩|⟨g,off,cap,cur,rfl,hg,hnc,hcm,hcs,hcells⟩
 ·by_cases hm:s.size=0
  ·have hn:s.data.toList=[]:=List.eq_nil_of_length_eq_zero (by rw[hsl];exact hm)
   have hf:=Lib.run_firstCells_string (P:=P) w 1 s
   rw[hm]at hf
   refine⟨.slice none 0 0,w,?_,by rw[hn];exact RowAt.nil w e,Keeps.refl _ _,fun g hg=>.inl hg⟩
   simp[Builtin.append_,run_underlying ht,run_underlying hu,sizeOf,typeInfo,hi,hs1,Builtin.lenOf,hm,hf]
  ·have hr:=run_append_nil_string (P:=P) (w:=w) t u ty e i (.int .u8 0) ht hu hi hz s (by omega) (by simp at hb;omega) (by rw[hby];simp at hb;omega)
   have hgr:=grown 0 (by simp;omega)
   simp only[List.length_nil,List.map_nil,Array.empty_append,Nat.zero_add,List.nil_append]at hgr⊢
   have e1:(s.data.map fun b=>Value.int .u8 b.toNat)=(Lib.strCells s).toArray:=by
    apply Array.ext'
    simp[Lib.strCells]
   rw[e1]at hr
   exact⟨_,_,hr,hgr,(Keeps.refl _ _).drew.alloc _,fun g hg=>.inr (by simp[Value.ownBlock]at hg;omega)⟩
 ·by_cases hroom:xs.length+s.size≤cap
  ·have hcs':off+cap≤cur.size:=by simpa[Cells.sz]using hcs
   have hl:(Lib.strCells s).length=s.size:=Lib.strCells_length s
   have hst:=run_storeCells_cells (P:=P) g (off+xs.length) (Lib.strCells s) 0 w (fun j hj=>by rw[zch hg];simp;omega) (fun j _=>zfr hg _) (Lib.strCells_oneCell s)
   simp only[Nat.add_zero]at hst
   have hf:=Lib.run_firstCells_string (P:=P) w 1 s
   have hr:(Builtin.append_ #[t,u] ty #[.slice (some ⟨g,off,none⟩) xs.length cap,.string s]).run P w= .ok (.slice (some ⟨g,off,none⟩) (xs.length+s.size) cap) (w.setCells g (off+xs.length) (Lib.strCells s)):=by
    simp[Builtin.append_,run_underlying ht,run_underlying hu,sizeOf,typeInfo,hi,hs1,Builtin.lenOf,hroom,hf,Addr.add_lit,hst]
   obtain⟨cur',k1,k2,k3,k4⟩:=setCells_same g e (0,0) (Lib.strCells s) (off+xs.length) w cur hg
   obtain⟨s1,s2,s3,s4⟩:=setCells_size g (Lib.strCells s) (off+xs.length) w
   refine⟨_,_,hr,.inr ⟨g,off,cap,cur',by simp[hsl],k1,by simpa[hsl]using hroom,hcm,by rw[k2];exact hcs,fun j u hu=> ?_⟩,(Keeps.refl (fun j=>(Value.slice (some ⟨g,off,none⟩) xs.length cap).ownBlock=some j) _).setCells (.inl rfl) _ _,fun g' hg'=>.inl hg'⟩
   rw[el,List.map_append]at hu
   by_cases hj:j<xs.length
   ·rw[List.getElem?_append_left (by simpa using hj)]at hu
    rw[k4 _ (by left;omega)]
    exact hcells j u (by rw[el];exact hu)
   ·rw[List.getElem?_append_right (by simpa using hj)]at hu
    simp only[List.length_map]at hu
    have hlt:=(zge hu).1
    simp only[List.length_map,hsl]at hlt
    have:=k3 _ u hu (by omega)
    rw[←this];congr 1;omega
  ·have hold:∀j u,(xs.map byteV)[j]? =some u→w.cell? ((⟨g,off,none⟩:Addr).add j)=some u:=by
    intro j u hu
    rw[Addr.add_lit,zch hg]
    exact hcells j u (by rw[el];exact hu)
   have hr:=Lib.run_append_grow_string (P:=P) w t u ty e i (.int .u8 0) ht hu hi hz ⟨g,off,none⟩ xs.length cap (xs.map byteV) (by rw[hs1];simp) hold s (by omega) (by omega) (by rw[hby];exact growslice_fits (by omega) (by omega))
   have hgr:=grown cap (by omega)
   exact⟨_,_,hr,hgr,(Keeps.refl _ _).drew.alloc _,fun g' hg'=>.inr (by simp[Value.ownBlock]at hg';omega)⟩
end Go.Va
namespace Go.Proofs.YtakljipkaoahnaaGreatDoor
open Go.RowKit Go.Own Go.Own.MapTy Go.Va Go.Sort
open Go.Own.Cells (sz enc)
def WB (W:World)(b:Nat)(l:List UInt8):Prop:=
 ∃a cap,W.heap[b]? =some (.cells #[.slice a l.length cap] 185 (0,0))∧RowAt W 5 (.slice a l.length cap) l∧(Value.slice a l.length cap).ownBlock≠some b
def rowOf (W:World)(b j:Nat):Prop:=∃v,W.heap[b]? =some (.cells #[v] 185 (0,0))∧v.ownBlock=some j
def WK (b:Nat)(W W':World):Prop:=Keeps (fun j=>j=b∨rowOf W b j) W W'∧∀j,rowOf W' b j→rowOf W b j∨W.heap.size≤j
theorem WK.refl (b:Nat)(W:World):WK b W W:=⟨Keeps.refl _ _,fun _ h=>.inl h⟩
theorem WK.trans {b:Nat}{W W' W'':World}(h:WK b W W')(k:WK b W' W''):WK b W W'':=by
 refine⟨h.1.trans k.1 (fun j hj e=> ?_),fun j hj=> ?_⟩
 ·rcases e with e|e
  ·exact .inl e
  ·rcases h.2 j e with h1|h1
   ·exact .inr h1
   ·omega
 ·rcases k.2 j hj with h1|h1
  ·exact h.2 j h1
  ·exact .inr (Nat.le_trans h.1.size h1)
theorem WK.ext {b:Nat}{W W':World}(hb:b<W.heap.size)(K:Below W.heap.size W W'):WK b W W':=
 ⟨(zkb (S:=fun _=>False) K).mono (fun _ _ f=>f.elim),fun j ⟨v,h1,h2⟩=>.inl ⟨v,by rw[←K.block b hb];exact h1,h2⟩⟩
theorem WB.lt {W:World}{b:Nat}{l:List UInt8}(h:WB W b l):b<W.heap.size:=by obtain⟨a,cap,h1,_⟩:=h;exact zlt h1
theorem WB.row {W:World}{b:Nat}{l:List UInt8}(h:WB W b l){j:Nat}(hj:rowOf W b j):j≠b∧j<W.heap.size:=by
 obtain⟨a,cap,h1,h2,h3⟩:=h
 obtain⟨v,h4,h5⟩:=hj
 rw[h1]at h4
 cases h4
 exact⟨fun e=>h3 (e▸h5),h2.lt h5⟩
theorem WB.alloc {W:World}{b:Nat}{l:List UInt8}(h:WB W b l)(o:Obj):WB (W.alloc o) b l∧WK b W (W.alloc o):=by
 refine⟨?_,WK.ext h.lt (zal)⟩
 obtain⟨a,cap,h1,h2,h3⟩:=h
 exact⟨a,cap,(Below.heap_alloc _ _ _ (zlt h1)).trans h1,h2.alloc _,h3⟩
theorem WK.cell {b:Nat}{W W':World}(K:WK b W W'){g o:Nat}(hg:g<W.heap.size)(hn:g≠b)(hr:¬rowOf W b g):W'.cell? ⟨g,o,none⟩=W.cell? ⟨g,o,none⟩:=
 K.1.cell (p:=⟨g,o,none⟩) hg (fun e=>e.elim hn hr)
theorem WB.stored {W w':World}{b:Nat}{l l0:List UInt8}{a a1:Option Addr}{cap q1 n:Nat}(hn:n=l.length)(h1:W.heap[b]? =some (.cells #[.slice a l0.length cap] 185 (0,0)))(h3:(Value.slice a l0.length cap).ownBlock≠some b)
  (hr:RowAt w' 5 (.slice a1 n q1) l)(K:Keeps (fun j=>(Value.slice a l0.length cap).ownBlock=some j) W w')(hf:∀g,(Value.slice a1 n q1).ownBlock=some g→(Value.slice a l0.length cap).ownBlock=some g∨W.heap.size≤g):
  WB (w'.setCell ⟨b,0,none⟩ (.slice a1 n q1)) b l∧WK b W (w'.setCell ⟨b,0,none⟩ (.slice a1 n q1)):=by
 subst hn
 have hb0:=zlt h1
 have hb:w'.heap[b]? =some (.cells #[.slice a l0.length cap] 185 (0,0)):=(K.block b hb0 h3).trans h1
 have hb2:(w'.setCell ⟨b,0,none⟩ (.slice a1 l.length q1)).heap[b]? =some (.cells #[.slice a1 l.length q1] 185 (0,0)):=by simp[World.setCell,Array.getElem?_modify,hb]
 have hne:(Value.slice a1 l.length q1).ownBlock≠some b:=fun e=>by
  rcases hf b e with h|h
  ·exact h3 h
  ·omega
 refine⟨⟨a1,q1,hb2,hr.keep (Keeps.setCell (S:=fun j=>j=b) (p:=⟨b,0,none⟩) (Keeps.refl _ _) (.inl rfl) _) (fun g hg e=>hne (e▸hg)),hne⟩,?_,fun j hj=> ?_⟩
 ·exact(K.mono (fun j _ e=>.inr ⟨_,h1,e⟩)).setCell (p:=⟨b,0,none⟩) (.inl (.inl rfl)) _
 ·obtain⟨v,h4,h5⟩:=hj
  rw[hb2]at h4
  cases h4
  rcases hf j h5 with h|h
  ·exact .inl ⟨_,h1,h⟩
  ·exact .inr h
theorem infoB:(Tryz.prog.info? 5).map (fun i=>(i.zero,i.size,i.bytes))=some (some (.int .u8 0),1,1):=by kernel_rfl
theorem wp_appS {W:World}{ops:Array Oper}{rest:List Oper}{o:Oper}{a:Act}{Q:Exit→Act→World→Prop}(hg:o.guard=none)(s x:Operand)
  (hop:o.op=Op.call {callee:=Callee.builtin Builtin.append,args:=#[s,x],argTypes:=#[140,9]})
  {l:List UInt8}{v:Value}(ho:RowAt W 5 v l)(hs:a.eval s=v)
  (ys:ByteArray)(hx:a.eval x= .string ys)(hl:l.length+ys.size≤1099511627776)
  (hK:∀a1 q1 w',RowAt w' 5 (.slice a1 (l.length+ys.size) q1) (l++ys.data.toList)→Keeps (fun j=>v.ownBlock=some j) W w'→(∀g,(Value.slice a1 (l.length+ys.size) q1).ownBlock=some g→v.ownBlock=some g∨W.heap.size≤g)→wpList Tryz.prog ops Q rest (a.put o.dst (.slice a1 (l.length+ys.size) q1)) w'):wpList Tryz.prog ops Q (o::rest) a W:=
 wpList_plain hg fun _ hk=>by
  obtain⟨v',w',hr,hr1,hk1,hf1⟩:=run_append_str (P:=Tryz.prog) 140 9 o.type 5 Tryz.underlying140 Tryz.underlying9 infoB ho ys hl
  obtain⟨a1,q1,rfl⟩:=hr1.slice
  have e2:(l++ys.data.toList).length=l.length+ys.size:=by simp
  rw[e2]at hr hr1 hf1
  unfold Oper.wp execOp
  simp only[hop,resolve,invoke,builtin,Sem.run_bind,Sem.run_pure,Result.andThen_ok,List.map_toArray,List.map_cons,List.map_nil,hs,hx,hr]
  exact hk _ _ (hK a1 q1 w' hr1 hk1 hf1)
theorem wp_appL {W:World}{ops:Array Oper}{rest:List Oper}{o:Oper}{a:Act}{Q:Exit→Act→World→Prop}(hg:o.guard=none)(s x:Operand)
  (hop:o.op=Op.call {callee:=Callee.builtin Builtin.append,args:=#[s,x],argTypes:=#[140,140]})
  {l:List UInt8}{v:Value}(ho:RowAt W 5 v l)(hs:a.eval s=v)
  (ad:Addr)(c:Nat)(ys:List UInt8)(hx:a.eval x= .slice (some ad) ys.length c)(hc:∀j u,(ys.flatMap Cells.enc)[j]? =some u→W.cell? (ad.add j)=some u)(hl:l.length+ys.length≤1099511627776)
  (hK:∀a1 q1 w',RowAt w' 5 (.slice a1 (l.length+ys.length) q1) (l++ys)→Keeps (fun j=>v.ownBlock=some j) W w'→(∀g,(Value.slice a1 (l.length+ys.length) q1).ownBlock=some g→v.ownBlock=some g∨W.heap.size≤g)→wpList Tryz.prog ops Q rest (a.put o.dst (.slice a1 (l.length+ys.length) q1)) w'):wpList Tryz.prog ops Q (o::rest) a W:=by
 obtain⟨i,hi,h1,h2,h3⟩:=info_parts infoB
 refine wpList_append hg s x 140 hop 5 i (.int .u8 0) 1 Tryz.underlying140 hi h1 (by rw[h2];rfl) h3 rfl v l hs ho ad ys.length c ys hx rfl hc (by omega) (by unfold maxLen;omega) ?_
 intro v1 w1 hr hg1 hf1
 obtain⟨a1,q1,rfl⟩:=hr.slice
 rw[List.length_append]at*
 exact hK a1 q1 w1 hr (Keeps.of_grown hg1 (fun k h=>h)) (fun g h=>(hf1 g h).imp id (fun h=>h.1))
def WPB (w:World)(b:Nat)(l:List UInt8)(e:Ending)(w':World):Prop:=e= .returned (.tuple #[])∧Hid (WB w' b l∧WK b w w')
theorem news_bytes {w:World}{nb:Nat}{ys:List UInt8}(hc:∀j u,(ys.map byteV)[j]? =some u→w.cell? ⟨nb,j,none⟩=some u):∀j u,(ys.flatMap Cells.enc)[j]? =some u→w.cell? ((⟨nb,0,none⟩:Addr).add j)=some u:=by
 have el:∀l:List UInt8,l.flatMap (Cells.enc (α:=UInt8))=l.map byteV:=fun l=>by
  induction l with
  |nil=>rfl
  |cons x r ih=>rw[List.flatMap_cons,ih];rfl
 intro j u hu
 rw[Addr.add_lit,Nat.zero_add]
 exact hc j u (by rw[←el];exact hu)
set_option maxHeartbeats 4000000 in
theorem byte_any (b:Nat)(l ys:List UInt8)(nb c:Nat)(w:World)(H:WB w b l)(hc:∀j u,(ys.map byteV)[j]? =some u→w.cell? ⟨nb,j,none⟩=some u)(hl:l.length+ys.length≤1099511627776):
  Calls Tryz.prog 143 #[.pointer (some ⟨b,0,none⟩),.slice (some ⟨nb,0,none⟩) ys.length c] w (WPB w b (l++ys)):=by
 obtain⟨a,cap,hb,ho,hne⟩:=H
 have b0:=zlt hb
 have c0:=zca hb 0 rfl
 have f0:∀o,w.frozen? ⟨b,o,none⟩=false:=fun o=>zfr hb o
 have HX:=zh4 hb ho hne (news_bytes hc)
 clear hb ho hc hne
 go_enter Tryz.func143,Tryz.ntmps143
 go_wp2_with (at_builtin;go_must (refine wp_appL rfl (.tmp 8) (.tmp 9) rfl HX.out.2.1 rfl ⟨nb,0,none⟩ c ys rfl HX.out.2.2.2 hl ?_);intro a1 q1 w' hr' hk' hf';have hb':w'.heap[b]? =some (.cells #[.slice a l.length cap] 185 (0,0)):=(hk'.block b b0 HX.out.2.2.1).trans HX.out.1;have c0:w'.cell? ⟨b,0,none⟩=some (.slice a l.length cap):=by{rw[zch hb'];rfl};have f0:∀o,w'.frozen? ⟨b,o,none⟩=false:=fun o=>zfr hb' o)
 go_end0
 exact⟨rfl,zhd (WB.stored (by simp) HX.out.1 HX.out.2.2.1 hr' hk' hf')⟩
theorem len_any (b:Nat)(l:List UInt8)(w:World)(H:WB w b l):Calls Tryz.prog 109 #[.pointer (some ⟨b,0,none⟩)] w fun e w'=>e= .returned (.int .i64 l.length)∧w'=w:=by
 obtain⟨a,cap,hb,ho,hne⟩:=H
 have c0:=zca hb 0 rfl
 clear hb ho hne
 go_enter Tryz.func109,Tryz.ntmps109
 go_wp2_with fail
 go_ret
 exact⟨rfl,rfl⟩
theorem or128 (m:Nat):bits BinOp.or IntKind.u8 ((m:Int)%256) 128=(((UInt8.ofNat (m%128+128)).toNat:Nat):Int):=by
 have h:∀k:Fin 256,bits BinOp.or IntKind.u8 (k.val:Int) 128=((k.val%128+128:Nat):Int):=by decide+kernel
 have h1:=h ⟨m%256,by omega⟩
 rw[show((m:Int)%256)=((m%256:Nat):Int)from by omega,h1]
 rw[UInt8.toNat_ofNat_of_lt' (by show m%128+128<256;omega)]
 show((m%256%128+128:Nat):Int)=_
 omega
theorem mod256 {m:Nat}(h:m<128):((m:Int)%256)=(((UInt8.ofNat m).toNat:Nat):Int):=by
 rw[UInt8.toNat_ofNat_of_lt' (by show m<256;omega)]
 omega
theorem new_byteV (wr:World)(x:Int)(y:UInt8)(t:TypeId)(h:x=(y.toNat:Int)):∀j u,([y].flatMap Cells.enc)[j]? =some u→(wr.alloc (.cells #[.int .u8 x] t)).cell? ((⟨wr.heap.size,0,none⟩:Addr).add j)=some u:=by
 intro j u hu
 rw[Addr.add_lit,zch (heap_alloc_new wr _),Nat.zero_add]
 cases j with
 |zero=>rw[h];simpa[Cells.enc]using hu
 |succ j=>simp at hu;exact absurd hu (by simp[Cells.enc])
def N1 (w:World)(b:Nat)(l:List UInt8)(n nb:Nat)(gk:Nat)(v8:Value)(wr:World):Prop:=
 (v8= .int .i64 0∧gk=1∧WB wr b l∧wr.cell? ⟨nb,0,none⟩=some (.int .u64 n)∧WK b w wr)∨(v8= .int .i64 1∧gk=0∧WB wr b (l++numB n)∧WK b w wr)
def N2 (w:World)(b:Nat)(l:List UInt8)(n:Nat)(gk:Nat)(v5:Value)(wr:World):Prop:=
 ∃(m:Nat) (l1:List UInt8),v5= .int .u64 m∧gk=m∧m<18446744073709551616∧WB wr b l1∧l1++numB m=l++numB n∧WK b w wr
set_option maxHeartbeats 4000000 in
theorem num_any (b:Nat)(l:List UInt8)(n nb c:Nat)(w:World)(H:WB w b l)(hc:w.cell? ⟨nb,0,none⟩=some (.int .u64 n))(hn:n<18446744073709551616)(hl:l.length+12≤1099511627776):
  Calls Tryz.prog 146 #[.pointer (some ⟨b,0,none⟩),.slice (some ⟨nb,0,none⟩) 1 c] w (WPB w b (l++numB n)):=by
 have HH:=zh3 H hc hn
 clear H hc hn
 go_enter Tryz.func146,Tryz.ntmps146
 go_wp2_with fail
 go_loopg [8] (1) (fun gk v8 wr=>N1 w b l n nb gk v8 wr)
 case atStart=>exact .inl ⟨rfl,rfl,HH.out.1,HH.out.2.1,WK.refl _ _⟩
 case round=>
  rcases hrel with⟨rfl,hgk,hW,hc,hB⟩|⟨rfl,hgk,hW,hB⟩
  ·have HW:=zh3 hW hB hgk
   obtain⟨wo,rfl⟩:∃wo:World,wo=wr:=⟨_,rfl⟩
   clear hW hB hgk
   go_wp2_with fail
   go_loopg [5] (n) (fun gk v5 wr=>N2 w b l n gk v5 wr)
   case atStart=>exact⟨n,l,rfl,rfl,HH.out.2.2,HW.out.1,rfl,HW.out.2.1⟩
   case round=>
    clear hc
    obtain⟨m,l1,rfl,hgk,hm,⟨a,cap,hb,ho,hne⟩,he,hB⟩:=hrel
    have b0:=zlt hb
    have c0:=zca hb 0 rfl
    have f0:∀o,wr.frozen? ⟨b,o,none⟩=false:=fun o=>zfr hb o
    have HX:=zh6 hb ho hne hB hm hgk
    by_cases h128:128≤m
    ·have e1:(128:Int)≤m:=by omega
     rw[numB_big h128 hm]at he
     have HE:=zhd he
     clear hb ho hne hB he hgk hm
     have HL:=zhd (show l1.length+[UInt8.ofNat (m%128+128)].length≤1099511627776 from by
      have h:=congrArg List.length HE.out
      have:=numB_len n
      simp at h⊢
      omega)
     go_wp2_with (at_builtin;go_must (refine wp_appL rfl (.tmp 18) (.tmp 22) rfl (HX.out.2.1.alloc _) rfl ⟨wr.heap.size,0,none⟩ 1 [UInt8.ofNat (m%128+128)] rfl (new_byteV _ _ _ _ (or128 m)) HL.out ?_);intro a1 q1 w' hr' hk' hf';have hb':w'.heap[b]? =some (.cells #[.slice a l1.length cap] 185 (0,0)):=(hk'.block b (by simp;omega) HX.out.2.2.1).trans ((Below.heap_alloc _ _ _ b0).trans HX.out.1);have c0:w'.cell? ⟨b,0,none⟩=some (.slice a l1.length cap):=by{rw[zch hb'];rfl};have f0:∀o,w'.frozen? ⟨b,o,none⟩=false:=fun o=>zfr hb' o)
     have S:=WB.stored (by simp) ((Below.heap_alloc _ _ _ b0).trans HX.out.1) HX.out.2.2.1 hr' hk' hf'
     have SB:=HX.out.2.2.2.1.trans ((WK.ext b0 ((Below.refl _ _).alloc (Nat.le_refl _) (.cells #[.int .u8 (bits BinOp.or IntKind.u8 ((m:Int)%256) 128)] 5))).trans S.2)
     go_roundg (m/128)
     case measure=>have:=HX.out.2.2.2.2.2;omega
     case rel=>exact⟨m/128,l1++[UInt8.ofNat (m%128+128)],by simp,rfl,(by have:=HX.out.2.2.2.2.1;omega),S.1,(by rw[List.append_assoc];exact HE.out),SB⟩
    ·have e1:¬(128:Int)≤m:=by omega
     rw[numB_small (by omega)]at he
     have HE:=zhd he
     clear hb ho hne hB he hgk hm
     have HL:=zhd (show l1.length+[UInt8.ofNat m].length≤1099511627776 from by
      have h:=congrArg List.length HE.out
      have:=numB_len n
      simp at h⊢
      omega)
     have HM:=zhd (show(m:Int)=(((UInt8.ofNat m).toNat:Nat):Int)from by have:=mod256 (m:=m) (by omega);omega)
     go_wp2_with (at_builtin;go_must (refine wp_appL rfl (.tmp 32) (.tmp 35) rfl (HX.out.2.1.alloc _) rfl ⟨wr.heap.size,0,none⟩ 1 [UInt8.ofNat m] rfl (new_byteV _ _ _ _ HM.out) HL.out ?_);intro a1 q1 w' hr' hk' hf';have hb':w'.heap[b]? =some (.cells #[.slice a l1.length cap] 185 (0,0)):=(hk'.block b (by simp;omega) HX.out.2.2.1).trans ((Below.heap_alloc _ _ _ b0).trans HX.out.1);have c0:w'.cell? ⟨b,0,none⟩=some (.slice a l1.length cap):=by{rw[zch hb'];rfl};have f0:∀o,w'.frozen? ⟨b,o,none⟩=false:=fun o=>zfr hb' o)
     have S:=WB.stored (by simp) ((Below.heap_alloc _ _ _ b0).trans HX.out.1) HX.out.2.2.1 hr' hk' hf'
     have SB:=HX.out.2.2.2.1.trans ((WK.ext b0 ((Below.refl _ _).alloc (Nat.le_refl _) (.cells #[.int .u8 (m:Int)] 5))).trans S.2)
     rw[HE.out]at S
     go_roundg (0)
     case measure=>have:=HW.out.2.2;omega
     case rel=>exact .inr ⟨rfl,rfl,S.1,SB⟩
  ·have HW:=zh2 hW hB
   clear hW hB
   go_wp2_with fail
   go_end0
   exact⟨rfl,HW⟩
theorem wrapU64 (x:Int):IntKind.u64.wrap x=x%18446744073709551616:=by
 simp[IntKind.wrap,IntKind.bits,IntKind.signed]
theorem xor_ones (a:Nat)(h:a<18446744073709551616):a^^^18446744073709551615=18446744073709551615 - a:=by
 have h1:(BitVec.ofNat 64 a).toNat=a:=by simp;omega
 have h2:=BitVec.toNat_not (x:=BitVec.ofNat 64 a)
 rw[BitVec.not_def,BitVec.toNat_xor,h1,BitVec.toNat_allOnes,Nat.xor_comm]at h2
 exact h2
theorem zig_any (n:Int)(h0: -9223372036854775808≤n)(h1:n≤9223372036854775807)(w:World):Calls Tryz.prog 169 #[.int .i64 n] w fun e w'=>e= .returned (.int .u64 (zigL n))∧w'=w:=by
 by_cases hn:0≤n
 ·have hx:bits BinOp.xor IntKind.u64 (n*2) (n/9223372036854775808)=zigL n:=by
   obtain⟨m,rfl⟩:=Int.eq_ofNat_of_zero_le hn
   have e1:((m:Int)/9223372036854775808)=((0:Nat):Int):=by omega
   have e2:((m:Int)*2)=((m*2:Nat):Int):=by omega
   rw[e1,e2,bits_xor_u64_nat _ _ (by omega) (by omega),Nat.xor_zero]
   unfold zigL
   rw[if_pos hn]
   omega
  have HX:=zhd hx
  clear hx
  go_enter Tryz.func169,Tryz.ntmps169
  go_wp2_with fail
  go_ret
  exact⟨by rw[HX.out];rfl,rfl⟩
 ·have hx:bits BinOp.xor IntKind.u64 (IntKind.u64.wrap (IntKind.u64.wrap n*2)) (IntKind.u64.wrap (n/9223372036854775808))=zigL n:=by
   have e1:IntKind.u64.wrap (IntKind.u64.wrap n*2)=((2*n+18446744073709551616).toNat:Int):=by
    rw[wrapU64,wrapU64]
    omega
   have e2:IntKind.u64.wrap (n/9223372036854775808)=((18446744073709551615:Nat):Int):=by
    rw[wrapU64]
    omega
   rw[e1,e2,bits_xor_u64_nat _ _ (by omega) (by omega),xor_ones _ (by omega)]
   unfold zigL
   rw[if_neg hn]
   omega
  have HX:=zhd hx
  clear hx
  go_enter Tryz.func169,Tryz.ntmps169
  go_wp2_with fail
  go_ret
  exact⟨by rw[HX.out];rfl,rfl⟩
set_option maxHeartbeats 4000000 in
theorem wtext_any (b:Nat)(l:List UInt8)(s:ByteArray)(w:World)(H:WB w b l)(hl:l.length+s.size+12≤1099511627776):
  Calls Tryz.prog 145 #[.pointer (some ⟨b,0,none⟩),.string s] w (WPB w b (l++textB s.data.toList)):=by
 have b0:=H.lt
 have HH:=zhd H
 clear H
 have NU:=zhd (num_any b l s.size w.heap.size 1 (w.alloc (.cells #[.int .u64 s.size] 201)) (HH.out.alloc _).1 (by rw[zch (heap_alloc_new _ _)];rfl) (by omega) (by omega))
 go_enter Tryz.func145,Tryz.ntmps145
 go_wp2_with fail
 refine NU.out.mono ?_
 rintro e w1 ⟨rfl,H1⟩
 obtain⟨a,cap,hb,ho,hne⟩:=H1.out.1
 have b1:=zlt hb
 have c0:=zca hb 0 rfl
 have f0:∀o,w1.frozen? ⟨b,o,none⟩=false:=fun o=>zfr hb o
 have HL:=zhd (show(l++numB s.size).length+s.size≤1099511627776 from by have:=numB_len s.size;simp;omega)
 have HX:=zh4 hb ho hne H1.out.2
 clear hb ho NU hne
 generalize hl1:l++numB s.size=l1 at*
 have HN:=zhd hl1
 clear hl1
 go_wp2_with (at_builtin;go_must (refine wp_appS rfl (.tmp 14) (.tmp 15) rfl HX.out.2.1 rfl s rfl HL.out ?_);intro a1 q1 w' hr' hk' hf';have hb':w'.heap[b]? =some (.cells #[.slice a l1.length cap] 185 (0,0)):=(hk'.block b b1 HX.out.2.2.1).trans HX.out.1;have c0:w'.cell? ⟨b,0,none⟩=some (.slice a l1.length cap):=by{rw[zch hb'];rfl};have f0:∀o,w'.frozen? ⟨b,o,none⟩=false:=fun o=>zfr hb' o)
 have S:=WB.stored (by simp) HX.out.1 HX.out.2.2.1 hr' hk' hf'
 go_end0
 have e1:l++textB s.data.toList=l1++s.data.toList:=by
  unfold textB
  rw[←HN.out,List.append_assoc]
  simp
 exact⟨rfl,zhd ⟨by rw[e1];exact S.1,((HH.out.alloc _).2.trans HX.out.2.2.2).trans S.2⟩⟩
def I1 (w:World)(b:Nat)(l:List UInt8)(n:Int)(nb:Nat)(gk:Nat)(v8:Value)(wr:World):Prop:=
 (v8= .int .i64 0∧gk=1∧WB wr b l∧wr.cell? ⟨nb,0,none⟩=some (.int .i64 n)∧WK b w wr)∨(v8= .int .i64 1∧gk=0∧WB wr b (l++numB (zigL n))∧WK b w wr)
theorem zigL_lt {n:Int}(h0: -9223372036854775808≤n)(h1:n≤9223372036854775807):zigL n<18446744073709551616:=by
 unfold zigL
 split<;>omega
set_option maxHeartbeats 4000000 in
theorem int_any (b:Nat)(l:List UInt8)(n:Int)(nb c:Nat)(w:World)(H:WB w b l)(hc:w.cell? ⟨nb,0,none⟩=some (.int .i64 n))(h0: -9223372036854775808≤n)(h1:n≤9223372036854775807)(hl:l.length+12≤1099511627776):
  Calls Tryz.prog 144 #[.pointer (some ⟨b,0,none⟩),.slice (some ⟨nb,0,none⟩) 1 c] w (WPB w b (l++numB (zigL n))):=by
 have HH:=zh4 H hc h0 h1
 clear H hc h0 h1
 go_enter Tryz.func144,Tryz.ntmps144
 go_wp2_with fail
 go_loopg [8] (1) (fun gk v8 wr=>I1 w b l n nb gk v8 wr)
 case atStart=>exact .inl ⟨rfl,rfl,HH.out.1,HH.out.2.1,WK.refl _ _⟩
 case round=>
  rcases hrel with⟨rfl,hgk,hW,hc,hB⟩|⟨rfl,hgk,hW,hB⟩
  ·have b1:=hW.lt
   have HW:=zh3 hW hB hgk
   have NU:=zhd (num_any b l (zigL n) wr.heap.size 1 (wr.alloc (.cells #[.int .u64 (zigL n)] 201)) (HW.out.1.alloc _).1 (by rw[zch (heap_alloc_new _ _)];rfl) (zigL_lt HH.out.2.2.1 HH.out.2.2.2) hl)
   have ZI:=zhd (zig_any n HH.out.2.2.1 HH.out.2.2.2 wr)
   clear hW hB hgk
   go_wp2_with fail
   refine ZI.out.mono ?_
   rintro e w2 ⟨rfl,rfl⟩
   go_wp2_with fail
   refine NU.out.mono ?_
   rintro e w3 ⟨rfl,H3⟩
   clear hc
   go_wp2_with fail
   go_roundg (0)
   case measure=>have:=HW.out.2.2;omega
   case rel=>exact .inr ⟨rfl,rfl,H3.out.1,(HW.out.2.1.trans (HW.out.1.alloc _).2).trans H3.out.2⟩
  ·have HW:=zh2 hW hB
   clear hW hB
   go_wp2_with fail
   go_end0
   exact⟨rfl,HW⟩
end Go.Proofs.YtakljipkaoahnaaGreatDoor
