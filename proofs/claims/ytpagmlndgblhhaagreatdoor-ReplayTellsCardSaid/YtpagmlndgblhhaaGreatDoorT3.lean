/- Parts of the proof: what the functions and the plain laws give that later parts lean on. Conditions: none beyond those that each theorem names. -/
import Derived.Laws.OwnMore
import Derived.Lib.AppendStr
import Derived.Laws.Bits64
import Derived.Test.YtpagmlndgblhhaaGreatDoorT2
set_option maxRecDepth 100000
set_option maxHeartbeats 8000000
namespace Go.Va
open Go.Own Go.RowKit
def ydH (c:UInt8):Value:=.int .u8 c.toNat
def yic:Nat->Nat->List UInt8
 |0,n=>[UInt8.ofNat n]
 |f+1,n=>bif decide (128<=n)then UInt8.ofNat (n%128+128)::yic f (n/128)else[UInt8.ofNat n]
def ych (n:Nat):List UInt8:=yic 10 n
theorem yek:∀(f n:Nat),n<128^ (f+1)->yic f n=yic (f+1) n
 |0,n,h=>by
  rw[yic,yic];have:decide (128<=n)=false:=by rw[znz];omega
  rw[this];rfl
 |f+1,n,h=>by
  rw[yic]
  conv=>rhs;rw[yic]
  cases hn:decide (128<=n)with
  |false=>rfl
  |true=>
   have A:n/128<128^ (f+1):=by
    rw[Nat.pow_succ]at h;exact Nat.div_lt_of_lt_mul (by rw[Nat.mul_comm];exact h)
   rw[yek f _ A]
theorem yid {n:Nat}(h:128<=n)(hn:n<18446744073709551616):ych n=UInt8.ofNat (n%128+128)::ych (n/128):=by
 unfold ych;rw[yic];have A:decide (128<=n)=true:=by rw[decide_eq_true_eq];exact h
 rw[A,yek 9 (n/128) (by omega)];rfl
theorem ye9 {n:Nat}(h:n<128):ych n=[UInt8.ofNat n]:=by
 unfold ych;rw[yic];have A:decide (128<=n)=false:=by rw[znz];omega
 rw[A];rfl
theorem yib:∀f n,(yic f n).length<=f+1
 |0,n=>by rw[yic];exact znc _
 |f+1,n=>by
  rw[yic];cases decide (128<=n)with
  |true=>have:=yib f (n/128);simp;omega
  |false=>simp
theorem ybA (n:Nat):(ych n).length<=11:=yib 10 n
def zigL (n:Int):Nat:=if 0<=n then(2*n).toNat else(-2*n - 1).toNat
def textB (s:List UInt8):List UInt8:=ych s.length++s
theorem yeP {P:Program}{w:World}(t u ty e:TypeId)(ht:P.underlying t=some (.slice e))(hu:P.underlying u=some .string)(hi:(P.info? e).map (fun i=>(i.zero,i.size,i.bytes))=some (some (.int .u8 0),1,1))
  {v:Value}{xs:List UInt8}(h:RowAt w e v xs)(s:ByteArray)(hb:xs.length+s.size<=1099511627776):
  ∃v' w',(Builtin.append_ #[t,u] ty #[v,.string s]).run P w= .ok v' w'/\RowAt w' e v' (xs++s.data.toList)/\Keeps (fun j=>v.ownBlock=some j) w w'/\(∀g,v'.ownBlock=some g->v.ownBlock=some g\/w.heap.size<=g):=by
 obtain⟨i,hi,Y,I,Q⟩:=info_parts hi;have U:∀l:List UInt8,l.flatMap (Cells.enc (α:=UInt8))=l.map ydH:=fun l=>by
  induction l with
  |nil=>rfl
  |cons x r ih=>rw[List.flatMap_cons,ih];rfl
 have X:Lib.strCells s=s.data.toList.map ydH:=rfl;have D:s.data.toList.length=s.size:=by simp
 have F:∀(C:Nat),C<xs.length+s.size->
   RowAt (w.drew.alloc (.cells ((xs.map ydH).toArray++(Lib.strCells s).toArray++Builtin.zeroCells (Value.int .u8 0).cells (grownCap w (xs.length+s.size) C e - (xs.length+s.size))) e)) e
    (.slice (some ⟨w,0,none⟩) (xs.length+s.size) (grownCap w (xs.length+s.size) C e)) (xs++s.data.toList):=by
  intro C z;have W:=grownCap_ge w (xs.length+s.size) C e;have K:grownCap w (xs.length+s.size) C e<=maxLen:=grownCap_le_maxLen w _ C e (by unfold maxLen;omega);refine .inr ⟨w.heap.size,0,_,_,by simp[D],znb w.drew _,by simpa[D]using W,K,?_,?_⟩
  .have V:(Value.int IntKind.u8 0).cells.size=1:=rfl
   simp only[Array.size_append,List.size_toArray,size_zeroCells,V,zmd,X,D,Cells.sz];omega
  .intro j u hu
   rw[U,List.map_append]at hu;have J:=(zge hu).1;rw[Nat.zero_add,Array.getElem?_append_left (by simpa[X]using J)];simpa[X]using hu
 rcases h with⟨rfl,rfl⟩|⟨g,A,B,S,rfl,H,k,K,O,E⟩
 .by_cases hm:s.size=0
  .have m:s.data.toList=[]:=List.eq_nil_of_length_eq_zero (by rw[D];exact hm)
   have T:=Lib.run_firstCells_string (P:=P) w 1 s;rw[hm]at T;refine⟨.slice none 0 0,w,?_,by rw[m];exact RowAt.nil w e,Keeps.refl _ _,fun g H=>.inl H⟩;simp[Builtin.append_,run_underlying ht,run_underlying hu,sizeOf,typeInfo,hi,I,Builtin.lenOf,hm,T]
  .have L:=run_append_nil_string (P:=P) (w:=w) t u ty e i (.int .u8 0) ht hu hi Y s (by omega) (by simp at hb;omega) (by rw[Q];simp at hb;omega)
   have G:=F 0 (by simp;omega);simp only[List.length_nil,List.map_nil,Array.empty_append,Nat.zero_add,List.nil_append]at G|-;have n:(s.data.map fun b=>Value.int .u8 b.toNat)=(Lib.strCells s).toArray:=by
    apply Array.ext';simp[Lib.strCells]
   rw[n]at L;exact⟨_,_,L,G,(Keeps.refl _ _).drew.alloc _,fun g H=>.inr (by simp[Value.ownBlock]at H;omega)⟩
 .by_cases hroom:xs.length+s.size<=B
  .have Z:A+B<=S.size:=by simpa[Cells.sz]using O
   have hl:(Lib.strCells s).length=s.size:=Lib.strCells_length s;have M:=run_storeCells_cells (P:=P) g (A+xs.length) (Lib.strCells s) 0 w (fun j hj=>by rw[zch H];simp;omega) (fun j _=>zfr H _) (Lib.strCells_oneCell s);simp only[Nat.add_zero]at M;have T:=Lib.run_firstCells_string (P:=P) w 1 s;have L:(Builtin.append_ #[t,u] ty #[.slice (some ⟨g,A,none⟩) xs.length B,.string s]).run P w= .ok (.slice (some ⟨g,A,none⟩) (xs.length+s.size) B) (w.setCells g (A+xs.length) (Lib.strCells s)):=by
    simp[Builtin.append_,run_underlying ht,run_underlying hu,sizeOf,typeInfo,hi,I,Builtin.lenOf,hroom,T,Addr.add_lit,M]
   obtain⟨R,f,d,c,a⟩:=ybz g e (0,0) (Lib.strCells s) (A+xs.length) w S H;obtain⟨y,q,p,o⟩:=yby g (Lib.strCells s) (A+xs.length) w;refine⟨_,_,L,.inr ⟨g,A,B,R,by simp[D],f,by simpa[D]using hroom,K,by rw[d];exact O,fun j u hu=> ?_⟩,(Keeps.refl (fun j=>(Value.slice (some ⟨g,A,none⟩) xs.length B).ownBlock=some j) _).setCells (.inl rfl) _ _,fun g' hg'=>.inl hg'⟩;rw[U,List.map_append]at hu;by_cases hj:j<xs.length
   .rw[List.getElem?_append_left (by simpa using hj)]at hu
    rw[a _ (by left;omega)];exact E j u (by rw[U];exact hu)
   .rw[List.getElem?_append_right (by simpa using hj)]at hu
    simp only[zmd]at hu;have J:=(zge hu).1;simp only[zmd,D]at J;have:=c _ u hu (by omega);rw[<-this];congr 1;omega
  .have N:∀j u,(xs.map ydH)[j]? =some u->w.cell? ((⟨g,A,none⟩:Addr).add j)=some u:=by
    intro j u hu;rw[Addr.add_lit,zch H];exact E j u (by rw[U];exact hu)
   have L:=Lib.run_append_grow_string (P:=P) w t u ty e i (.int .u8 0) ht hu hi Y ⟨g,A,none⟩ xs.length B (xs.map ydH) (by rw[I];simp) N s (by omega) (by omega) (by rw[Q];exact growslice_fits (by omega) (by omega));have G:=F B (by omega);exact⟨_,_,L,G,(Keeps.refl _ _).drew.alloc _,fun g' hg'=>.inr (by simp[Value.ownBlock]at hg';omega)⟩
end Go.Va
namespace Go.Proofs.YtpagmlndgblhhaaGreatDoor
open Go.RowKit Go.Own Go.Own.MapTy Go.Va Go.Sort
open Go.Own.Cells (sz enc)
def WB (W:World)(b:Nat)(l:List UInt8):Prop:=
 ∃a cap,W.heap[b]? =some (.cells #[.slice a l.length cap] 131 (0,0))/\RowAt W 5 (.slice a l.length cap) l/\(Value.slice a l.length cap).ownBlock≠some b
def ycf (W:World)(b j:Nat):Prop:=∃v,W.heap[b]? =some (.cells #[v] 131 (0,0))/\v.ownBlock=some j
def WK (b:Nat)(W W':World):Prop:=Keeps (fun j=>j=b\/ycf W b j) W W'/\∀j,ycf W' b j->ycf W b j\/W.heap.size<=j
theorem WK.refl (b:Nat)(W:World):WK b W W:=⟨Keeps.refl _ _,fun _ h=>.inl h⟩
theorem WK.trans {b:Nat}{W W' W'':World}(h:WK b W W')(k:WK b W' W''):WK b W W'':=by
 refine⟨h.1.trans k.1 (fun j hj e=> ?_),fun j hj=> ?_⟩
 .rcases e with e|e
  .exact .inl e
  .rcases h.2 j e with A|A
   .exact .inr A
   .omega
 .rcases k.2 j hj with A|A
  .exact h.2 j A
  .exact .inr (znf h.1.size A)
theorem WK.ext {b:Nat}{W W':World}(hb:b<W)(K:Below W W W'):WK b W W':=
 ⟨(zkb (S:=fun _=>False) K).mono (fun _ _ f=>f.elim),fun j ⟨v,h1,h2⟩=>.inl ⟨v,by rw[<-K.block b hb];exact h1,h2⟩⟩
theorem WB.lt {W:World}{b:Nat}{l:List UInt8}(h:WB W b l):b<W:=by obtain⟨a,B,A,_⟩:=h;exact zlt A
theorem WB.row {W:World}{b:Nat}{l:List UInt8}(h:WB W b l){j:Nat}(hj:ycf W b j):j≠b/\j<W:=by
 obtain⟨a,F,E,D,C⟩:=h;obtain⟨v,B,A⟩:=hj;rw[E]at B;cases B;exact⟨fun e=>C (e▸A),D.lt A⟩
theorem WB.alloc {W:World}{b:Nat}{l:List UInt8}(h:WB W b l)(o:Obj):WB (W.alloc o) b l/\WK b W (W.alloc o):=by
 refine⟨?_,WK.ext h.lt (zal)⟩;obtain⟨a,A,B,D,C⟩:=h;exact⟨a,A,(zne _ _ _ (zlt B)).trans B,D.alloc _,C⟩
theorem WK.cell {b:Nat}{W W':World}(K:WK b W W'){g o:Nat}(hg:g<W)(hn:g≠b)(hr:¬ycf W b g):W'.cell? ⟨g,o,none⟩=W.cell? ⟨g,o,none⟩:=
 K.1.cell (p:=⟨g,o,none⟩) hg (fun e=>e.elim hn hr)
theorem WB.stored {W w':World}{b:Nat}{l l0:List UInt8}{a a1:Option Addr}{cap q1 n:Nat}(hn:n=l.length)(h1:W.heap[b]? =some (.cells #[.slice a l0.length cap] 131 (0,0)))(h3:(Value.slice a l0.length cap).ownBlock≠some b)
  (hr:RowAt w' 5 (.slice a1 n q1) l)(K:Keeps (fun j=>(Value.slice a l0.length cap).ownBlock=some j) W w')(hf:∀g,(Value.slice a1 n q1).ownBlock=some g->(Value.slice a l0.length cap).ownBlock=some g\/W.heap.size<=g):
  WB (w'.setCell ⟨b,0,none⟩ (.slice a1 n q1)) b l/\WK b W (w'.setCell ⟨b,0,none⟩ (.slice a1 n q1)):=by
 subst hn;have C:=zlt h1;have E:w'.heap[b]? =some (.cells #[.slice a l0.length cap] 131 (0,0)):=(K.block b C h3).trans h1;have B:(w'.setCell ⟨b,0,none⟩ (.slice a1 l.length q1)).heap[b]? =some (.cells #[.slice a1 l.length q1] 131 (0,0)):=by simp[World.setCell,zni,E]
 have A:(Value.slice a1 l.length q1).ownBlock≠some b:=fun e=>by
  rcases hf b e with h|h
  .exact h3 h
  .omega
 refine⟨⟨a1,q1,B,hr.keep (Keeps.setCell (S:=fun j=>j=b) (p:=⟨b,0,none⟩) (Keeps.refl _ _) (.inl rfl) _) (fun g hg e=>A (e▸hg)),A⟩,?_,fun j hj=> ?_⟩
 .exact(K.mono (fun j _ e=>.inr ⟨_,h1,e⟩)).setCell (p:=⟨b,0,none⟩) (.inl (.inl rfl)) _
 .obtain⟨v,D,F⟩:=hj
  rw[B]at D;cases D;rcases hf j F with h|h
  .exact .inl ⟨_,h1,h⟩
  .exact .inr h
theorem yof:(Tryz.prog.info? 5).map (fun i=>(i.zero,i.size,i.bytes))=some (some (.int .u8 0),1,1):=by kernel_rfl
theorem ymN {W:World}{ops:Array Oper}{rest:List Oper}{o:Oper}{a:Act}{Q:Exit->Act->World->Prop}(hg:o.guard=none)(s x:Operand)
  (hop:o.op=Op.call {callee:=Callee.builtin Builtin.append,args:=#[s,x],argTypes:=#[55,9]})
  {l:List UInt8}{v:Value}(ho:RowAt W 5 v l)(hs:a.eval s=v)
  (ys:ByteArray)(hx:a.eval x= .string ys)(hl:l.length+ys.size<=1099511627776)
  (hK:∀a1 q1 w',RowAt w' 5 (.slice a1 (l.length+ys.size) q1) (l++ys.data.toList)->Keeps (fun j=>v.ownBlock=some j) W w'->(∀g,(Value.slice a1 (l.length+ys.size) q1).ownBlock=some g->v.ownBlock=some g\/W.heap.size<=g)->wpList Tryz.prog ops Q rest (a.put o.dst (.slice a1 (l.length+ys.size) q1)) w'):wpList Tryz.prog ops Q (o::rest) a W:=
 wpList_plain hg fun _ hk=>by
  obtain⟨F,w',D,A,C,B⟩:=yeP (P:=Tryz.prog) 55 9 o.type 5 Tryz.underlying55 Tryz.underlying9 yof ho ys hl;obtain⟨a1,q1,rfl⟩:=A.slice;have E:(l++ys.data.toList).length=l.length+ys.size:=by simp
  rw[E]at D A B;unfold Oper.wp execOp;simp only[hop,resolve,invoke,builtin,Sem.run_bind,Sem.run_pure,Result.andThen_ok,List.map_toArray,List.map_cons,List.map_nil,hs,hx,D];exact hk _ _ (hK a1 q1 w' A C B)
theorem ygJ {W:World}{ops:Array Oper}{rest:List Oper}{o:Oper}{a:Act}{Q:Exit->Act->World->Prop}(hg:o.guard=none)(s x:Operand)
  (hop:o.op=Op.call {callee:=Callee.builtin Builtin.append,args:=#[s,x],argTypes:=#[55,55]})
  {l:List UInt8}{v:Value}(ho:RowAt W 5 v l)(hs:a.eval s=v)
  (ad:Addr)(c:Nat)(ys:List UInt8)(hx:a.eval x= .slice (some ad) ys.length c)(hc:∀j u,(ys.flatMap Cells.enc)[j]? =some u->W.cell? (ad.add j)=some u)(hl:l.length+ys.length<=1099511627776)
  (hK:∀a1 q1 w',RowAt w' 5 (.slice a1 (l.length+ys.length) q1) (l++ys)->Keeps (fun j=>v.ownBlock=some j) W w'->(∀g,(Value.slice a1 (l.length+ys.length) q1).ownBlock=some g->v.ownBlock=some g\/W.heap.size<=g)->wpList Tryz.prog ops Q rest (a.put o.dst (.slice a1 (l.length+ys.length) q1)) w'):wpList Tryz.prog ops Q (o::rest) a W:=by
 obtain⟨i,E,H,G,F⟩:=info_parts yof;refine ycR hg s x 55 hop 5 i (.int .u8 0) 1 Tryz.underlying55 E H (by rw[G];rfl) F rfl v l hs ho ad ys.length c ys hx rfl hc (by omega) (by unfold maxLen;omega) ?_;intro I D C A B;obtain⟨a1,q1,rfl⟩:=C.slice;rw[znk]at*;exact hK a1 q1 D C (Keeps.of_grown A (fun k h=>h)) (fun g h=>(B g h).imp id (fun h=>h.1))
def WPB (w:World)(b:Nat)(l:List UInt8)(e:Ending)(w':World):Prop:=e= .returned (.tuple #[])/\Hid (WB w' b l/\WK b w w')
theorem yjc {w:World}{nb:Nat}{ys:List UInt8}(hc:∀j u,(ys.map ydH)[j]? =some u->w.cell? ⟨nb,j,none⟩=some u):∀j u,(ys.flatMap Cells.enc)[j]? =some u->w.cell? ((⟨nb,0,none⟩:Addr).add j)=some u:=by
 have B:∀l:List UInt8,l.flatMap (Cells.enc (α:=UInt8))=l.map ydH:=fun l=>by
  induction l with
  |nil=>rfl
  |cons x r ih=>rw[List.flatMap_cons,ih];rfl
 intro j u A;rw[Addr.add_lit,Nat.zero_add];exact hc j u (by rw[<-B];exact A)
set_option maxHeartbeats 4000000 in
theorem ydT (b:Nat)(l ys:List UInt8)(nb c:Nat)(w:World)(H:WB w b l)(hc:∀j u,(ys.map ydH)[j]? =some u->w.cell? ⟨nb,j,none⟩=some u)(hl:l.length+ys.length<=1099511627776):
  Calls Tryz.prog 105 #[.pointer (some ⟨b,0,none⟩),.slice (some ⟨nb,0,none⟩) ys.length c] w (WPB w b (l++ys)):=by
 obtain⟨a,F,E,K,B⟩:=H;have M:=zlt E;have c0:=zca E 0 rfl;have L:∀o,w.frozen? ⟨b,o,none⟩=false:=fun o=>zfr E o;have A:=zh4 E K B (yjc hc);clear E K hc B;go_in;go_wp2_with (at_builtin;go_must (refine ygJ rfl (.tmp 8) (.tmp 9) rfl A.o.2.1 rfl ⟨nb,0,none⟩ c ys rfl A.o.2.2.2 hl ?_);intro O N G I C J;have D:G.heap[b]? =some (.cells #[.slice a l.length F] 131 (0,0)):=(C.block b M A.o.2.2.1).trans A.o.1;have c0:G.cell? ⟨b,0,none⟩=some (.slice a l.length F):=by{rw[zch D];rfl};have L:∀o,G.frozen? ⟨b,o,none⟩=false:=fun o=>zfr D o)
 go_end0
 exact⟨rfl,zhd (WB.stored (by simp) A.o.1 A.o.2.2.1 I C J)⟩
theorem yna (b:Nat)(l:List UInt8)(w:World)(H:WB w b l):Calls Tryz.prog 100 #[.pointer (some ⟨b,0,none⟩)] w fun e w'=>e= .returned (.int .i64 l.length)/\w'=w:=by
 obtain⟨a,D,B,C,A⟩:=H;have c0:=zca B 0 rfl;clear B C A;go_in;go_wp2;go_ret;exact⟨rfl,rfl⟩
theorem ypb (m:Nat):bits BinOp.or IntKind.u8 ((m:Int)%256) 128=(((UInt8.ofNat (m%128+128)).toNat:Nat):Int):=by
 have h:∀k:Fin 256,bits BinOp.or IntKind.u8 (k.val:Int) 128=((k.val%128+128:Nat):Int):=by decide+kernel
 have A:=h ⟨m%256,by omega⟩;rw[show((m:Int)%256)=((m%256:Nat):Int)from by omega,A];rw[UInt8.toNat_ofNat_of_lt' (by show m%128+128<256;omega)];show((m%256%128+128:Nat):Int)=_;omega
theorem yn9 {m:Nat}(h:m<128):((m:Int)%256)=(((UInt8.ofNat m).toNat:Nat):Int):=by
 rw[UInt8.toNat_ofNat_of_lt' (by show m<256;omega)];omega
theorem yf4 (wr:World)(x:Int)(y:UInt8)(t:TypeId)(h:x=(y.toNat:Int)):∀j u,([y].flatMap Cells.enc)[j]? =some u->(wr.alloc (.cells #[.int .u8 x] t)).cell? ((⟨wr,0,none⟩:Addr).add j)=some u:=by
 intro j u A;rw[Addr.add_lit,zch (znb wr _),Nat.zero_add];cases j with
 |zero=>rw[h];simpa[Cells.enc]using A
 |succ j=>simp at A;exact absurd A (by simp[Cells.enc])
def N1 (w:World)(b:Nat)(l:List UInt8)(n nb:Nat)(gk:Nat)(v8:Value)(wr:World):Prop:=
 (v8= .int .i64 0/\gk=1/\WB wr b l/\wr.cell? ⟨nb,0,none⟩=some (.int .u64 n)/\WK b w wr)\/(v8= .int .i64 1/\gk=0/\WB wr b (l++ych n)/\WK b w wr)
def N2 (w:World)(b:Nat)(l:List UInt8)(n:Nat)(gk:Nat)(v5:Value)(wr:World):Prop:=
 ∃(m:Nat) (l1:List UInt8),v5= .int .u64 m/\gk=m/\m<18446744073709551616/\WB wr b l1/\l1++ych m=l++ych n/\WK b w wr
set_option maxHeartbeats 4000000 in
theorem yhd (b:Nat)(l:List UInt8)(n nb c:Nat)(w:World)(H:WB w b l)(hc:w.cell? ⟨nb,0,none⟩=some (.int .u64 n))(hn:n<18446744073709551616)(hl:l.length+12<=1099511627776):
  Calls Tryz.prog 103 #[.pointer (some ⟨b,0,none⟩),.slice (some ⟨nb,0,none⟩) 1 c] w (WPB w b (l++ych n)):=by
 have W:=zh3 H hc hn;clear H hc hn;go_in;go_wp2_with fail;go_loopg [8] (1) (fun gk v8 wr=>N1 w b l n nb gk v8 wr)
 case atStart=>exact .inl ⟨rfl,rfl,W.o.1,W.o.2.1,WK.refl _ _⟩
 case round=>
  rcases hrel with⟨rfl,A,P,hc,E⟩|⟨rfl,A,P,E⟩
  .have Q:=zh3 P E A
   obtain⟨X,rfl⟩:∃X:World,X=wr:=⟨_,rfl⟩;clear P E A;go_wp2_with fail;go_loopg [5] (n) (fun gk v5 wr=>N2 w b l n gk v5 wr)
   case atStart=>exact⟨n,l,rfl,rfl,W.o.2.2,Q.o.1,rfl,Q.o.2.1⟩
   case round=>
    clear hc;obtain⟨m,I,rfl,A,hm,⟨a,F,N,T,K⟩,M,E⟩:=hrel;have O:=zlt N;have c0:=zca N 0 rfl;have Y:∀o,wr.frozen? ⟨b,o,none⟩=false:=fun o=>zfr N o;have B:=zh6 N T K E hm A;by_cases h128:128<=m
    .have d:(128:Int)<=m:=by omega
     rw[yid h128 hm]at M;have R:=zhd M;clear N T K E M A hm;have V:=zhd (show I.length+[UInt8.ofNat (m%128+128)].length<=1099511627776 from by
      have h:=congrArg List.length R.o;have:=ybA n;simp at h|-;omega)
     go_wp2_with (at_builtin;go_must (refine ygJ rfl (.tmp 18) (.tmp 22) rfl (B.o.2.1.alloc _) rfl ⟨wr,0,none⟩ 1 [UInt8.ofNat (m%128+128)] rfl (yf4 _ _ _ _ (ypb m)) V.o ?_);intro e Z G J C L;have D:G.heap[b]? =some (.cells #[.slice a I.length F] 131 (0,0)):=(C.block b (by simp;omega) B.o.2.2.1).trans ((zne _ _ _ O).trans B.o.1);have c0:G.cell? ⟨b,0,none⟩=some (.slice a I.length F):=by{rw[zch D];rfl};have Y:∀o,G.frozen? ⟨b,o,none⟩=false:=fun o=>zfr D o);have S:=WB.stored (by simp) ((zne _ _ _ O).trans B.o.1) B.o.2.2.1 J C L;have U:=B.o.2.2.2.1.trans ((WK.ext O ((znv _ _).alloc (znc _) (.cells #[.int .u8 (bits BinOp.or IntKind.u8 ((m:Int)%256) 128)] 5))).trans S.2);go_roundg (m/128)
     case measure=>have:=B.o.2.2.2.2.2;omega
     case rel=>exact⟨m/128,I++[UInt8.ofNat (m%128+128)],by simp,rfl,(by have:=B.o.2.2.2.2.1;omega),S.1,(by rw[List.append_assoc];exact R.o),U⟩
    .have d:¬(128:Int)<=m:=by omega
     rw[ye9 (by omega)]at M;have R:=zhd M;clear N T K E M A hm;have V:=zhd (show I.length+[UInt8.ofNat m].length<=1099511627776 from by
      have h:=congrArg List.length R.o;have:=ybA n;simp at h|-;omega)
     have f:=zhd (show(m:Int)=(((UInt8.ofNat m).toNat:Nat):Int)from by have:=yn9 (m:=m) (by omega);omega);go_wp2_with (at_builtin;go_must (refine ygJ rfl (.tmp 32) (.tmp 35) rfl (B.o.2.1.alloc _) rfl ⟨wr,0,none⟩ 1 [UInt8.ofNat m] rfl (yf4 _ _ _ _ f.o) V.o ?_);intro e Z G J C L;have D:G.heap[b]? =some (.cells #[.slice a I.length F] 131 (0,0)):=(C.block b (by simp;omega) B.o.2.2.1).trans ((zne _ _ _ O).trans B.o.1);have c0:G.cell? ⟨b,0,none⟩=some (.slice a I.length F):=by{rw[zch D];rfl};have Y:∀o,G.frozen? ⟨b,o,none⟩=false:=fun o=>zfr D o);have S:=WB.stored (by simp) ((zne _ _ _ O).trans B.o.1) B.o.2.2.1 J C L;have U:=B.o.2.2.2.1.trans ((WK.ext O ((znv _ _).alloc (znc _) (.cells #[.int .u8 (m:Int)] 5))).trans S.2);rw[R.o]at S;go_roundg (0)
     case measure=>have:=Q.o.2.2;omega
     case rel=>exact .inr ⟨rfl,rfl,S.1,U⟩
  .have Q:=zh2 P E
   clear P E;go_wp2_with fail
   go_end0
   exact⟨rfl,Q⟩
theorem ygI (x:Int):IntKind.u64.wrap x=x%18446744073709551616:=by
 simp[IntKind.wrap,IntKind.bits,IntKind.signed]
theorem ylh (a:Nat)(h:a<18446744073709551616):a^^^18446744073709551615=18446744073709551615 - a:=by
 have B:(BitVec.ofNat 64 a).toNat=a:=by simp;omega
 have A:=BitVec.toNat_not (x:=BitVec.ofNat 64 a);rw[BitVec.not_def,BitVec.toNat_xor,B,BitVec.toNat_allOnes,Nat.xor_comm]at A;exact A
theorem ymK (n:Int)(h0: -9223372036854775808<=n)(h1:n<=9223372036854775807)(w:World):Calls Tryz.prog 104 #[n] w fun e w'=>e= .returned (.int .u64 (zigL n))/\w'=w:=by
 by_cases hn:0<=n
 .have A:bits BinOp.xor IntKind.u64 (n*2) (n/9223372036854775808)=zigL n:=by
   obtain⟨m,rfl⟩:=Int.eq_ofNat_of_zero_le hn;have C:((m:Int)/9223372036854775808)=((0:Nat):Int):=by omega
   have B:((m:Int)*2)=((m*2:Nat):Int):=by omega
   rw[C,B,bits_xor_u64_nat _ _ (by omega) (by omega),Nat.xor_zero];unfold zigL;rw[if_pos hn];omega
  have D:=zhd A;clear A;go_in;go_wp2;go_ret;exact⟨by rw[D.o];rfl,rfl⟩
 .have A:bits BinOp.xor IntKind.u64 (IntKind.u64.wrap (IntKind.u64.wrap n*2)) (IntKind.u64.wrap (n/9223372036854775808))=zigL n:=by
   have C:IntKind.u64.wrap (IntKind.u64.wrap n*2)=((2*n+18446744073709551616).toNat:Int):=by
    rw[ygI,ygI];omega
   have B:IntKind.u64.wrap (n/9223372036854775808)=((18446744073709551615:Nat):Int):=by
    rw[ygI];omega
   rw[C,B,bits_xor_u64_nat _ _ (by omega) (by omega),ylh _ (by omega)];unfold zigL;rw[if_neg hn];omega
  have D:=zhd A;clear A;go_in;go_wp2;go_ret;exact⟨by rw[D.o];rfl,rfl⟩
set_option maxHeartbeats 4000000 in
theorem yjC (b:Nat)(l:List UInt8)(s:ByteArray)(w:World)(H:WB w b l)(hl:l.length+s.size+12<=1099511627776):
  Calls Tryz.prog 62 #[.pointer (some ⟨b,0,none⟩),s] w (WPB w b (l++textB s.data.toList)):=by
 have W:=H.lt;have M:=zhd H;clear H;have L:=zhd (yhd b l s.size w.heap.size 1 (w.alloc (.cells #[.int .u64 s.size] 188)) (M.o.alloc _).1 (by rw[zch (znb _ _)];rfl) (by omega) (by omega));go_in;go_wp2_with fail;refine L.o.mono ?_;rintro e O ⟨rfl,N⟩;obtain⟨a,F,E,K,B⟩:=N.o.1;have R:=zlt E;have c0:=zca E 0 rfl;have P:∀o,O.frozen? ⟨b,o,none⟩=false:=fun o=>zfr E o;have U:=zhd (show(l++ych s.size).length+s.size<=1099511627776 from by have:=ybA s.size;simp;omega);have A:=zh4 E K B N.o.2;clear E K L B;generalize hl1:l++ych s.size=l1 at*;have T:=zhd hl1;clear hl1;go_wp2_with (at_builtin;go_must (refine ymN rfl (.tmp 14) (.tmp 15) rfl A.o.2.1 rfl s rfl U.o ?_);intro X V G I C J;have D:G.heap[b]? =some (.cells #[.slice a l1.length F] 131 (0,0)):=(C.block b R A.o.2.2.1).trans A.o.1;have c0:G.cell? ⟨b,0,none⟩=some (.slice a l1.length F):=by{rw[zch D];rfl};have P:∀o,G.frozen? ⟨b,o,none⟩=false:=fun o=>zfr D o);have S:=WB.stored (by simp) A.o.1 A.o.2.2.1 I C J
 go_end0
 have Q:l++textB s.data.toList=l1++s.data.toList:=by
  unfold textB;rw[<-T.o,List.append_assoc];simp
 exact⟨rfl,zhd ⟨by rw[Q];exact S.1,((M.o.alloc _).2.trans A.o.2.2.2).trans S.2⟩⟩
def I1 (w:World)(b:Nat)(l:List UInt8)(n:Int)(nb:Nat)(gk:Nat)(v8:Value)(wr:World):Prop:=
 (v8= .int .i64 0/\gk=1/\WB wr b l/\wr.cell? ⟨nb,0,none⟩=some (.int .i64 n)/\WK b w wr)\/(v8= .int .i64 1/\gk=0/\WB wr b (l++ych (zigL n))/\WK b w wr)
theorem yjB {n:Int}(h0: -9223372036854775808<=n)(h1:n<=9223372036854775807):zigL n<18446744073709551616:=by
 unfold zigL;split<;>omega
set_option maxHeartbeats 4000000 in
theorem ynh (b:Nat)(l:List UInt8)(n:Int)(nb c:Nat)(w:World)(H:WB w b l)(hc:w.cell? ⟨nb,0,none⟩=some (.int .i64 n))(h0: -9223372036854775808<=n)(h1:n<=9223372036854775807)(hl:l.length+12<=1099511627776):
  Calls Tryz.prog 59 #[.pointer (some ⟨b,0,none⟩),.slice (some ⟨nb,0,none⟩) 1 c] w (WPB w b (l++ych (zigL n))):=by
 have D:=zh4 H hc h0 h1;clear H hc h0 h1;go_in;go_wp2_with fail;go_loopg [8] (1) (fun gk v8 wr=>I1 w b l n nb gk v8 wr)
 case atStart=>exact .inl ⟨rfl,rfl,D.o.1,D.o.2.1,WK.refl _ _⟩
 case round=>
  rcases hrel with⟨rfl,A,B,hc,E⟩|⟨rfl,A,B,E⟩
  .have L:=B.lt
   have C:=zh3 B E A;have I:=zhd (yhd b l (zigL n) wr.heap.size 1 (wr.alloc (.cells #[.int .u64 (zigL n)] 188)) (C.o.1.alloc _).1 (by rw[zch (znb _ _)];rfl) (yjB D.o.2.2.1 D.o.2.2.2) hl);have G:=zhd (ymK n D.o.2.2.1 D.o.2.2.2 wr);clear B E A;go_wp2_with fail;refine G.o.mono ?_;rintro e K ⟨rfl,rfl⟩;go_wp2_with fail;refine I.o.mono ?_;rintro e J ⟨rfl,F⟩;clear hc;go_wp2_with fail;go_roundg (0)
   case measure=>have:=C.o.2.2;omega
   case rel=>exact .inr ⟨rfl,rfl,F.o.1,(C.o.2.1.trans (C.o.1.alloc _).2).trans F.o.2⟩
  .have C:=zh2 B E
   clear B E;go_wp2_with fail
   go_end0
   exact⟨rfl,C⟩
end Go.Proofs.YtpagmlndgblhhaaGreatDoor
namespace Go.Va
open Go.Own Go.RowKit
def yah:Val->List UInt8
 | .mk k n s l=>UInt8.ofNat (k%256).toNat::(bif k==1 then ych (zigL n)else bif k==2 then Go.Va.textB s.data.toList else bif k==3 then ych l.length++bytesL l else[])
where bytesL:List Val->List UInt8
 |[]=>[]
 |x::r=>yah x++bytesL r
theorem yaZ (x:Val):yah x=UInt8.ofNat (x.kind%256).toNat::(bif x.kind==1 then ych (zigL x.num)else bif x.kind==2 then Go.Va.textB x.txt.data.toList else bif x.kind==3 then ych x.list.length++yah.bytesL x.list else[]):=by
 cases x;rw[yah];rfl
theorem ybm (x:Val)(r:List Val):yah.bytesL (x::r)=yah x++yah.bytesL r:=by rw[yah.bytesL]
theorem ydp:yah.bytesL []=[]:=by rw[yah.bytesL]
theorem yff {x:Val}:∀{l:List Val},x∈l->(yah x).length<=(yah.bytesL l).length
 |[],h=>by cases h
 |y::r,h=>by
  rw[ybm,znk];rcases List.mem_cons.1 h with rfl|h
  .omega
  .have:=yff h;omega
def Val.wf:Val->Prop
 | .mk k n s l=>(-9223372036854775808<=k/\k<=9223372036854775807)/\(-9223372036854775808<=n/\n<=9223372036854775807)/\s.size<=140737488355328/\wfL l
where wfL:List Val->Prop
 |[]=>True
 |x::r=>x.wf/\wfL r
theorem Val.wf_eq (x:Val):x.wf↔(-9223372036854775808<=x.kind/\x.kind<=9223372036854775807)/\(-9223372036854775808<=x.num/\x.num<=9223372036854775807)/\x.txt.size<=140737488355328/\Val.wf.wfL x.list:=by
 cases x;rw[Val.wf];rfl
theorem Val.wfL_mem {x:Val}:∀{l:List Val},Val.wf.wfL l->x∈l->x.wf
 |[],_,h=>by cases h
 |y::r,hw,h=>by
  rw[Val.wf.wfL]at hw;rcases List.mem_cons.1 h with rfl|h
  .exact hw.1
  .exact Val.wfL_mem hw.2 h
theorem Val.wfL_iff:∀{l:List Val},Val.wf.wfL l↔∀x∈l,x.wf
 |[]=>by rw[Val.wf.wfL];simp
 |y::r=>by rw[Val.wf.wfL,Val.wfL_iff];simp
end Go.Va
namespace Go.Proofs.YtpagmlndgblhhaaGreatDoor
open Go.RowKit Go.Own Go.Own.MapTy Go.Va Go.Sort
open Go.Own.Cells (sz enc)
theorem yaM {W:World}{b j:Nat}(hb:b<W)(o:Obj):ycf (W.alloc o) b j↔ycf W b j:=by
 unfold ycf;rw[zne _ _ _ hb]
theorem ygH (x:Val)
  (b:Nat)(l:List UInt8)(ck cn:Int)(cs:ByteArray)(la:Option Addr)(ln lc:Nat)(F:Nat->Prop)(w:World)(H:WB w b l)(C:CF F w ⟨ck,cn,cs,la,ln,lc⟩ x)(hF:∀j,F j->j≠b/\¬ycf w b j)(hw:x.wf)(hl:l.length+(yah x).length+12<=1099511627776)(r:List UInt8)(hr:yah x=r)
  (k1:(ck==1)=false)(k2:(ck==2)=false)(k3:(ck==3)=false):
  Calls Tryz.prog 60 #[.pointer (some ⟨b,0,none⟩),.agg #[ck,cn,cs,.slice la ln lc]] w (WPB w b (l++r))
  :=by
 have W:=H.lt;have I:ck=x.kind:=C.kind;have L:cn=x.num:=C.n;have K:cs=x.txt:=C.s;have E:=(Val.wf_eq x).1 hw;have B:=hr;rw[yaZ]at hr;rw[B]at hl;have c:=zh4 C E B hF;clear C E B hw hF;obtain⟨y,J⟩:∃y,y=UInt8.ofNat (x.kind%256).toNat:=⟨_,rfl⟩;rw[<-J]at hr;have D:((ck%256):Int)=(y.toNat:Int):=by
  have h:(x.kind%256).toNat<256:=by omega
  rw[J,UInt8.toNat_ofNat_of_lt' (by exact h)];omega
 have Y:=zhd D;clear J D;rw[<-I,k1,k2,k3]at hr;simp only[znl]at hr;have Z:=zhd hr;clear hr I L K;have O:=H.alloc (.cells #[ck,cn,cs,.slice la ln lc] 38);have N:=O.1.alloc (.cells #[.int .u8 (ck%256)] 5);have G:∀j,ycf ((w.alloc (.cells #[ck,cn,cs,.slice la ln lc] 38)).alloc (.cells #[.int .u8 (ck%256)] 5)) b j->j<w.heap.size:=fun j hj=>(H.row ((yaM W _).1 ((yaM (by simp;omega) _).1 hj))).2;have Q:=zhd (show Calls Tryz.prog 105 #[.pointer (some ⟨b,0,none⟩),.slice (some ⟨w.heap.size+1,0,none⟩) 1 1] _ (WPB _ b (l++[y]))from ydT b l [y] (w.heap.size+1) 1 _ N.1 (fun j u hu=>by
  rw[zch yar];cases j with
  |zero=>rw[Y.o];simpa[ydH]using hu
  |succ j=>simp at hu) (by simp;omega))
 have M:=zh3 O.2 N.2 G;clear O N G;have a:=zhd H;clear H;go_in;go_wp2_with fail;refine Q.o.mono ?_;rintro e P ⟨rfl,A⟩;have q:∀o,P.cell? ⟨w,o,none⟩=(#[.int .i64 ck,.int .i64 cn,.string cs,.slice la ln lc]:Array Value)[o]? :=fun o=>by
  rw[A.o.2.cell (by simp;omega) (by omega) (fun h=>by have:=M.o.2.2 _ h;omega),zch yaG]
 have V:=q 0;have U:=q 1;have T:=q 2;have S:=q 3;simp only[zmc,zma,zmb]at V U T S;have X:=zhd ((M.o.1.trans M.o.2.1).trans A.o.2);have R:w.heap.size+1<P.heap.size:=by have:=A.o.2.1.size;simp at this;omega
 clear q Q;go_wp2_with fail
 go_end0
 exact⟨rfl,zhd ⟨by rw[<-Z.o];exact A.o.1,X.o⟩⟩
theorem yjD (x:Val)
  (b:Nat)(l:List UInt8)(ck cn:Int)(cs:ByteArray)(la:Option Addr)(ln lc:Nat)(F:Nat->Prop)(w:World)(H:WB w b l)(C:CF F w ⟨ck,cn,cs,la,ln,lc⟩ x)(hF:∀j,F j->j≠b/\¬ycf w b j)(hw:x.wf)(hl:l.length+(yah x).length+12<=1099511627776)(r:List UInt8)(hr:yah x=r)
  (k1:ck=1):
  Calls Tryz.prog 60 #[.pointer (some ⟨b,0,none⟩),.agg #[ck,cn,cs,.slice la ln lc]] w (WPB w b (l++r))
  :=by
 subst k1;have a:=H.lt;have J:1=x.kind:=C.kind;have I:cn=x.num:=C.n;have N:cs=x.txt:=C.s;have E:=(Val.wf_eq x).1 hw;have B:=hr;rw[yaZ]at hr;rw[B]at hl;have f:=zh4 C E B hF;clear C E B hw hF;obtain⟨y,M⟩:∃y,y=UInt8.ofNat (x.kind%256).toNat:=⟨_,rfl⟩;rw[<-M]at hr;have D:(1:Int)=(y.toNat:Int):=by
  have h:(x.kind%256).toNat<256:=by omega
  rw[M,UInt8.toNat_ofNat_of_lt' (by exact h)];omega
 have d:=zhd D;clear M D;rw[<-J]at hr;simp only[beq_self_eq_true,znm]at hr;have O:=zhd hr;have K:=f.o.2.1.2.1;rw[<-I]at K hr;have O:=zhd hr;clear hr J I N;have R:=H.alloc (.cells #[.int .i64 1,cn,cs,.slice la ln lc] 38);have Q:=R.1.alloc (.cells #[.int .u8 1] 5);have G:∀j,ycf ((w.alloc (.cells #[.int .i64 1,cn,cs,.slice la ln lc] 38)).alloc (.cells #[.int .u8 1] 5)) b j->j<w.heap.size:=fun j hj=>(H.row ((yaM a _).1 ((yaM (by simp;omega) _).1 hj))).2;have U:=zhd (show Calls Tryz.prog 105 #[.pointer (some ⟨b,0,none⟩),.slice (some ⟨w.heap.size+1,0,none⟩) 1 1] _ (WPB _ b (l++[y]))from ydT b l [y] (w.heap.size+1) 1 _ Q.1 (fun j u hu=>by
  rw[zch yar];cases j with
  |zero=>rw[d.o];simpa[ydH]using hu
  |succ j=>simp at hu) (by simp;omega))
 have P:=zh3 R.2 Q.2 G;clear R Q G;have m:=zhd H;clear H;go_in;go_wp2_with fail;refine U.o.mono ?_;rintro e L ⟨rfl,A⟩;have q:∀o,L.cell? ⟨w,o,none⟩=(#[.int .i64 1,.int .i64 cn,.string cs,.slice la ln lc]:Array Value)[o]? :=fun o=>by
  rw[A.o.2.cell (by simp;omega) (by omega) (fun h=>by have:=P.o.2.2 _ h;omega),zch yaG]
 have Z:=q 0;have Y:=q 1;have X:=q 2;have W:=q 3;simp only[zmc,zma,zmb]at Z Y X W;have c:=zhd ((P.o.1.trans P.o.2.1).trans A.o.2);have V:w.heap.size+1<L.heap.size:=by have:=A.o.2.1.size;simp at this;omega
 clear q U;have k:=A.o.1.lt;have S:=A.o.1.alloc (.cells #[cn] 2);have g:=zhd (ynh b (l++[y]) cn L.heap.size 1 _ S.1 (by rw[zch (znb _ _)];rfl) K.1 K.2 (by have h:=congrArg List.length O.o;simp at h|-;omega));clear K;go_wp2_with fail;refine g.o.mono ?_;rintro e i ⟨rfl,T⟩;go_wp2_with fail
 go_end0
 refine⟨rfl,zhd ⟨?_,(c.o.trans S.2).trans T.o.2⟩⟩;rw[<-O.o];have:=T.o.1;rw[List.append_assoc]at this;exact this
theorem yiB (x:Val)
  (b:Nat)(l:List UInt8)(ck cn:Int)(cs:ByteArray)(la:Option Addr)(ln lc:Nat)(F:Nat->Prop)(w:World)(H:WB w b l)(C:CF F w ⟨ck,cn,cs,la,ln,lc⟩ x)(hF:∀j,F j->j≠b/\¬ycf w b j)(hw:x.wf)(hl:l.length+(yah x).length+12<=1099511627776)(r:List UInt8)(hr:yah x=r)
  (k1:ck=2):
  Calls Tryz.prog 60 #[.pointer (some ⟨b,0,none⟩),.agg #[ck,cn,cs,.slice la ln lc]] w (WPB w b (l++r))
  :=by
 subst k1;have Z:=H.lt;have J:2=x.kind:=C.kind;have L:cn=x.num:=C.n;have I:cs=x.txt:=C.s;have E:=(Val.wf_eq x).1 hw;have B:=hr;rw[yaZ]at hr;rw[B]at hl;have k:=zh4 C E B hF;clear C E B hw hF;obtain⟨y,K⟩:∃y,y=UInt8.ofNat (x.kind%256).toNat:=⟨_,rfl⟩;rw[<-K]at hr;have D:(2:Int)=(y.toNat:Int):=by
  have h:(x.kind%256).toNat<256:=by omega
  rw[K,UInt8.toNat_ofNat_of_lt' (by exact h)];omega
 have c:=zhd D;clear K D;rw[<-J,<-I]at hr;have Q:((2:Int)==1)=false:=rfl;rw[Q]at hr;simp only[beq_self_eq_true,znm,znl]at hr;have d:=zhd hr;have Y:l.length+1+cs.size+12<=1099511627776:=by
  have h:=congrArg List.length hr;simp[Go.Va.textB]at h;omega
 clear hr J L I Q;have O:=H.alloc (.cells #[.int .i64 2,cn,cs,.slice la ln lc] 38);have N:=O.1.alloc (.cells #[.int .u8 2] 5);have G:∀j,ycf ((w.alloc (.cells #[.int .i64 2,cn,cs,.slice la ln lc] 38)).alloc (.cells #[.int .u8 2] 5)) b j->j<w.heap.size:=fun j hj=>(H.row ((yaM Z _).1 ((yaM (by simp;omega) _).1 hj))).2;have S:=zhd (show Calls Tryz.prog 105 #[.pointer (some ⟨b,0,none⟩),.slice (some ⟨w.heap.size+1,0,none⟩) 1 1] _ (WPB _ b (l++[y]))from ydT b l [y] (w.heap.size+1) 1 _ N.1 (fun j u hu=>by
  rw[zch yar];cases j with
  |zero=>rw[c.o];simpa[ydH]using hu
  |succ j=>simp at hu) (by simp;omega))
 have M:=zh3 O.2 N.2 G;clear O N G;have i:=zhd H;clear H;go_in;go_wp2_with fail;refine S.o.mono ?_;rintro e P ⟨rfl,A⟩;have q:∀o,P.cell? ⟨w,o,none⟩=(#[.int .i64 2,.int .i64 cn,.string cs,.slice la ln lc]:Array Value)[o]? :=fun o=>by
  rw[A.o.2.cell (by simp;omega) (by omega) (fun h=>by have:=M.o.2.2 _ h;omega),zch yaG]
 have X:=q 0;have W:=q 1;have V:=q 2;have U:=q 3;simp only[zmc,zma,zmb]at X W V U;have a:=zhd ((M.o.1.trans M.o.2.1).trans A.o.2);have T:w.heap.size+1<P.heap.size:=by have:=A.o.2.1.size;simp at this;omega
 clear q S;have f:=zhd (yjC b (l++[y]) cs _ A.o.1 (by simp;omega));go_wp2_with fail;refine f.o.mono ?_;rintro e g ⟨rfl,R⟩;go_wp2_with fail
 go_end0
 refine⟨rfl,zhd ⟨?_,a.o.trans R.o.2⟩⟩;rw[<-d.o];have:=R.o.1;rw[List.append_assoc]at this;exact this
def yqh (w:World)(b:Nat)(x:Val)(L:List UInt8)(gk:Nat)(v39:Value)(wr:World):Prop:=
 ∃(i:Nat) (l1:List UInt8),v39= .int .i64 i/\i<=x.list.length/\gk=x.list.length - i/\WB wr b l1/\l1++yah.bytesL (x.list.drop i)=L/\WK b w wr
theorem yeX (n:Nat)(IH:∀(x:Val),x.parts<=n->∀(b:Nat) (l:List UInt8) (c:VC) (F:Nat->Prop) (w:World),WB w b l->CF F w c x->(∀j,F j->j≠b/\¬ycf w b j)->x.wf->l.length+(yah x).length+12<=1099511627776->
   Calls Tryz.prog 60 #[.pointer (some ⟨b,0,none⟩),.agg #[c.kind,c.n,c.s,.slice c.la c.ln c.lc]] w (WPB w b (l++yah x)))
  (x:Val)
  (b:Nat)(l:List UInt8)(ck cn:Int)(cs:ByteArray)(la:Option Addr)(ln lc:Nat)(F:Nat->Prop)(w:World)(H:WB w b l)(C:CF F w ⟨ck,cn,cs,la,ln,lc⟩ x)(hF:∀j,F j->j≠b/\¬ycf w b j)(hw:x.wf)(hl:l.length+(yah x).length+12<=1099511627776)(r:List UInt8)(hr:yah x=r)
  (k1:ck=3)(hx:x.parts<=n+1)(g off:Nat)
  (hel:ln=x.list.length/\ln<=maxLen/\(∀(i:Nat) (y:Val),x.list[i]? =some y->F g/\g<w/\∃c,CF F w c y/\
    w.cell? ⟨g,off+i*4,none⟩=some (.int .i64 c.kind)/\w.cell? ⟨g,off+i*4+1,none⟩=some (.int .i64 c.n)/\w.cell? ⟨g,off+i*4+2,none⟩=some (.string c.s)/\w.cell? ⟨g,off+i*4+3,none⟩=some (.slice c.la c.ln c.lc)))(hla:la=some ⟨g,off,none⟩\/x.list=[]):
  Calls Tryz.prog 60 #[.pointer (some ⟨b,0,none⟩),.agg #[ck,cn,cs,.slice la ln lc]] w (WPB w b (l++r))
  :=by
 subst k1;have b0:=H.lt;have m:3=x.kind:=C.kind;have Ae:cn=x.num:=C.n;have Ad:cs=x.txt:=C.s;have X:=(Val.wf_eq x).1 hw;have N:=hr;rw[yaZ]at hr;rw[N]at hl;have Q:=zh4 C X N hF;clear C X N hw hF;obtain⟨y,hy⟩:∃y,y=UInt8.ofNat (x.kind%256).toNat:=⟨_,rfl⟩;rw[<-hy]at hr;have W:(3:Int)=(y.toNat:Int):=by
  have h:(x.kind%256).toNat<256:=by omega
  rw[hy,UInt8.toNat_ofNat_of_lt' (by exact h)];omega
 have HY:=zhd W;clear hy W;rw[<-m]at hr;have e1:((3:Int)==1)=false:=rfl;have e2:((3:Int)==2)=false:=rfl;rw[e1,e2]at hr;simp only[beq_self_eq_true,znm,znl]at hr;obtain⟨K,Ac,hel⟩:=hel;rw[<-K]at hr;have HR:=zhd hr;have HE:=zhd hel;have HL:=zhd K;have Ag:=zhd hla;unfold maxLen at Ac;have Ah:=zhd IH;clear hr m Ae Ad e1 e2 hel K IH hla;have H1:=H.alloc (.cells #[.int .i64 3,cn,cs,.slice la ln lc] 38);have H2:=H1.1.alloc (.cells #[.int .u8 3] 5);have Z:∀j,ycf ((w.alloc (.cells #[.int .i64 3,cn,cs,.slice la ln lc] 38)).alloc (.cells #[.int .u8 3] 5)) b j->j<w.heap.size:=fun j hj=>(H.row ((yaM b0 _).1 ((yaM (by simp;omega) _).1 hj))).2;have CB:=zhd (show Calls Tryz.prog 105 #[.pointer (some ⟨b,0,none⟩),.slice (some ⟨w.heap.size+1,0,none⟩) 1 1] _ (WPB _ b (l++[y]))from ydT b l [y] (w.heap.size+1) 1 _ H2.1 (fun j u hu=>by
  rw[zch yar];cases j with
  |zero=>rw[HY.o];simpa[ydH]using hu
  |succ j=>simp at hu) (by simp;omega))
 have HK:=zh3 H1.2 H2.2 Z;clear H1 H2 Z;have HH:=zhd H;clear H;go_in;go_wp2_with fail;refine CB.o.mono ?_;rintro e E ⟨rfl,B⟩;have q:∀o,E.cell? ⟨w,o,none⟩=(#[.int .i64 3,.int .i64 cn,.string cs,.slice la ln lc]:Array Value)[o]? :=fun o=>by
  rw[B.o.2.cell (by simp;omega) (by omega) (fun h=>by have:=HK.o.2.2 _ h;omega),zch yaG]
 have V:=q 0;have U:=q 1;have T:=q 2;have R:=q 3;simp only[zmc,zma,zmb]at V U T R;have K2:=zhd ((HK.o.1.trans HK.o.2.1).trans B.o.2);have Ak:w.heap.size+1<E.heap.size:=by have:=B.o.2.1.size;simp at this;omega
 clear q CB;have b2:=B.o.1.lt;have HA:=B.o.1.alloc (.cells #[.int .u64 ln] 188);have CN:=zhd (yhd b (l++[y]) ln E.heap.size 1 _ HA.1 (by rw[zch (znb _ _)];rfl) (by omega) (by have h:=congrArg List.length HR.o;simp at h|-;omega));go_wp2_with fail;refine CN.o.mono ?_;rintro e w3 ⟨rfl,H3⟩;have Y:∀j,ycf (E.alloc (.cells #[.int .u64 ln] 188)) b j->j<w.heap.size\/w.heap.size+2<=j:=fun j hj=>by
  rcases B.o.2.2 j ((yaM b2 _).1 hj)with h|h
  .exact .inl (HK.o.2.2 j h)
  .simp at h;exact .inr h
 have q:∀o,w3.cell? ⟨w,o,none⟩=E.cell? ⟨w,o,none⟩:=fun o=>by
  rw[H3.o.2.cell (by simp;omega) (by omega) (fun h=>by have:=Y _ h;omega)];exact znt (w:=E) (zne _ _ _ (show w<E.heap.size by omega))
 rw[<-q 0]at V;rw[<-q 1]at U;rw[<-q 2]at T;rw[<-q 3]at R;have K3:=zhd ((K2.o.trans HA.2).trans H3.o.2);have p:=H3.o.1;clear q CN Y H3 HA HK K2;go_wp2_with fail;go_loopg [39] (x.list.length) (fun gk v39 wr=>yqh w b x (l++r) gk v39 wr)
 case atStart=>exact⟨0,_,rfl,znq _,rfl,p,(by rw[<-HR.o];simp),K3.o⟩
 case round=>
  clear V U T R p K3;obtain⟨i,l1,rfl,hi,L,t,M,D⟩:=hrel;by_cases hin:i<ln
  .obtain⟨z,J⟩:=yac (l:=x.list) (k:=i) (by have:=HL.o;omega)
   obtain⟨Af,hg,A,hC,V,U,T,R⟩:=HE.o i z J;have a:=Q.o.2.2.2 g Af;have Ai:(i:Int)<ln:=by omega
   have hla:la=some ⟨g,off,none⟩:=Ag.o.resolve_right (fun e=>by rw[e]at J;simp at J);have Aj:=D.1.size;have b1:=t.lt;rw[<-D.cell hg a.1 a.2]at V U T R;have d:x.list.drop i=z::x.list.drop (i+1):=by
    rw[znr (zge J).1,(zge J).2]
   rw[d,ybm]at M;have I:=zmg J;have Ab:=(hC.mono (G:=fun j=>F j/\j<w) (fun j h l=>⟨h,l⟩)).keep D.1 (fun j h e=>e.elim (Q.o.2.2.2 j h.1).1 (Q.o.2.2.2 j h.1).2);have O:=t.alloc (.cells #[A.kind,A.n,A.s,.slice A.la A.ln A.lc] 38);have Aa:=Ab.keep (S:=fun _=>False) ((Keeps.refl _ _).alloc (.cells #[A.kind,A.n,A.s,.slice A.la A.ln A.lc] 38)) (fun _ _ f=>f);have CA:=zhd (Ah.o z (by have:=Val.parts_lt (v:=x) I;omega) b l1 A _ _ O.1 Aa (fun j h=>⟨(Q.o.2.2.2 j h.1).1,fun hj=>by
    rcases D.2 j ((yaM b1 _).1 hj)with h1|h1
    .exact(Q.o.2.2.2 j h.1).2 h1
    .have:=h.2;omega⟩) (Val.wfL_mem Q.o.2.1.2.2.2 I) (by have h:=congrArg List.length M;simp at h;omega))
   have P:=zh3 M (D.trans O.2) L;subst hla;clear t M D L hC Ab O Aa d J I;go_wp2_with fail;refine CA.o.mono ?_;rintro e w5 ⟨rfl,H5⟩;go_wp2_with fail;go_roundg (x.list.length - (i+1))
   case measure=>have:=P.o.2.2;have:=HL.o;omega
   case rel=>exact⟨i+1,_,by simp,(by have:=HL.o;omega),rfl,H5.o.1,(by rw[List.append_assoc];exact P.o.1),P.o.2.1.trans H5.o.2⟩
  .obtain rfl:i=ln:=by have:=HL.o;omega
   rw[zns (by have:=HL.o;omega),ydp,List.append_nil]at M;have P:=zh3 M t D;clear t M D L;go_wp2_with fail
   go_end0
   exact⟨rfl,zhd ⟨by rw[<-P.o.1];exact P.o.2.1,P.o.2.2⟩⟩
theorem ydV:∀(n:Nat) (x:Val),x.parts<=n->∀(b:Nat) (l:List UInt8) (c:VC) (F:Nat->Prop) (w:World),WB w b l->CF F w c x->(∀j,F j->j≠b/\¬ycf w b j)->x.wf->l.length+(yah x).length+12<=1099511627776->
   Calls Tryz.prog 60 #[.pointer (some ⟨b,0,none⟩),.agg #[c.kind,c.n,c.s,.slice c.la c.ln c.lc]] w (WPB w b (l++yah x))
 |0,x,hx,_,_,_,_,_,_,_,_,_,_=>by have:=x.parts_pos;omega
 |n+1,x,hx,b,l,⟨ck,cn,cs,la,ln,lc⟩,F,w,H,C,hF,hw,hl=>by
  by_cases k1:ck=1
  .exact yjD x b l ck cn cs la ln lc F w H C hF hw hl _ rfl k1
  .by_cases k2:ck=2
   .exact yiB x b l ck cn cs la ln lc F w H C hF hw hl _ rfl k2
   .by_cases k3:ck=3
    .obtain⟨I,G,A⟩:=C.l.elems
     rcases A with A|⟨g,B,D,E,J,A⟩
     .exact yeX n (fun y hy=>ydV n y hy) x b l ck cn cs la ln lc F w H C hF hw hl _ rfl k3 hx 0 0 ⟨I,G,fun i y hy=>by rw[A]at hy;simp at hy⟩ (.inr A)
     .exact yeX n (fun y hy=>ydV n y hy) x b l ck cn cs la ln lc F w H C hF hw hl _ rfl k3 hx g B ⟨I,G,fun i y hy=>⟨E,J,A i y hy⟩⟩ (.inl D)
    .exact ygH x b l ck cn cs la ln lc F w H C hF hw hl _ rfl (beq_eq_false_iff_ne.2 k1) (beq_eq_false_iff_ne.2 k2) (beq_eq_false_iff_ne.2 k3)
end Go.Proofs.YtpagmlndgblhhaaGreatDoor
namespace Go.Va
open Go.Own Go.RowKit
def cmpV:Val->Val->Int
 | .mk k n s l,y=>
   bif k !=y.kind then(bif decide (k<y.kind)then -1 else 1)else
   bif k==1 then(bif n !=y.num then(bif decide (n<y.num)then -1 else 1)else 0)else
   bif k==2 then Lib.compareBytes s.data.toList y.txt.data.toList else
   bif k==3 then cmpLs l y.list else 0
where cmpLs:List Val->List Val->Int
 |[],ys=>bif decide (0<ys.length)then -1 else 0
 |_::_,[]=>1
 |x::r,y::s=>bif cmpV x y !=0 then cmpV x y else cmpLs r s
theorem ydn (x y:Val):cmpV x y=
  bif x.kind !=y.kind then(bif decide (x.kind<y.kind)then -1 else 1)else
  bif x.kind==1 then(bif x.num !=y.num then(bif decide (x.num<y.num)then -1 else 1)else 0)else
  bif x.kind==2 then Lib.compareBytes x.txt.data.toList y.txt.data.toList else
  bif x.kind==3 then cmpV.cmpLs x.list y.list else 0:=by
 cases x;rw[cmpV];rfl
theorem yfF (ys:List Val):cmpV.cmpLs [] ys=bif decide (0<ys.length)then -1 else 0:=by rw[cmpV.cmpLs]
theorem yiv (x:Val)(r:List Val):cmpV.cmpLs (x::r) []=1:=by rw[cmpV.cmpLs]
theorem ygm (x y:Val)(r s:List Val):cmpV.cmpLs (x::r) (y::s)=bif cmpV x y !=0 then cmpV x y else cmpV.cmpLs r s:=by rw[cmpV.cmpLs]
end Go.Va
namespace Go.Proofs.YtpagmlndgblhhaaGreatDoor
open Go.RowKit Go.Own Go.Own.MapTy Go.Va Go.Sort
open Go.Own.Cells (sz enc)
theorem ymi (x y:Val)
  (ck cn:Int)(cs:ByteArray)(la:Option Addr)(ln lc:Nat)(dk dn:Int)(ds:ByteArray)(ma:Option Addr)(mn mc:Nat)(F F':Nat->Prop)(w:World)(C:CF F w ⟨ck,cn,cs,la,ln,lc⟩ x)(D:CF F' w ⟨dk,dn,ds,ma,mn,mc⟩ y)(r:Int)(hr:cmpV x y=r)
  (hk:(ck !=dk)=true):
  Calls Tryz.prog 71 #[.agg #[ck,cn,cs,.slice la ln lc],.agg #[dk,dn,ds,.slice ma mn mc]] w fun e w'=>e= .returned (.int .i64 r)/\Below w w w'
  :=by
 rw[ydn]at hr;have E:ck=x.kind:=C.kind;have B:cn=x.num:=C.n;have A:cs=x.txt:=C.s;have I:dk=y.kind:=D.kind;have H:dn=y.num:=D.n;have G:ds=y.txt:=D.s;rw[<-E,<-B,<-A,<-I,<-H,<-G]at hr;clear E B A I H G;have O:=zh2 C D;clear C D;rw[hk]at hr;simp only[znm]at hr;have J:(ck==dk)=false:=by simpa using hk
 have K:=zhd hr;clear hr;have M:=zhd (fun W=>yh4 (decide (ck<dk)) W);have L:=zhd ((((znv w.heap.size w).alloc (znc _) (.cells #[ck,cn,cs,.slice la ln lc] 38)).alloc (by simp) (.cells #[dk,dn,ds,.slice ma mn mc] 38)));generalize hd:decide (ck<dk)=b at*;go_in;go_wp2_with fail;refine(M.o _).mono ?_;rintro e N ⟨rfl,rfl⟩;go_wp2;go_ret;exact⟨by rw[<-K.o];rfl,L.o⟩
theorem ynw (x y:Val)
  (ck cn:Int)(cs:ByteArray)(la:Option Addr)(ln lc:Nat)(dk dn:Int)(ds:ByteArray)(ma:Option Addr)(mn mc:Nat)(F F':Nat->Prop)(w:World)(C:CF F w ⟨ck,cn,cs,la,ln,lc⟩ x)(D:CF F' w ⟨dk,dn,ds,ma,mn,mc⟩ y)(r:Int)(hr:cmpV x y=r)
  (hk:ck=dk)(h1:ck=1):
  Calls Tryz.prog 71 #[.agg #[ck,cn,cs,.slice la ln lc],.agg #[dk,dn,ds,.slice ma mn mc]] w fun e w'=>e= .returned (.int .i64 r)/\Below w w w'
  :=by
 rw[ydn]at hr;have h1:ck=x.kind:=C.kind;have G:cn=x.num:=C.n;have E:cs=x.txt:=C.s;have J:dk=y.kind:=D.kind;have I:dn=y.num:=D.n;have H:ds=y.txt:=D.s;rw[<-h1,<-G,<-E,<-J,<-I,<-H]at hr;clear h1 G E J I H;have O:=zh2 C D;clear C D;have A:(ck !=dk)=false:=by rw[hk];simp
 rw[A]at hr;simp only[znl]at hr;subst hk;have K:=zhd ((((znv w.heap.size w).alloc (znc _) (.cells #[ck,cn,cs,.slice la ln lc] 38)).alloc (by simp) (.cells #[ck,dn,ds,.slice ma mn mc] 38)));clear A;subst h1;simp only[beq_self_eq_true,znm]at hr;cases hn:(cn !=dn)with
 |true=>
  rw[hn]at hr;simp only[znm]at hr;have L:(cn==dn)=false:=by simpa using hn
  have B:=zhd hr;clear hr;have M:=zhd (fun W=>yh4 (decide (cn<dn)) W);generalize hd:decide (cn<dn)=b at*;go_in;go_wp2_with fail;refine(M.o _).mono ?_;rintro e N ⟨rfl,rfl⟩;go_wp2;go_ret;exact⟨by rw[<-B.o];rfl,K.o⟩
 |false=>
  rw[hn]at hr;simp only[znl]at hr;obtain rfl:cn=dn:=by simpa using hn
  have B:=zhd hr;clear hr hn;go_in;go_wp2;go_ret;exact⟨by rw[<-B.o];rfl,K.o⟩
theorem ymg (x y:Val)
  (ck cn:Int)(cs:ByteArray)(la:Option Addr)(ln lc:Nat)(dk dn:Int)(ds:ByteArray)(ma:Option Addr)(mn mc:Nat)(F F':Nat->Prop)(w:World)(C:CF F w ⟨ck,cn,cs,la,ln,lc⟩ x)(D:CF F' w ⟨dk,dn,ds,ma,mn,mc⟩ y)(r:Int)(hr:cmpV x y=r)
  (hk:ck=dk)(h1:ck=2):
  Calls Tryz.prog 71 #[.agg #[ck,cn,cs,.slice la ln lc],.agg #[dk,dn,ds,.slice ma mn mc]] w fun e w'=>e= .returned (.int .i64 r)/\Below w w w'
  :=by
 rw[ydn]at hr;have h1:ck=x.kind:=C.kind;have E:cn=x.num:=C.n;have B:cs=x.txt:=C.s;have I:dk=y.kind:=D.kind;have H:dn=y.num:=D.n;have G:ds=y.txt:=D.s;rw[<-h1,<-E,<-B,<-I,<-H,<-G]at hr;clear h1 E B I H G;have O:=zh2 C D;clear C D;have A:(ck !=dk)=false:=by rw[hk];simp
 rw[A]at hr;simp only[znl]at hr;subst hk;have L:=zhd ((((znv w.heap.size w).alloc (znc _) (.cells #[ck,cn,cs,.slice la ln lc] 38)).alloc (by simp) (.cells #[ck,dn,ds,.slice ma mn mc] 38)));clear A;subst h1;have J:((2:Int)==1)=false:=rfl;rw[J]at hr;simp only[beq_self_eq_true,znm,znl]at hr;have M:=zhd (fun W=>Any.strings_Compare Tryz.lays106 cs ds W);have K:=zhd hr;clear hr J;go_in;go_wp2_with fail;refine(M.o _).mono ?_;rintro e N ⟨rfl,rfl⟩;go_wp2;go_ret;exact⟨by rw[<-K.o];rfl,L.o⟩
theorem ykX (x y:Val)
  (ck cn:Int)(cs:ByteArray)(la:Option Addr)(ln lc:Nat)(dk dn:Int)(ds:ByteArray)(ma:Option Addr)(mn mc:Nat)(F F':Nat->Prop)(w:World)(C:CF F w ⟨ck,cn,cs,la,ln,lc⟩ x)(D:CF F' w ⟨dk,dn,ds,ma,mn,mc⟩ y)(r:Int)(hr:cmpV x y=r)
  (hk:ck=dk)(h1:(ck==1)=false)(h2:(ck==2)=false)(h3:(ck==3)=false):
  Calls Tryz.prog 71 #[.agg #[ck,cn,cs,.slice la ln lc],.agg #[dk,dn,ds,.slice ma mn mc]] w fun e w'=>e= .returned (.int .i64 r)/\Below w w w'
  :=by
 rw[ydn]at hr;have h1:ck=x.kind:=C.kind;have h2:cn=x.num:=C.n;have h3:cs=x.txt:=C.s;have G:dk=y.kind:=D.kind;have E:dn=y.num:=D.n;have B:ds=y.txt:=D.s;rw[<-h1,<-h2,<-h3,<-G,<-E,<-B]at hr;clear h1 h2 h3 G E B;have J:=zh2 C D;clear C D;have A:(ck !=dk)=false:=by rw[hk];simp
 rw[A]at hr;simp only[znl]at hr;subst hk;have I:=zhd ((((znv w.heap.size w).alloc (znc _) (.cells #[ck,cn,cs,.slice la ln lc] 38)).alloc (by simp) (.cells #[ck,dn,ds,.slice ma mn mc] 38)));clear A;rw[h1,h2,h3]at hr;simp only[znl]at hr;have H:=zhd hr;clear hr;go_in;go_wp2;go_ret;exact⟨by rw[<-H.o];rfl,I.o⟩
def yqq (w2:World)(x y:Val)(r:Int)(gk:Nat)(v46:Value)(wr:World):Prop:=
 ∃i:Nat,v46= .int .i64 i/\i<=x.list.length/\i<=y.list.length/\gk=x.list.length - i/\cmpV.cmpLs (x.list.drop i) (y.list.drop i)=r/\Below w2 w2 wr
theorem ymh (n:Nat)(IH:∀(x:Val),x.parts<=n->∀(y:Val) (c d:VC) (F F':Nat->Prop) (w:World),CF F w c x->CF F' w d y->
   Calls Tryz.prog 71 #[.agg #[c.kind,c.n,c.s,.slice c.la c.ln c.lc],.agg #[d.kind,d.n,d.s,.slice d.la d.ln d.lc]] w fun e w'=>e= .returned (.int .i64 (cmpV x y))/\Below w w w')
  (x y:Val)
  (ck cn:Int)(cs:ByteArray)(la:Option Addr)(ln lc:Nat)(dk dn:Int)(ds:ByteArray)(ma:Option Addr)(mn mc:Nat)(F F':Nat->Prop)(w:World)(C:CF F w ⟨ck,cn,cs,la,ln,lc⟩ x)(D:CF F' w ⟨dk,dn,ds,ma,mn,mc⟩ y)(r:Int)(hr:cmpV x y=r)
  (hk:ck=dk)(h1:ck=3)(hx:x.parts<=n+1)(g off g' off':Nat)
  (hel:ln=x.list.length/\ln<=maxLen/\(∀(i:Nat) (z:Val),x.list[i]? =some z->F g/\g<w/\∃c,CF F w c z/\
    w.cell? ⟨g,off+i*4,none⟩=some (.int .i64 c.kind)/\w.cell? ⟨g,off+i*4+1,none⟩=some (.int .i64 c.n)/\w.cell? ⟨g,off+i*4+2,none⟩=some (.string c.s)/\w.cell? ⟨g,off+i*4+3,none⟩=some (.slice c.la c.ln c.lc)))(hla:la=some ⟨g,off,none⟩\/x.list=[])
  (hem:mn=y.list.length/\mn<=maxLen/\(∀(i:Nat) (z:Val),y.list[i]? =some z->F' g'/\g'<w.heap.size/\∃c,CF F' w c z/\
    w.cell? ⟨g',off'+i*4,none⟩=some (.int .i64 c.kind)/\w.cell? ⟨g',off'+i*4+1,none⟩=some (.int .i64 c.n)/\w.cell? ⟨g',off'+i*4+2,none⟩=some (.string c.s)/\w.cell? ⟨g',off'+i*4+3,none⟩=some (.slice c.la c.ln c.lc)))(hma:ma=some ⟨g',off',none⟩\/y.list=[]):
  Calls Tryz.prog 71 #[.agg #[ck,cn,cs,.slice la ln lc],.agg #[dk,dn,ds,.slice ma mn mc]] w fun e w'=>e= .returned (.int .i64 r)/\Below w w w'
  :=by
 rw[ydn]at hr;have h1:ck=x.kind:=C.kind;have h2:cn=x.num:=C.n;have h3:cs=x.txt:=C.s;have g1:dk=y.kind:=D.kind;have g2:dn=y.num:=D.n;have g3:ds=y.txt:=D.s;rw[<-h1,<-h2,<-h3,<-g1,<-g2,<-g3]at hr;clear h1 h2 h3 g1 g2 g3;have HC:=zh2 C D;clear C D;have Y:(ck !=dk)=false:=by rw[hk];simp
 rw[Y]at hr;simp only[znl]at hr;subst hk;have HB:=zhd ((((znv w.heap.size w).alloc (znc _) (.cells #[ck,cn,cs,.slice la ln lc] 38)).alloc (by simp) (.cells #[ck,dn,ds,.slice ma mn mc] 38)));clear Y;subst h1;have e1:((3:Int)==1)=false:=rfl;have e2:((3:Int)==2)=false:=rfl;rw[e1,e2]at hr;simp only[beq_self_eq_true,znm,znl]at hr;obtain⟨X,Ae,hel⟩:=hel;obtain⟨V,Ac,hem⟩:=hem;have HR:=zhd hr;have HE:=zh2 hel hem;have Q:=zh2 X V;have h:=zh2 hla hma;have HI:=zhd IH;unfold maxLen at Ae Ac;clear hr e1 e2 hel hem X V hla hma IH;go_in;go_wp2_with fail;obtain⟨M,K⟩:∃M,M=(w.alloc (.cells #[.int .i64 3,cn,cs,.slice la ln lc] 38)).alloc (.cells #[.int .i64 3,dn,ds,.slice ma mn mc] 38):=⟨_,rfl⟩;have p3:M.cell? ⟨w,3,none⟩=some (.slice la ln lc):=by rw[K,zch yaG];rfl
 have m:M.cell? ⟨w.heap.size+1,3,none⟩=some (.slice ma mn mc):=by rw[K,zch yar];rfl
 have U:M.heap.size=w.heap.size+2:=by rw[K];simp
 rw[<-K]at HB|-;have R:=zh3 p3 m U;clear K p3 m U;go_loopg [46] (x.list.length) (fun gk v46 wr=>yqq M x y r gk v46 wr)
 case atStart=>exact⟨0,rfl,znq _,znq _,rfl,HR.o,znv _ _⟩
 case round=>
  obtain⟨i,rfl,hi,hj,L,A,O⟩:=hrel;have b1:=O.size;have s1:w.heap.size+1<wr.heap.size:=by have:=R.o.2.2;omega
  have s0:w<wr.heap.size:=by omega
  have p3:wr.cell? ⟨w,3,none⟩=some (.slice la ln lc):=by rw[O.cell (p:=⟨w,3,none⟩) (show w<M.heap.size by have:=R.o.2.2;omega)];exact R.o.1
  have m:wr.cell? ⟨w.heap.size+1,3,none⟩=some (.slice ma mn mc):=by rw[O.cell (p:=⟨w.heap.size+1,3,none⟩) (show w.heap.size+1<M.heap.size by have:=R.o.2.2;omega)];exact R.o.2.1
  have G:=HB.o.trans (O.mono (show w<=M.heap.size by have:=R.o.2.2;omega));by_cases hin:i<ln
  .obtain⟨z,J⟩:=yac (l:=x.list) (k:=i) (by have:=Q.o.1;omega)
   obtain⟨Am,hg,H,hC,q0,q1,q2,q3⟩:=HE.o.1 i z J;have Ai:(i:Int)<ln:=by omega
   have hla:la=some ⟨g,off,none⟩:=h.o.1.resolve_right (fun e=>by rw[e]at J;simp at J);rw[<-G.cell (p:=⟨g,_,none⟩) hg]at q0 q1 q2 q3;have N:x.list.drop i=z::x.list.drop (i+1):=by
    rw[znr (zge J).1,(zge J).2]
   have Ak:g<wr:=by omega
   subst hla;by_cases hjn:i<mn
   .obtain⟨u,P⟩:=yac (l:=y.list) (k:=i) (by have:=Q.o.2;omega)
    obtain⟨Al,hm,d',hD,m0,m1,m2,m3⟩:=HE.o.2 i u P;have Ah:((i:Int)==mn)=false:=by rw[zna];omega
    have Ag:(i:Int)<mn:=by omega
    have hma:ma=some ⟨g',off',none⟩:=h.o.2.resolve_right (fun e=>by rw[e]at P;simp at P);rw[<-G.cell (p:=⟨g',_,none⟩) hm]at m0 m1 m2 m3;have Z:y.list.drop i=u::y.list.drop (i+1):=by
     rw[znr (zge P).1,(zge P).2]
    have Ad:g'<wr.heap.size:=by omega
    rw[N,Z,ygm]at A;have CW:=zhd (fun W (hW:Below wr wr W)=>HI.o z (by have:=Val.parts_lt (v:=x) (zmg J);omega) u H d' _ _ W (hC.keep (S:=fun _=>False) (zkb (G.trans (hW.mono G.size))) (fun _ _ f=>f)) (hD.keep (S:=fun _=>False) (zkb (G.trans (hW.mono G.size))) (fun _ _ f=>f)));generalize cmpV z u=cv at*;have B:=zh8 A O L G hj hi (zge J).1 (zge P).1;subst hma;clear A O L G J P hC hD N Z;go_wp2_with fail;obtain⟨I,E⟩:∃I,I=wr.alloc (.cells #[H.kind,H.n,H.s,.slice H.la H.ln H.lc] 38):=⟨_,rfl⟩;have q:=zba E;have T:I.heap.size=wr.heap.size+1:=by rw[E];simp
    have z0:I.cell? ⟨wr,0,none⟩=some (.int .i64 H.kind):=by rw[E,zch (znb _ _)];rfl
    have z1:I.cell? ⟨wr,1,none⟩=some (.int .i64 H.n):=by rw[E,zch (znb _ _)];rfl
    have z2:I.cell? ⟨wr,2,none⟩=some (.string H.s):=by rw[E,zch (znb _ _)];rfl
    have z3:I.cell? ⟨wr,3,none⟩=some (.slice H.la H.ln H.lc):=by rw[E,zch (znb _ _)];rfl
    rw[<-E];have t:=zh2 q T;have l6:wr<I.heap.size:=by omega
    rw[<-q.cell (p:=⟨g',_,none⟩) Ad]at m0 m1 m2 m3;rw[<-q.cell (p:=⟨w.heap.size+1,3,none⟩) s1]at m;have Af:g'<I.heap.size:=by omega
    have Aj:w.heap.size+1<I.heap.size:=by omega
    clear E q T;refine yaF (by kernel_rfl) (by kernel_rfl) ?_
    repeat(go_big_quiet_step ((go_at_call 71;exact ydQ (CW.o _ ((t.o.1.trans ((Subtype.property _:Below I I _).mono (by have:=t.o.2;omega))))))))
    refine wpQuiet_nil ?_;intro w7 b;have j:=zhd (t.o.1.trans (b.mono (by have:=t.o.2;omega)));clear b CW;cases J:(cv !=0)with
    |true=>
     have A:=B.o.1;rw[J]at A;simp only[znm]at A;have HM:=zhd A;clear A;go_wp2;go_ret;exact⟨by rw[<-HM.o];rfl,B.o.2.2.2.1.trans (j.o.mono B.o.2.2.2.1.size)⟩
    |false=>
     have A:=B.o.1;rw[J]at A;simp only[znl]at A;have HM:=zhd A;clear A;go_wp2_with fail;go_roundg (x.list.length - (i+1))
     case measure=>have:=B.o.2.2.1;have:=B.o.2.2.2.2.2.2.1;omega
     case rel=>exact⟨i+1,by simp,B.o.2.2.2.2.2.2.1,B.o.2.2.2.2.2.2.2,rfl,HM.o,B.o.2.1.trans (j.o.mono B.o.2.1.size)⟩
   .obtain rfl:i=mn:=by have:=Q.o.2;omega
    have Aa:y.list.drop i=[]:=zns (by have:=Q.o.2;omega);rw[N,Aa,yiv]at A;have B:=zh2 A G;clear A O L G J hC N;go_wp2;go_ret;exact⟨by rw[<-B.o.1];rfl,B.o.2.alloc (by have:=B.o.2.size;omega) _⟩
  .obtain rfl:i=ln:=by have:=Q.o.1;omega
   have Ab:x.list.drop i=[]:=zns (by have:=Q.o.1;omega);rw[Ab,yfF]at A;have a:(y.list.drop i).length=mn - i:=by rw[List.length_drop,<-Q.o.2]
   rw[a]at A;clear a;by_cases hlt:i<mn
   .have e3:(i:Int)<mn:=by omega
    have e4:decide (i<mn)=true:=by rw[decide_eq_true_eq];exact hlt
    rw[show decide (0<mn - i)=true from by rw[decide_eq_true_eq];omega]at A;have B:=zh2 A G;clear A O L G;go_wp2;go_ret;exact⟨by rw[<-B.o.1];rfl,B.o.2⟩
   .have e3:¬(i:Int)<mn:=by omega
    have e4:decide (i<mn)=false:=by rw[znz];exact hlt
    rw[show decide (0<mn - i)=false from by rw[znz];omega]at A;have B:=zh2 A G;clear A O L G;go_wp2;go_ret;exact⟨by rw[<-B.o.1];rfl,B.o.2⟩
theorem ycP:∀(n:Nat) (x:Val),x.parts<=n->∀(y:Val) (c d:VC) (F F':Nat->Prop) (w:World),CF F w c x->CF F' w d y->
   Calls Tryz.prog 71 #[.agg #[c.kind,c.n,c.s,.slice c.la c.ln c.lc],.agg #[d.kind,d.n,d.s,.slice d.la d.ln d.lc]] w fun e w'=>e= .returned (.int .i64 (cmpV x y))/\Below w w w'
 |0,x,hx,_,_,_,_,_,_,_,_=>by have:=x.parts_pos;omega
 |n+1,x,hx,y,⟨ck,cn,cs,la,ln,lc⟩,⟨dk,dn,ds,ma,mn,mc⟩,F,F',w,C,D=>by
  by_cases hk:ck=dk
  .by_cases k1:ck=1
   .exact ynw x y ck cn cs la ln lc dk dn ds ma mn mc F F' w C D _ rfl hk k1
   .by_cases k2:ck=2
    .exact ymg x y ck cn cs la ln lc dk dn ds ma mn mc F F' w C D _ rfl hk k2
    .by_cases k3:ck=3
     .obtain⟨M,L,B⟩:=C.l.elems
      obtain⟨P,O,N⟩:=D.l.elems;have K:∃g A,(la=some ⟨g,A,none⟩\/x.list=[])/\(∀(i:Nat) (z:Val),x.list[i]? =some z->F g/\g<w.heap.size/\∃c,CF F w c z/\
        w.cell? ⟨g,A+i*4,none⟩=some (.int .i64 c.kind)/\w.cell? ⟨g,A+i*4+1,none⟩=some (.int .i64 c.n)/\w.cell? ⟨g,A+i*4+2,none⟩=some (.string c.s)/\w.cell? ⟨g,A+i*4+3,none⟩=some (.slice c.la c.ln c.lc)):=by
       rcases B with B|⟨g,A,E,G,I,B⟩
       .exact⟨0,0,.inr B,fun i y hy=>by rw[B]at hy;simp at hy⟩
       .exact⟨g,A,.inl E,fun i y hy=>⟨G,I,B i y hy⟩⟩
      have J:∃g A,(ma=some ⟨g,A,none⟩\/y.list=[])/\(∀(i:Nat) (z:Val),y.list[i]? =some z->F' g/\g<w.heap.size/\∃c,CF F' w c z/\
        w.cell? ⟨g,A+i*4,none⟩=some (.int .i64 c.kind)/\w.cell? ⟨g,A+i*4+1,none⟩=some (.int .i64 c.n)/\w.cell? ⟨g,A+i*4+2,none⟩=some (.string c.s)/\w.cell? ⟨g,A+i*4+3,none⟩=some (.slice c.la c.ln c.lc)):=by
       rcases N with B|⟨g,A,E,G,I,B⟩
       .exact⟨0,0,.inr B,fun i y hy=>by rw[B]at hy;simp at hy⟩
       .exact⟨g,A,.inl E,fun i y hy=>⟨G,I,B i y hy⟩⟩
      obtain⟨g,A,U,T⟩:=K;obtain⟨Q,H,S,R⟩:=J;exact ymh n (fun y hy=>ycP n y hy) x y ck cn cs la ln lc dk dn ds ma mn mc F F' w C D _ rfl hk k3 hx g A Q H ⟨M,L,T⟩ U ⟨P,O,R⟩ S
     .exact ykX x y ck cn cs la ln lc dk dn ds ma mn mc F F' w C D _ rfl hk (beq_eq_false_iff_ne.2 k1) (beq_eq_false_iff_ne.2 k2) (beq_eq_false_iff_ne.2 k3)
  .exact ymi x y ck cn cs la ln lc dk dn ds ma mn mc F F' w C D _ rfl (by simpa using hk)
theorem ydJ (x y:Val)(c d:VC)(F F':Nat->Prop)(w:World)(C:CF F w c x)(D:CF F' w d y)(b:Bool)(hb:(cmpV x y==0)=b):
  Calls Tryz.prog 33 #[.agg #[c.kind,c.n,c.s,.slice c.la c.ln c.lc],.agg #[d.kind,d.n,d.s,.slice d.la d.ln d.lc]] w fun e w'=>e= .returned (.bool b)/\Below w w w':=by
 have A:Keeps (fun _=>False) w ((w.alloc (.cells #[c.kind,c.n,c.s,.slice c.la c.ln c.lc] 38)).alloc (.cells #[d.kind,d.n,d.s,.slice d.la d.ln d.lc] 38)):=((Keeps.refl _ _).alloc _).alloc _;have CC:=zhd (ycP x.parts x (znc _) y c d F F' _ (C.keep A (fun _ _ f=>f)) (D.keep A (fun _ _ f=>f)));have G:=zhd (A.below (B:=w.heap.size) (znc _) (fun _ _ f=>f));clear C D A;generalize cmpV x y=v at*;go_in;go_wp2_with fail;refine CC.o.mono ?_;rintro e I ⟨rfl,E⟩;have H:=zhd (G.o.trans (E.mono (by simp;omega)));clear E;go_wp2;go_ret;exact⟨rfl,H.o⟩
end Go.Proofs.YtpagmlndgblhhaaGreatDoor
