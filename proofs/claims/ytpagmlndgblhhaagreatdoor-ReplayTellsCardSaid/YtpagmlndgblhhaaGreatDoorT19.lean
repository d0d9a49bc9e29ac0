/- Parts of the proof: what the functions and the plain laws give that later parts lean on. Conditions: none beyond those that each theorem names. -/
import Derived.Lib.IndexMore
import Derived.Test.YtpagmlndgblhhaaGreatDoorT18
set_option maxRecDepth 100000
set_option maxHeartbeats 8000000
namespace Go.Proofs.YtpagmlndgblhhaaGreatDoor
open Go.RowKit Go.Own Go.Own.MapTy Go.Va Go.Sort
open Go.Own.Cells (sz enc)
def SP (Z:Nat->Prop)(W:World)(b:Nat)(v:MV)(p:Img)(s:MS)(r:Option MS)(e:Ending)(w':World):Prop:=match r with
 |none=>MP Z W b v p (.bool false) s e w'
 |some s'=>MP Z W b v p (.bool true) s' e w'
structure Bd (s:MS):Prop where
 stk:s.stk.length<=32
 made:s.made.length<=4294967295
 let_:s.letters.length<=4294967296
 opn:opn s<=64
 at_:s.at_<=513
theorem yiH
  {Z:Nat->Prop}(b:Nat)(v:MV)(p:Img)(s:MS)(W:World)(M:MX TT Z W b v p s)
  (k:Nat)(nm:ByteArray)(B:Bd s)(hZ:∀j,W.heap.size<=j->Z j)
  :Calls Tryz.prog 156 #[.pointer (some ⟨b,0,none⟩),.agg #[.int .i64 18,k]] W (SP Z W b v p s (s.wait 18 nm)):=by
 have F:=B.stk;have E:=B.made;have C:=B.opn;have D:=B.at_;unfold opn at C;have e:s.wait 18 nm=match(if s.top.kind=1 then yav s.top.num s.timers.list else none)with
  |none=>some s.tGone
  |some i=>bif !(s.timers.list[i]?.getD ⟨0,false,yag,0⟩).over then none else some (({s.pop with timers:=⟨s.timers.list.eraseIdx i,s.timers.next⟩}:MS).push (ybw s.now)).nxt:=rfl
 rw[e];by_cases hx:s.top.kind=1
 .rw[if_pos hx]
  cases hf:yav s.top.num s.timers.list with
  |none=>exact yd0 b v p s W M k (.inr hf) (by omega) hZ _ rfl
  |some i=>
   obtain⟨x,A⟩:=findT_some hf;dsimp only;rw[A];dsimp only[Option.getD];cases hov:x.over with
   |true=>exact yiD b v p s W M k i x hx hf A hov (by omega) (by omega) (by omega) hZ _ rfl
   |false=>exact ygM b v p s W M k i x hx hf A hov
 .rw[if_neg hx]
  exact yd0 b v p s W M k (.inl hx) (by omega) hZ _ rfl
theorem yiG
  {Z:Nat->Prop}(b:Nat)(v:MV)(p:Img)(s:MS)(W:World)(M:MX TT Z W b v p s)
  (k:Nat)(nm:ByteArray)(B:Bd s)(hZ:∀j,W.heap.size<=j->Z j)
  :Calls Tryz.prog 156 #[.pointer (some ⟨b,0,none⟩),.agg #[.int .i64 21,k]] W (SP Z W b v p s (s.wait 21 nm)):=by
 have F:=B.stk;have E:=B.made;have C:=B.opn;have D:=B.at_;unfold opn at C;have e:s.wait 21 nm=match(if s.top.kind=1 then yav s.top.num s.acts.list else none)with
  |none=>some s.tGone
  |some i=>bif !(s.acts.list[i]?.getD ⟨0,false,yag,0⟩).over then none else some ((({s.pop with acts:=⟨s.acts.list.eraseIdx i,s.acts.next⟩}:MS).push (s.acts.list[i]?.getD ⟨0,false,yag,0⟩).result).push (ybw (s.acts.list[i]?.getD ⟨0,false,yag,0⟩).how)).nxt:=rfl
 rw[e];by_cases hx:s.top.kind=1
 .rw[if_pos hx]
  cases hf:yav s.top.num s.acts.list with
  |none=>exact ydZ b v p s W M k (.inr hf) (by omega) hZ _ rfl
  |some i=>
   obtain⟨x,A⟩:=findT_some hf;dsimp only;rw[A];dsimp only[Option.getD];cases hov:x.over with
   |true=>exact ylm b v p s W M k i x hx hf A hov (by omega) (by omega) (by omega) hZ _ rfl
   |false=>exact ygL b v p s W M k i x hx hf A hov
 .rw[if_neg hx]
  exact ydZ b v p s W M k (.inl hx) (by omega) hZ _ rfl
theorem yiF
  {Z:Nat->Prop}(b:Nat)(v:MV)(p:Img)(s:MS)(W:World)(M:MX TT Z W b v p s)
  (k:Nat)(nm:ByteArray)(B:Bd s)(hZ:∀j,W.heap.size<=j->Z j)
  (hnm:p.names[k]? =some nm):
  Calls Tryz.prog 156 #[.pointer (some ⟨b,0,none⟩),.agg #[.int .i64 22,k]] W (SP Z W b v p s (s.wait 22 nm)):=by
 have D:=B.stk;have C:=B.made;have A:=B.at_;have e:s.wait 22 nm=(yap nm s.letters).map (fun i=>((s.openL i).push (s.letV i)).nxt):=rfl;rw[e];cases hf:yap nm s.letters with
 |none=>exact yfi b v p s W M k nm hnm hf
 |some i=>exact ylk b v p s W M k nm hnm i hf (by omega) B.let_ (by omega) hZ _ rfl
theorem yiE
  {Z:Nat->Prop}(b:Nat)(v:MV)(p:Img)(s:MS)(W:World)(M:MX TT Z W b v p s)
  (k:Nat)(nm:ByteArray)(B:Bd s)(hZ:∀j,W.heap.size<=j->Z j)
  (hnm:p.names[k]? =some nm):
  Calls Tryz.prog 156 #[.pointer (some ⟨b,0,none⟩),.agg #[.int .i64 28,k]] W (SP Z W b v p s (s.wait 28 nm)):=by
 have F:=B.stk;have E:=B.made;have C:=B.opn;have D:=B.at_;unfold opn at C;have e:s.wait 28 nm=match(if s.top.kind=1 then yav s.top.num s.timers.list else none)with
  |none=>some s.tGone
  |some i=>match yap nm s.letters with
   |some k=>some (((s.pop.openL k).push (s.letV k)).push (yaK true)).nxt
   |none=>bif !(s.timers.list[i]?.getD ⟨0,false,yag,0⟩).over then none else some ((({s.pop with timers:=⟨s.timers.list.eraseIdx i,s.timers.next⟩}:MS).push yag).push (yaK false)).nxt:=rfl
 rw[e];by_cases hx:s.top.kind=1
 .rw[if_pos hx]
  cases hf:yav s.top.num s.timers.list with
  |none=>exact ydY b v p s W M k (.inr hf) (by omega) hZ _ rfl
  |some i=>
   obtain⟨x,A⟩:=findT_some hf;dsimp only;rw[A];dsimp only[Option.getD];cases hlt:yap nm s.letters with
   |some j=>exact ygN b v p s W M k i j x nm hnm hlt hx hf A (by omega) B.let_ (by omega) hZ _ rfl
   |none=>
    cases hov:x.over with
    |true=>exact ygO b v p s W M k i x hx hf A hov (by omega) (by omega) (by omega) hZ _ nm hnm hlt rfl
    |false=>exact ygK b v p s W M k i x nm hnm hlt hx hf A hov
 .rw[if_neg hx]
  exact ydY b v p s W M k (.inl hx) (by omega) hZ _ rfl
theorem yhE
  {Z:Nat->Prop}(b:Nat)(v:MV)(p:Img)(s:MS)(W:World)(M:MX TT Z W b v p s)
  (k:Nat)(nm:ByteArray)(B:Bd s)(hZ:∀j,W.heap.size<=j->Z j)
  (V:Vs s):Calls Tryz.prog 163 #[.pointer (some ⟨b,0,none⟩),.agg #[.int .i64 19,k]] W (MP Z W b v p (.bool true) (s.begin_ 19 nm)):=by
 have G:=B.stk;have F:=B.made;have C:=B.opn;have D:=V.nt;have E:=V.na;unfold opn at C;have e:s.begin_ 19 nm=match(if s.top.kind=1 then yav s.top.num s.timers.list else none)with
  |none=>s.pop.tGone
  |some i=>(bif (s.timers.list[i]?.getD ⟨0,false,yag,0⟩).over then({s.pop with timers:=⟨s.timers.list.eraseIdx i,s.timers.next⟩}:MS)else({s.pop with timers:=⟨s.timers.list.eraseIdx i,s.timers.next⟩}:MS).want ⟨2,0,s.top.num,0,⟨#[]⟩,yag⟩).push (yaK (!(s.timers.list[i]?.getD ⟨0,false,yag,0⟩).over)):=rfl
 rw[e];by_cases hx:s.top.kind=1
 .rw[if_pos hx]
  cases hf:yav s.top.num s.timers.list with
  |none=>exact yfg b v p s W M k (by omega) (by omega) hZ _ (.inr hf) rfl
  |some i=>
   obtain⟨x,A⟩:=findT_some hf;dsimp only;rw[A];dsimp only[Option.getD];cases hov:x.over with
   |true=>exact ydq b v p s W M k (by omega) (by omega) hZ _ i x hx hf A hov (by omega) rfl
   |false=>exact ygw b v p s W M k (by omega) (by omega) hZ _ i x hx hf A hov (by omega) rfl
 .rw[if_neg hx]
  exact yfg b v p s W M k (by omega) (by omega) hZ _ (.inl hx) rfl
theorem yhF
  {Z:Nat->Prop}(b:Nat)(v:MV)(p:Img)(s:MS)(W:World)(M:MX TT Z W b v p s)
  (k:Nat)(nm:ByteArray)(B:Bd s)(hZ:∀j,W.heap.size<=j->Z j)
  (V:Vs s):Calls Tryz.prog 163 #[.pointer (some ⟨b,0,none⟩),.agg #[.int .i64 17,k]] W (MP Z W b v p (.bool true) (s.begin_ 17 nm)):=by
 have G:=B.stk;have F:=B.made;have A:=B.opn;have D:=V.nt;have E:=V.na;unfold opn at A;have e:s.begin_ 17 nm=if s.top.kind≠1\/s.top.num<0\/((17:Int)=20/\1073741824<s.top.num)then s.pop.tRange else
  if 64<=s.timers.list.length+s.acts.list.length then s.pop.tMany else
  (({s.pop with timers:=ycl s.timers}:MS).want ⟨1,0,s.timers.next+1,s.top.num,⟨#[]⟩,yag⟩).push (ybw (s.timers.next+1)):=rfl
 rw[e];have C:=((Val.wf_eq _).1 V.top.2).2.1;by_cases hx:s.top.kind≠1\/s.top.num<0\/((17:Int)=20/\1073741824<s.top.num)
 .rw[if_pos hx]
  exact yfI b v p s W M k (by omega) (by omega) hZ _ (by omega) rfl
 .rw[if_neg hx]
  by_cases hm:64<=s.timers.list.length+s.acts.list.length
  .rw[if_pos hm]
   exact ygv b v p s W M k (by omega) (by omega) hZ _ (by omega) (by omega) (by omega) hm rfl
  .rw[if_neg hm]
   exact yhC b v p s W M k (by omega) (by omega) hZ _ (by omega) (by omega) (by omega) hm (by omega) rfl
theorem yhD
  {Z:Nat->Prop}(b:Nat)(v:MV)(p:Img)(s:MS)(W:World)(M:MX TT Z W b v p s)
  (k:Nat)(nm:ByteArray)(B:Bd s)(hZ:∀j,W.heap.size<=j->Z j)
  (hnm:p.names[k]? =some nm)(V:Vs s):Calls Tryz.prog 163 #[.pointer (some ⟨b,0,none⟩),.agg #[.int .i64 20,k]] W (MP Z W b v p (.bool true) (s.begin_ 20 nm)):=by
 have G:=B.stk;have F:=B.made;have C:=B.opn;have D:=V.nt;have E:=V.na;unfold opn at C;have e:s.begin_ 20 nm=if s.top.kind≠1\/s.top.num<0\/((20:Int)=20/\1073741824<s.top.num)then s.pop.tRange else
  if 64<=s.timers.list.length+s.acts.list.length then s.pop.tMany else
  (({s.pop.pop with acts:=ycl s.acts}:MS).want ⟨3,0,s.acts.next+1,s.top.num,nm,s.pop.top⟩).push (ybw (s.acts.next+1)):=rfl
 rw[e];have A:=ycZ V.pop.top;by_cases hx:s.top.kind≠1\/s.top.num<0\/((20:Int)=20/\1073741824<s.top.num)
 .rw[if_pos hx]
  exact yfH b v p s W M k (by omega) (by omega) hZ _ (by omega) rfl
 .rw[if_neg hx]
  by_cases hm:64<=s.timers.list.length+s.acts.list.length
  .rw[if_pos hm]
   exact ygu b v p s W M k (by omega) (by omega) hZ _ (by omega) (by omega) (by omega) hm rfl
  .rw[if_neg hm]
   exact yjt b v p s W M k (by omega) (by omega) hZ _ nm hnm (by omega) (by omega) (by omega) hm (by omega) (by omega) rfl
theorem yg4
  {Z:Nat->Prop}(b:Nat)(v:MV)(p:Img)(s:MS)(W:World)(M:MX TT Z W b v p s)
  (k:Nat)(B:Bd s)(hZ:∀j,W.heap.size<=j->Z j):Calls Tryz.prog 164 #[.pointer (some ⟨b,0,none⟩),.agg #[.int .i64 5,k]] W (MP Z W b v p (.bool true) (s.reckon 5 k)):=by
 have C:=B.stk;have A:=B.made;have e:s.reckon 5 k=if s.pop.top.kind≠1\/s.top.kind≠1 then s.pop.pop.tType else s.pop.pop.push (ybw (wrap64 (s.pop.top.num+s.top.num))):=rfl;rw[e];by_cases hx:s.pop.top.kind≠1\/s.top.kind≠1
 .rw[if_pos hx]
  exact ygZ b v p s W M k (by omega) (by omega) hZ _ hx rfl
 .rw[if_neg hx]
  exact yiZ b v p s W M k (by omega) (by omega) hZ _ (by omega) (by omega) rfl
theorem yg3
  {Z:Nat->Prop}(b:Nat)(v:MV)(p:Img)(s:MS)(W:World)(M:MX TT Z W b v p s)
  (k:Nat)(B:Bd s)(hZ:∀j,W.heap.size<=j->Z j):Calls Tryz.prog 164 #[.pointer (some ⟨b,0,none⟩),.agg #[.int .i64 6,k]] W (MP Z W b v p (.bool true) (s.reckon 6 k)):=by
 have C:=B.stk;have A:=B.made;have e:s.reckon 6 k=if s.pop.top.kind≠1\/s.top.kind≠1 then s.pop.pop.tType else s.pop.pop.push (ybw (wrap64 (s.pop.top.num - s.top.num))):=rfl;rw[e];by_cases hx:s.pop.top.kind≠1\/s.top.kind≠1
 .rw[if_pos hx]
  exact ygY b v p s W M k (by omega) (by omega) hZ _ hx rfl
 .rw[if_neg hx]
  exact yiY b v p s W M k (by omega) (by omega) hZ _ (by omega) (by omega) rfl
theorem yg2
  {Z:Nat->Prop}(b:Nat)(v:MV)(p:Img)(s:MS)(W:World)(M:MX TT Z W b v p s)
  (k:Nat)(B:Bd s)(hZ:∀j,W.heap.size<=j->Z j):Calls Tryz.prog 164 #[.pointer (some ⟨b,0,none⟩),.agg #[.int .i64 7,k]] W (MP Z W b v p (.bool true) (s.reckon 7 k)):=by
 have C:=B.stk;have A:=B.made;have e:s.reckon 7 k=if s.pop.top.kind≠1\/s.top.kind≠1 then s.pop.pop.tType else s.pop.pop.push (ybw (wrap64 (s.pop.top.num*s.top.num))):=rfl;rw[e];by_cases hx:s.pop.top.kind≠1\/s.top.kind≠1
 .rw[if_pos hx]
  exact ygX b v p s W M k (by omega) (by omega) hZ _ hx rfl
 .rw[if_neg hx]
  exact yiX b v p s W M k (by omega) (by omega) hZ _ (by omega) (by omega) rfl
theorem yfW
  {Z:Nat->Prop}(b:Nat)(v:MV)(p:Img)(s:MS)(W:World)(M:MX TT Z W b v p s)
  (k:Nat)(B:Bd s)(hZ:∀j,W.heap.size<=j->Z j):Calls Tryz.prog 164 #[.pointer (some ⟨b,0,none⟩),.agg #[.int .i64 10,k]] W (MP Z W b v p (.bool true) (s.reckon 10 k)):=by
 have C:=B.stk;have A:=B.made;exact yiW b v p s W M k (by omega) (by omega) hZ _ rfl
theorem yg1
  {Z:Nat->Prop}(b:Nat)(v:MV)(p:Img)(s:MS)(W:World)(M:MX TT Z W b v p s)
  (k:Nat)(B:Bd s)(hZ:∀j,W.heap.size<=j->Z j):Calls Tryz.prog 164 #[.pointer (some ⟨b,0,none⟩),.agg #[.int .i64 8,k]] W (MP Z W b v p (.bool true) (s.reckon 8 k)):=by
 have C:=B.stk;have A:=B.made;exact ygU b v p s W M k (by omega) (by omega) hZ _ rfl
theorem yg0
  {Z:Nat->Prop}(b:Nat)(v:MV)(p:Img)(s:MS)(W:World)(M:MX TT Z W b v p s)
  (k:Nat)(B:Bd s)(hZ:∀j,W.heap.size<=j->Z j):Calls Tryz.prog 164 #[.pointer (some ⟨b,0,none⟩),.agg #[.int .i64 9,k]] W (MP Z W b v p (.bool true) (s.reckon 9 k)):=by
 have C:=B.stk;have A:=B.made;exact ygW b v p s W M k (by omega) (by omega) hZ _ rfl
theorem yfT
  {Z:Nat->Prop}(b:Nat)(v:MV)(p:Img)(s:MS)(W:World)(M:MX TT Z W b v p s)
  (k:Nat)(B:Bd s)(hZ:∀j,W.heap.size<=j->Z j):Calls Tryz.prog 164 #[.pointer (some ⟨b,0,none⟩),.agg #[.int .i64 31,k]] W (MP Z W b v p (.bool true) (s.reckon 31 k)):=by
 have C:=B.stk;have A:=B.made;have e:s.reckon 31 k=if s.top.kind=3 then s.pop.push (ybw s.top.list.length)else if s.top.kind=2 then s.pop.push (ybw s.top.txt.size)else s.pop.tType:=rfl;rw[e];by_cases h3:s.top.kind=3
 .rw[if_pos h3]
  exact ydD b v p s W M k (by omega) (by omega) hZ _ h3 rfl
 .rw[if_neg h3]
  by_cases h2:s.top.kind=2
  .rw[if_pos h2]
   exact ydC b v p s W M k (by omega) (by omega) hZ _ h2 rfl
  .rw[if_neg h2]
   exact ydE b v p s W M k (by omega) (by omega) hZ _ h3 h2 rfl
theorem yfU
  {Z:Nat->Prop}(b:Nat)(v:MV)(p:Img)(s:MS)(W:World)(M:MX TT Z W b v p s)
  (k:Nat)(B:Bd s)(hZ:∀j,W.heap.size<=j->Z j)(V:Vs s):Calls Tryz.prog 164 #[.pointer (some ⟨b,0,none⟩),.agg #[.int .i64 30,k]] W (MP Z W b v p (.bool true) (s.reckon 30 k)):=by
 have F:=B.stk;have E:=B.made;have e:s.reckon 30 k=if s.pop.top.kind≠3\/s.top.kind≠1 then s.pop.pop.tType else s.pop.pop.push (yab (if 0<=s.top.num/\s.top.num<s.pop.top.list.length then s.pop.top.list[s.top.num.toNat]?.getD yag else yag)):=rfl;rw[e];by_cases hx:s.pop.top.kind≠3\/s.top.kind≠1
 .rw[if_pos hx]
  exact ydF b v p s W M k (by omega) (by omega) hZ _ hx rfl
 .rw[if_neg hx]
  have C:s.pop.top.kind=3:=by omega
  by_cases hr:0<=s.top.num/\s.top.num<s.pop.top.list.length
  .rw[if_pos hr]
   obtain⟨i,D⟩:∃i:Nat,s.top.num=i:=⟨s.top.num.toNat,by omega⟩;obtain⟨y,A⟩:=yac (l:=s.pop.top.list) (k:=i) (by omega);rw[D,Int.toNat_natCast,A];have:=ycZ (ykb V.pop.top C (zmg A));exact yeQ b v p s W M k (by omega) (by omega) hZ _ C (by omega) i y D A (by omega) rfl
  .rw[if_neg hr]
   exact yeb b v p s W M k (by omega) (by omega) hZ _ C (by omega) hr rfl
theorem yfS
  {Z:Nat->Prop}(b:Nat)(v:MV)(p:Img)(s:MS)(W:World)(M:MX TT Z W b v p s)
  (k:Nat)(B:Bd s)(hZ:∀j,W.heap.size<=j->Z j)(V:Vs s):Calls Tryz.prog 164 #[.pointer (some ⟨b,0,none⟩),.agg #[.int .i64 32,k]] W (MP Z W b v p (.bool true) (s.reckon 32 k)):=by
 have F:=B.stk;have E:=B.made;have e:s.reckon 32 k=if s.pop.top.kind=2/\s.top.kind=2 then s.pop.pop.put (ybR (s.pop.top.txt++s.top.txt))else if s.pop.top.kind=3/\s.top.kind=3 then s.pop.pop.put (yab (.mk 3 0 ⟨#[]⟩ (s.pop.top.list++s.top.list)))else s.pop.pop.tType:=rfl;rw[e];by_cases h2:s.pop.top.kind=2/\s.top.kind=2
 .rw[if_pos h2]
  have D:=ymw V.pop.top h2.1;have C:=ymw V.top h2.2;refine yec b v p s W M k (by omega) (by omega) hZ _ h2.1 h2.2 (by omega) (by omega) ?_ rfl;rw[ybR,Val.wf,Val.wf.wfL];exact⟨⟨by decide,by decide⟩,⟨by decide,by decide⟩,by rw[ByteArray.size_append];omega,trivial⟩
 .rw[if_neg h2]
  by_cases h3:s.pop.top.kind=3/\s.top.kind=3
  .rw[if_pos h3]
   have D:=ymx V.pop.top h3.1;have C:=ymx V.top h3.2;refine yed b v p s W M k (by omega) (by omega) hZ _ h3.1 h3.2 ?_ ?_ rfl
   .rw[yds]
    show szV.szL (s.pop.top.list++s.top.list)+30<=_;rw[ye2];omega
   .refine ybX _ (yfh fun x A=> ?_)
    rcases List.mem_append.1 A with A|A
    .exact Val.wfL_mem ((Val.wf_eq _).1 V.pop.top.2).2.2.2 A
    .exact Val.wfL_mem ((Val.wf_eq _).1 V.top.2).2.2.2 A
  .rw[if_neg h3]
   exact yee b v p s W M k (by omega) (by omega) hZ _ h2 h3 rfl
theorem yfV
  {Z:Nat->Prop}(b:Nat)(v:MV)(p:Img)(s:MS)(W:World)(M:MX TT Z W b v p s)
  (k:Nat)(B:Bd s)(hZ:∀j,W.heap.size<=j->Z j)(hks:k<=s.stk.length)(V:Vs s):Calls Tryz.prog 164 #[.pointer (some ⟨b,0,none⟩),.agg #[.int .i64 29,k]] W (MP Z W b v p (.bool true) (s.reckon 29 k)):=by
 have C:=B.stk;have A:=B.made;exact ygV b v p s W M k hks (by omega) (by omega) hZ _ (yfh fun x hx=>(V.stk x (List.mem_of_mem_drop hx)).2) rfl
theorem ykj
  {Z:Nat->Prop}(b:Nat)(v:MV)(p:Img)(s:MS)(W:World)(M:MX TT Z W b v p s)(fa:Fa)(K:Known p fa)(P:Pk p)(RA:At fa s)(R:Rk p s)(hm:s.made.length<=4294967295)(hl:s.letters.length<=4294967296)(hZ:∀j,W.heap.size<=j->Z j):
  Calls Tryz.prog 139 #[.pointer (some ⟨b,0,none⟩)] W (SP Z W b v p s (yak p s)):=by
 obtain⟨⟨op,a'⟩,A,O,N,S,Q,_,D⟩:=yhG K RA;have S:0<=a':=S;obtain⟨a,rfl⟩:∃a:Nat,a'=(a:Int):=⟨a'.toNat,by omega⟩;have L:s.stk.length<=32:=by have:=(K.low _ _ RA).2;omega
 have U:=(yb3 K.img).2.1;have T:=(zge A).1;have B:Bd s:=⟨L,hm,hl,R.opn,by omega⟩;have H:Bd s.nxt:=⟨L,hm,hl,R.opn,by show s.at_+1<=513;omega⟩;have C:s.at_<=4294967296:=by omega
 have hk:s.stk.length<=4294967296:=by omega
 have O:0<=op:=O;have N:op<33:=N;rcases ylK O N with rfl|rfl|rfl|rfl|rfl|rfl|rfl|rfl|rfl|rfl|rfl|rfl|rfl|rfl|rfl|rfl|rfl|rfl|rfl|rfl|rfl|rfl|rfl|rfl|rfl|rfl|rfl|rfl|rfl|rfl|rfl|rfl|rfl
 .have e:yak p s=some s.nxt:=by unfold yak;rw[A];rfl
  rw[e];exact yhZ b v p s W M 0 a A _ _ _ _ rfl C hk _ (.inr (.inr (.inl ⟨rfl,rfl⟩)))
 .obtain⟨x,I⟩:=yac (l:=p.consts) (k:=a) (by have h:(a:Int)<(p.consts.length:Int):=D;omega)
  have J:=ycZ (P.consts x (zmg I));have e:yak p s=some (s.nxt.push (yab (p.consts[a]?.getD yag))):=by unfold yak;rw[A];rfl
  rw[e,I];exact yhY b v p s W M 1 a A _ _ _ _ rfl C hk _ hZ (.inr (.inr (.inl ⟨rfl,a,x,rfl,I,by omega,rfl⟩)))
 .have e:yak p s=some s.nxt.pop:=by unfold yak;rw[A];rfl
  rw[e];exact yhZ b v p s W M 2 a A _ _ _ _ rfl C hk _ (.inr (.inl ⟨rfl,rfl⟩))
 .have J:=ycZ R.vs.top
  have e:yak p s=some (s.nxt.push (yab s.top)):=by unfold yak;rw[A];rfl
  rw[e];exact yhY b v p s W M 3 a A _ _ _ _ rfl C hk _ hZ (.inl ⟨rfl,by omega,rfl⟩)
 .have e:yak p s=some ((s.nxt.pop.pop.push s.nxt.top).push s.nxt.pop.top):=by unfold yak;rw[A];rfl
  rw[e];exact yjN b v p s W M 4 a rfl A _ _ _ _ rfl C hk _ rfl (by have h:(2:Int)<=s.stk.length:=Q;omega)
 .have e:yak p s=some (s.nxt.reckon 5 a):=by unfold yak;rw[A];rfl
  rw[e];exact ybh b v p s W M 5 a A _ _ _ _ rfl C hk _ _ (.inr ⟨rfl,by decide⟩) (fun W' v' M' hs=>yg4 b v' p s.nxt W' M' a H (yad hZ hs))
 .have e:yak p s=some (s.nxt.reckon 6 a):=by unfold yak;rw[A];rfl
  rw[e];exact ybh b v p s W M 6 a A _ _ _ _ rfl C hk _ _ (.inr ⟨rfl,by decide⟩) (fun W' v' M' hs=>yg3 b v' p s.nxt W' M' a H (yad hZ hs))
 .have e:yak p s=some (s.nxt.reckon 7 a):=by unfold yak;rw[A];rfl
  rw[e];exact ybh b v p s W M 7 a A _ _ _ _ rfl C hk _ _ (.inr ⟨rfl,by decide⟩) (fun W' v' M' hs=>yg2 b v' p s.nxt W' M' a H (yad hZ hs))
 .have e:yak p s=some (s.nxt.reckon 8 a):=by unfold yak;rw[A];rfl
  rw[e];exact ybh b v p s W M 8 a A _ _ _ _ rfl C hk _ _ (.inr ⟨rfl,by decide⟩) (fun W' v' M' hs=>yg1 b v' p s.nxt W' M' a H (yad hZ hs))
 .have e:yak p s=some (s.nxt.reckon 9 a):=by unfold yak;rw[A];rfl
  rw[e];exact ybh b v p s W M 9 a A _ _ _ _ rfl C hk _ _ (.inr ⟨rfl,by decide⟩) (fun W' v' M' hs=>yg0 b v' p s.nxt W' M' a H (yad hZ hs))
 .have e:yak p s=some (s.nxt.reckon 10 a):=by unfold yak;rw[A];rfl
  rw[e];exact ybh b v p s W M 10 a A _ _ _ _ rfl C hk _ _ (.inr ⟨rfl,by decide⟩) (fun W' v' M' hs=>yfW b v' p s.nxt W' M' a H (yad hZ hs))
 .have e:yak p s=some {s with at_:=a}:=by unfold yak;rw[A];rfl
  rw[e];exact yjP b v p s W M a A _ _ _ _ rfl _ rfl
 .have e:yak p s=some (bif ycE s.top then s.pop.nxt else{s.pop with at_:=a}):=by unfold yak;rw[A];rfl
  rw[e];exact ygQ b v p s W M 12 rfl a A _ _ _ _ rfl C _ rfl
 .obtain⟨x,I⟩:=yac (l:=s.places) (k:=a) (by have h:(a:Int)<p.places:=D;have:=R.pls;omega)
  have J:=ycZ (R.vs.pls x (zmg I));have e:yak p s=some (s.nxt.push (yab (s.places[a]?.getD yag))):=by unfold yak;rw[A];rfl
  rw[e,I];exact yhY b v p s W M 13 a A _ _ _ _ rfl C hk _ hZ (.inr (.inr (.inr ⟨rfl,a,x,rfl,I,by omega,rfl⟩)))
 .obtain⟨x,I⟩:=yac (l:=s.places) (k:=a) (by have h:(a:Int)<p.places:=D;have:=R.pls;omega)
  have e:yak p s=some {s.nxt.pop with places:=s.places.set a s.top}:=by unfold yak;rw[A];rfl
  rw[e];exact yiK b v p s W M 14 a rfl A _ _ _ _ rfl C hk _ a x rfl I rfl
 .have J:=ycZ R.vs.inp
  have e:yak p s=some (s.nxt.push (yab s.input)):=by unfold yak;rw[A];rfl
  rw[e];exact yhY b v p s W M 15 a A _ _ _ _ rfl C hk _ hZ (.inr (.inl ⟨rfl,by omega,rfl⟩))
 .have e:yak p s=some (s.nxt.push (ybw s.now)):=by unfold yak;rw[A];rfl
  rw[e];exact yhZ b v p s W M 16 a A _ _ _ _ rfl C hk _ (.inl ⟨rfl,rfl⟩)
 .have e:yak p s=some (s.nxt.begin_ 17 (p.names[a]?.getD ⟨#[]⟩)):=by unfold yak;rw[A];rfl
  rw[e];exact ybh b v p s W M 17 a A _ _ _ _ rfl C hk _ _ (.inl ⟨rfl,by decide⟩) (fun W' v' M' hs=>yhF b v' p s.nxt W' M' a _ H (yad hZ hs) R.vs.nxt)
 .have e:yak p s=s.wait 18 (p.names[a]?.getD ⟨#[]⟩):=by unfold yak;rw[A];rfl
  rw[e];have F:∀(W':World) (v':MV),MX TT Z W' b v' p s->W<=W'.heap.size->Calls Tryz.prog 156 #[.pointer (some ⟨b,0,none⟩),.agg #[.int .i64 18,a]] W' (SP Z W' b v' p s (s.wait 18 (p.names[a]?.getD ⟨#[]⟩))):=fun W' v' M' hs=>yiH b v' p s W' M' a _ B (yad hZ hs);cases hw:s.wait 18 (p.names[a]?.getD ⟨#[]⟩)with
  |none=>rw[hw]at F;exact ybr b v p s W M 18 a A _ _ _ _ _ _ rfl false s F
  |some s'=>rw[hw]at F;exact ybr b v p s W M 18 a A _ _ _ _ _ _ rfl true s' F
 .have e:yak p s=some (s.nxt.begin_ 19 (p.names[a]?.getD ⟨#[]⟩)):=by unfold yak;rw[A];rfl
  rw[e];exact ybh b v p s W M 19 a A _ _ _ _ rfl C hk _ _ (.inl ⟨rfl,by decide⟩) (fun W' v' M' hs=>yhE b v' p s.nxt W' M' a _ H (yad hZ hs) R.vs.nxt)
 .obtain⟨G,E⟩:=yac (l:=p.names) (k:=a) (by have h:(a:Int)<(p.names.length:Int):=D;omega)
  have e:yak p s=some (s.nxt.begin_ 20 (p.names[a]?.getD ⟨#[]⟩)):=by unfold yak;rw[A];rfl
  rw[e,E];exact ybh b v p s W M 20 a A _ _ _ _ rfl C hk _ _ (.inl ⟨rfl,by decide⟩) (fun W' v' M' hs=>yhD b v' p s.nxt W' M' a G H (yad hZ hs) E R.vs.nxt)
 .have e:yak p s=s.wait 21 (p.names[a]?.getD ⟨#[]⟩):=by unfold yak;rw[A];rfl
  rw[e];have F:∀(W':World) (v':MV),MX TT Z W' b v' p s->W<=W'.heap.size->Calls Tryz.prog 156 #[.pointer (some ⟨b,0,none⟩),.agg #[.int .i64 21,a]] W' (SP Z W' b v' p s (s.wait 21 (p.names[a]?.getD ⟨#[]⟩))):=fun W' v' M' hs=>yiG b v' p s W' M' a _ B (yad hZ hs);cases hw:s.wait 21 (p.names[a]?.getD ⟨#[]⟩)with
  |none=>rw[hw]at F;exact ybr b v p s W M 21 a A _ _ _ _ _ _ rfl false s F
  |some s'=>rw[hw]at F;exact ybr b v p s W M 21 a A _ _ _ _ _ _ rfl true s' F
 .obtain⟨G,E⟩:=yac (l:=p.names) (k:=a) (by have h:(a:Int)<(p.names.length:Int):=D;omega)
  have e:yak p s=s.wait 22 (p.names[a]?.getD ⟨#[]⟩):=by unfold yak;rw[A];rfl
  rw[e,E];simp only[Option.getD_some];have F:∀(W':World) (v':MV),MX TT Z W' b v' p s->W<=W'.heap.size->Calls Tryz.prog 156 #[.pointer (some ⟨b,0,none⟩),.agg #[.int .i64 22,a]] W' (SP Z W' b v' p s (s.wait 22 G)):=fun W' v' M' hs=>yiF b v' p s W' M' a G B (yad hZ hs) E;cases hw:s.wait 22 G with
  |none=>rw[hw]at F;exact ybr b v p s W M 22 a A _ _ _ _ _ _ rfl false s F
  |some s'=>rw[hw]at F;exact ybr b v p s W M 22 a A _ _ _ _ _ _ rfl true s' F
 .obtain⟨G,E⟩:=yac (l:=p.names) (k:=a) (by have h:(a:Int)<(p.names.length:Int):=D;omega)
  have e:yak p s=some (match yap (p.names[a]?.getD ⟨#[]⟩) s.letters with|some i=>((s.nxt.openL i).push (s.letV i)).push (yaK true)|none=>(s.nxt.push yag).push (yaK false)):=by unfold yak;rw[A];rfl
  rw[e,E];simp only[Option.getD_some];cases hf:yap G s.letters with
  |none=>exact yeN b v p s W M 23 a rfl A _ _ _ _ rfl C hk _ a G rfl E hf (by omega) rfl
  |some i=>exact yjO b v p s W M 23 a rfl A _ _ _ _ rfl C hk hZ _ a G rfl E i hf hl (by omega) rfl
 .have e:yak p s=some (s.nxt.push (yaK s.asked)):=by unfold yak;rw[A];rfl
  rw[e];exact yhZ b v p s W M 24 a A _ _ _ _ rfl C hk _ (.inr (.inr (.inr ⟨rfl,rfl⟩)))
 .have J:=ycZ R.vs.top
  have e:yak p s=some (s.pop.want ⟨4,0,0,0,⟨#[]⟩,s.top⟩):=by unfold yak;rw[A];rfl
  rw[e];exact yfk b v p s W M 25 a A _ _ _ _ _ rfl _ (fun W' v' M' hs=>ykP b v' p s W' M' a (by omega) (yad hZ hs) (by omega) _ rfl)
 .obtain⟨G,E⟩:=yac (l:=p.names) (k:=a) (by have h:(a:Int)<(p.names.length:Int):=D;omega)
  have e:yak p s=some (s.want ⟨5,0,0,0,p.names[a]?.getD ⟨#[]⟩,yag⟩):=by unfold yak;rw[A];rfl
  rw[e,E];exact yfk b v p s W M 26 a A _ _ _ _ _ rfl _ (fun W' v' M' hs=>ymb b v' p s W' M' 26 rfl rfl a G E (by omega) (yad hZ hs) _ rfl)
 .have J:=ycZ R.vs.top
  have e:yak p s=some (s.pop.want ⟨6,0,0,0,⟨#[]⟩,s.top⟩):=by unfold yak;rw[A];rfl
  rw[e];exact yfk b v p s W M 27 a A _ _ _ _ _ rfl _ (fun W' v' M' hs=>ykO b v' p s W' M' a (by omega) (yad hZ hs) (by omega) _ rfl)
 .obtain⟨G,E⟩:=yac (l:=p.names) (k:=a) (by have h:(a:Int)<(p.names.length:Int):=D;omega)
  have e:yak p s=s.wait 28 (p.names[a]?.getD ⟨#[]⟩):=by unfold yak;rw[A];rfl
  rw[e,E];simp only[Option.getD_some];have F:∀(W':World) (v':MV),MX TT Z W' b v' p s->W<=W'.heap.size->Calls Tryz.prog 156 #[.pointer (some ⟨b,0,none⟩),.agg #[.int .i64 28,a]] W' (SP Z W' b v' p s (s.wait 28 G)):=fun W' v' M' hs=>yiE b v' p s W' M' a G B (yad hZ hs) E;cases hw:s.wait 28 G with
  |none=>rw[hw]at F;exact ybr b v p s W M 28 a A _ _ _ _ _ _ rfl false s F
  |some s'=>rw[hw]at F;exact ybr b v p s W M 28 a A _ _ _ _ _ _ rfl true s' F
 .have e:yak p s=some (s.nxt.reckon 29 a):=by unfold yak;rw[A];rfl
  rw[e];exact ybh b v p s W M 29 a A _ _ _ _ rfl C hk _ _ (.inr ⟨rfl,by decide⟩) (fun W' v' M' hs=>yfV b v' p s.nxt W' M' a H (yad hZ hs) (by have h:(a:Int)<=s.stk.length:=Q;show a<=s.stk.length;omega) R.vs.nxt)
 .have e:yak p s=some (s.nxt.reckon 30 a):=by unfold yak;rw[A];rfl
  rw[e];exact ybh b v p s W M 30 a A _ _ _ _ rfl C hk _ _ (.inr ⟨rfl,by decide⟩) (fun W' v' M' hs=>yfU b v' p s.nxt W' M' a H (yad hZ hs) R.vs.nxt)
 .have e:yak p s=some (s.nxt.reckon 31 a):=by unfold yak;rw[A];rfl
  rw[e];exact ybh b v p s W M 31 a A _ _ _ _ rfl C hk _ _ (.inr ⟨rfl,by decide⟩) (fun W' v' M' hs=>yfT b v' p s.nxt W' M' a H (yad hZ hs))
 .have e:yak p s=some (s.nxt.reckon 32 a):=by unfold yak;rw[A];rfl
  rw[e];exact ybh b v p s W M 32 a A _ _ _ _ rfl C hk _ _ (.inr ⟨rfl,by decide⟩) (fun W' v' M' hs=>yfS b v' p s.nxt W' M' a H (yad hZ hs) R.vs.nxt)
def yoH (Z:Nat->Prop)(b:Nat)(v:MV)(p:Img)(fa:Fa)(r:MS)(W:World)(gk:Nat)(wr:World):Prop:=
 ∃(v':MV) (s':MS),MX TT Z wr b v' p s'/\MK b v W v' wr/\Rk p s'/\(s'.over=false->At fa s'/\yf8 p fa s'<=gk)/\ya3 p gk s'=r/\s'.made.length+gk<=4000000000/\s'.letters.length<=4294967296/\s'.steps+gk<=4000000000
theorem yd8 {p:Img}{s:MS}(h:s.over=true):∀f,ya3 p f s=s
 |0=>rfl
 |f+1=>by rw[ya3,h];rfl
theorem ymV
  {Z:Nat->Prop}(b:Nat)(v:MV)(p:Img)(s:MS)(W:World)(M:MX TT Z W b v p s)(fa:Fa)(K:Known p fa)(P:Pk p)(R:Rk p s)(f:Nat)(hA:s.over=false->At fa s/\yf8 p fa s<=f)(hm:s.made.length+f<=4000000000)(hl:s.letters.length<=4294967296)(hs:s.steps+f<=4000000000)(hZ:∀j,W.heap.size<=j->Z j)(r:MS)(hr:ya3 p f s=r):
  Calls Tryz.prog 109 #[.pointer (some ⟨b,0,none⟩)] W (MP Z W b v p (.tuple #[]) r):=by
 have J:=zh7 M R hA hr hm hl hs;clear M R hA hr hm hl hs;go_in;go_wp2_with fail;go_loopg [] f (fun gk wr=>yoH Z b v p fa r W gk wr)
 case atStart=>exact⟨v,s,J.o.1,MK.refl _ _ _,J.o.2.1,J.o.2.2.1,J.o.2.2.2.1,J.o.2.2.2.2.1,J.o.2.2.2.2.2.1,J.o.2.2.2.2.2.2⟩
 case round=>
  obtain⟨q,E,H,I,Y,hA,hr,G,B,F⟩:=hrel;have X:wr.cell? ⟨b,19,none⟩=some (.bool E.over):=H.cell (k:=19) rfl;have bl:=zlt H.h;cases ho:E.over with
  |true=>
   rw[ho]at X;have N:=zh3 (show E=r by rw[<-hr,yd8 ho]) H I;clear hA hr G B F ho H I Y;go_wp2_with fail
   go_end0
   exact⟨q,rfl,zhd ⟨by rw[<-N.o.1];exact N.o.2.1,N.o.2.2⟩⟩
  |false=>
   rw[ho]at X;obtain⟨A,S⟩:=hA ho;have C:=ydL K A;obtain⟨f',rfl⟩:∃f',gk=f'+1:=⟨gk - 1,by omega⟩;have a:=zhd (ykj b q p E wr H fa K P A Y (by omega) B (yad hZ I.keeps.size));cases hsm:yak p E with
   |none=>
    rw[hsm]at a;have N:=zh2 (show E=r by rw[<-hr,ya3,ho,hsm];rfl) I;clear hA A S C hr G B F ho H I Y hsm;go_wp2_with fail;refine a.o.mono ?_;rintro e c ⟨d,rfl,D⟩;go_wp2_with fail
    go_end0
    exact⟨d,rfl,zhd ⟨by rw[<-N.o.1];exact D.o.1,N.o.2.trans D.o.2⟩⟩
   |some s2=>
    rw[hsm]at a;have n:=(ybC hsm).steps;have Q:=yd4 K A hsm;obtain⟨l,T,m,_⟩:=MdR.step hsm;have i:=(LmR.step hsm).2;have U:Rk p {s2 with steps:=s2.steps+1}:=(Y.step P (by omega) hsm).steps _;have g:s2.made.length<=E.made.length+1:=by rw[T,znk];omega
    have O:ya3 p f' {s2 with steps:=s2.steps+1}=r:=by rw[<-hr,ya3,ho,hsm];rfl
    have V:s2.over=false->At fa {s2 with steps:=s2.steps+1}/\yf8 p fa {s2 with steps:=s2.steps+1}<=f':=fun e=>by
     rcases Q with h|⟨h,z⟩
     .rw[h]at e;cases e
     .exact⟨h,by show yf8 p fa s2<=f';omega⟩
    have u:s2.steps<=4000000000:=by omega
    have L:=zh7 I U V O (show s2.made.length+f'<=4000000000 by omega) (show s2.letters.length<=4294967296 by omega) (show s2.steps+1+f'<=4000000000 by omega);clear hA A S C hr G B F ho H I Y hsm n Q T m i U g O V;have y:wrap64 ((s2.steps:Int)+1)=(s2.steps:Int)+1:=by unfold wrap64;omega
    go_wp2_with fail;refine a.o.mono ?_;rintro e c ⟨d,rfl,D⟩;have x:c.cell? ⟨b,24,none⟩=some (.int .i64 (s2.steps:Int)):=D.o.1.cell (k:=24) rfl;have f0:∀o,c.frozen? ⟨b,o,none⟩=false:=fun o=>D.o.1.frozen o;have b4:=zlt D.o.1.h;have t:=zhd (D.o.1.scalar 24 (.int .i64 ((s2.steps:Int)+1)) {s2 with steps:=s2.steps+1} rfl rfl rfl rfl rfl rfl rfl rfl);go_wp2_with fail;go_roundg f'
    case measure=>omega
    case rel=>exact⟨d,{s2 with steps:=s2.steps+1},t.o.1,L.o.1.trans (D.o.2.trans t.o.2),L.o.2.1,L.o.2.2.1,L.o.2.2.2.1,L.o.2.2.2.2.1,L.o.2.2.2.2.2.1,L.o.2.2.2.2.2.2⟩
theorem yjl
  {Z:Nat->Prop}(b:Nat)(v:MV)(p:Img)(s:MS)(W:World)(M:MX TT Z W b v p s)
  (id how:Int)(y:Val)(ck cn:Int)(cs:ByteArray)(la:Option Addr)(ln lc:Nat)(F:Nat->Prop)(C:CF F W ⟨ck,cn,cs,la,ln,lc⟩ y)(hz:szV y<=1073741824)(hl:s.timers.list.length<=4294967296)(hZ:∀j,W.heap.size<=j->Z j)(s':MS)(hs':s'={s with timers:=⟨ycA id how y s.timers.list,s.timers.next⟩}):
  Calls Tryz.prog 108 #[.pointer (some ⟨b,12,none⟩),id,how,.agg #[ck,cn,cs,.slice la ln lc]] W (MP Z W b v p (.tuple #[]) s'):=by
 obtain⟨ss,ic,ps,Ae,ts,Ag,ls,ms⟩:=v;obtain⟨a,cap,rfl⟩:∃a cap,ts= .slice a s.timers.list.length cap:=M.tms.slice;have b0:=zlt M.h;obtain⟨w0,D⟩:∃w0,w0=W.alloc (.cells #[ck,cn,cs,.slice la ln lc] 38):=⟨_,rfl⟩;have B0:=zba D;have hB:=zha D;obtain⟨q0,q1,q2,q3,_⟩:=zq4 hB;have lr:W.heap.size<w0.heap.size:=zlt hB;have b1:b<w0:=by omega
 have z:=M.ext B0;have c0:w0.cell? ⟨b,12,none⟩=some (.slice a s.timers.list.length cap):=z.cell (k:=12) rfl;have FI:=zhd (fun r hr=>yaR b 12 id s.timers.list a cap _ w0 c0 z.tms b1 r hr);obtain⟨ks,hR,hP⟩:=z.tms.cells;have B:=zh8 M B0 z hR hP C hZ hB;clear hB z M B0 hR hP C hZ;cases hf:yav id s.timers.list with
 |none=>
  have X:s'=s:=by rw[hs',yew hf]
  have F1:=zhd (FI.o (-1) (by unfold ybB;rw[hf]));clear hs' FI hf;go_in;go_wp2_with fail;rw[<-D];clear D;refine F1.o.mono ?_;rintro e Y ⟨rfl,N⟩;rw[N];clear N Y;go_wp2_with fail
  go_end0
  exact⟨_,rfl,zhd (by rw[X];exact⟨B.o.2.2.1,MK.ext B.o.2.1⟩)⟩
 |some i=>
  have F1:=zhd (FI.o (i:Int) (by unfold ybB;rw[hf]));obtain⟨x,P⟩:∃x,s.timers.list[i]? =some x:=by
   have:∀(l:List Th) (i:Nat),yav id l=some i->∃x,l[i]? =some x:=by
    intro l
    induction l with
    |nil=>intro i h;cases h
    |cons y r ih=>
     intro i h;rw[yav]at h;split at h
     .cases h;exact⟨y,rfl⟩
     .cases h2:yav id r with
      |none=>rw[h2]at h;cases h
      |some j=>rw[h2]at h;cases h;obtain⟨x,P⟩:=ih j h2;exact⟨x,by simpa using P⟩
   exact this _ _ hf
  obtain⟨⟨O,d,⟨vk,vn,vs,va,vl,vc⟩,m⟩,u,hC⟩:=B.o.2.2.2.2.1.get P;obtain⟨g,A,rfl,hg⟩:=B.o.2.2.2.1.addr u;have E:=fun(j:Nat) (V:j<7)=>B.o.2.2.2.1.cell u (j:=j) V;have Q:d=x.over:=hC.over;have R:O=x.id:=hC.id;have Al:(i:Int)<s.timers.list.length:=by have:=(zge P).1;omega
  have m1:w0.cell? ⟨g,A+i*7+1,none⟩=some (.bool x.over):=by rw[zmm,<-Q];exact E 1 (by decide)
  have hend:=yhu (how:=how) (v:=y) hf P;have U:=zh5 hs' hend u R hl;have Am:decide ((0:Int)<=(i:Int))=true:=zno (by omega);cases ho:x.over with
  |true=>
   rw[ho]at m1;have X:s'=s:=by rw[U.o.1,U.o.2.1,ho];rfl
   clear hs' FI hf hend E hC u P Q R hl ho;go_in;go_wp2_with fail;rw[<-D];clear D;refine F1.o.mono ?_;rintro e Y ⟨rfl,N⟩;rw[N];clear N Y;go_wp2_with fail
   go_end0
   exact⟨_,rfl,zhd (by rw[X];exact⟨B.o.2.2.1,MK.ext B.o.2.1⟩)⟩
  |false=>
   rw[ho]at m1;have CL:=zhd (yax y ck cn cs la ln lc F w0.drew (B.o.2.2.2.2.2.1.keep (S:=fun _=>False) (zkb (B.o.2.1.drew)) (fun _ _ f=>f)) hz);have X:s'={s with timers:=⟨s.timers.list.set i ⟨x.id,true,yab y,how⟩,s.timers.next⟩}:=by rw[U.o.1,U.o.2.1,ho];rfl
   have HE:=zhd X;have nb:¬g=b:=fun e=>absurd (B.o.1.sep 3 0 g rfl (by rw[e];rfl)) (by decide);have HC:=zh2 E nb;clear hs' FI hf hend E hC u P Q R hl ho X;go_in;go_wp2_with fail;rw[<-D];clear D;refine F1.o.mono ?_;rintro e Y ⟨rfl,N⟩;rw[N];clear N Y;go_wp2_with fail;have Af:w0.drew.cell? ⟨b,12,none⟩=some (.slice (some ⟨g,A,none⟩) s.timers.list.length cap):=c0;have Ad:w0.drew.cell? ⟨W,0,none⟩=some (.int .i64 ck):=q0;have Ac:w0.drew.cell? ⟨W,1,none⟩=some (.int .i64 cn):=q1;have Ab:w0.drew.cell? ⟨W,2,none⟩=some (.string cs):=q2;have Aa:w0.drew.cell? ⟨W,3,none⟩=some (.slice la ln lc):=q3;have Ak:¬g=b:=HC.o.2;have Aj:¬b=g:=fun e=>HC.o.2 e.symm;have An:g<W:=B.o.1.tms.lt (g:=g) rfl;have Ai:¬g=W.heap.size:=by omega
   have Ah:¬W.heap.size=g:=by omega
   go_region_held3 (fun W1=>W1.cell? ⟨b,12,none⟩=some (.slice (some ⟨g,A,none⟩) s.timers.list.length cap)/\W1.cell? ⟨W,0,none⟩=some (.int .i64 ck)/\W1.cell? ⟨W,1,none⟩=some (.int .i64 cn)/\W1.cell? ⟨W,2,none⟩=some (.string cs)/\W1.cell? ⟨W,3,none⟩=some (.slice la ln lc)) (first|with_reducible exact⟨Af,Ad,Ac,Ab,Aa⟩|with_reducible exact⟨d1,p0,p1,p2,p3⟩|go_keep|go_simp|(refine⟨?_,?_,?_,?_,?_⟩<;>go_simp)) ((go_at_call 58;refine CL.o.mono ?_;rintro e w5 ⟨⟨t,q,n,I,G,H⟩,rfl,T⟩;have L:Below w0 w0 w5:=znw ((znv w0.heap.size w0).drew) T.o.2;have R5:=B.o.2.2.2.1.below L;have H5:=zh3 T.o.1 L R5;have E:=(fun(j:Nat) (V:j<7)=>R5.cell U.o.2.2.1 (j:=j) V);have e1:w5.cell? ⟨g,A+i*7+1,none⟩=some (.bool d):=(by rw[zmm];exact E 1 (by decide));have e2:w5.cell? ⟨g,A+i*7+2,none⟩=some (.int .i64 vk):=(by rw[zmm];exact E 2 (by decide));have e3:w5.cell? ⟨g,A+i*7+3,none⟩=some (.int .i64 vn):=(by rw[zmm];exact E 3 (by decide));have e4:w5.cell? ⟨g,A+i*7+4,none⟩=some (.string vs):=(by rw[zmm];exact E 4 (by decide));have e5:w5.cell? ⟨g,A+i*7+5,none⟩=some (.slice va vl vc):=(by rw[zmm];exact E 5 (by decide));have e6:w5.cell? ⟨g,A+i*7+6,none⟩=some (.int .i64 m):=(by rw[zmm];exact E 6 (by decide));have ef:∀o,w5.frozen? ⟨g,o,none⟩=false:=(fun o=>R5.frozen o);have el:g<w5:=znj hg L.size;have d1:w5.cell? ⟨b,12,none⟩=some (.slice (some ⟨g,A,none⟩) s.timers.list.length cap):=((L.cell (p:=⟨b,12,none⟩) b1).trans c0);have p0:=(L.cell (p:=⟨W,0,none⟩) lr).trans q0;have p1:=(L.cell (p:=⟨W,1,none⟩) lr).trans q1;have p2:=(L.cell (p:=⟨W,2,none⟩) lr).trans q2;have p3:=(L.cell (p:=⟨W,3,none⟩) lr).trans q3;clear T L R5 E))
   all_goals
    obtain⟨w6,K⟩:∃w6,w6=((((((w5.setCell ⟨g,A+i*7+1,none⟩ (.bool true)).setCell ⟨g,A+i*7+6,none⟩ (.int .i64 how)).setCell ⟨g,A+i*7+2,none⟩ (.int .i64 t)).setCell ⟨g,A+i*7+3,none⟩ (.int .i64 q)).setCell ⟨g,A+i*7+4,none⟩ (.string n)).setCell ⟨g,A+i*7+5,none⟩ (.slice I G H)):=⟨_,rfl⟩;rw[<-K];have K6:Keeps (fun j=>j=g) w5 w6:=by rw[K];exact yfl _ _ _ _ _ _ _ _ _ _ _ _ _ _
    have R6:RowAt w6 193 (.slice (some ⟨g,A,none⟩) s.timers.list.length cap) (ks.set i ⟨O,true,⟨t,q,n,I,G,H⟩,how⟩):=by rw[K];exact ye0 H5.o.2.2 U.o.2.2.1 how ⟨t,q,n,I,G,H⟩
    have M5:=B.o.2.2.1.ext H5.o.2.1;have C5:CF (MZ Z ⟨ss,ic,ps,Ae,.slice (some ⟨g,A,none⟩) s.timers.list.length cap,Ag,ls,ms⟩ b) w5 ⟨t,q,n,I,G,H⟩ (yab y):=H5.o.1.mono (fun j V _=>by
     have V:w0<=j:=V;exact⟨fun e=>by have:=B.o.1.lt e;omega,B.o.2.2.2.2.2.2.1 j (by omega)⟩)
    have P5:=(B.o.2.2.2.2.1.keep (S:=fun _=>False) (zkb H5.o.2.1) (fun _ _ f=>f)).set i (c:=⟨O,true,⟨t,q,n,I,G,H⟩,how⟩) (x:=⟨x.id,true,yab y,how⟩) ⟨U.o.2.2.2.1,rfl,C5,rfl⟩;have S:=M5.putTms (v1:=.slice (some ⟨g,A,none⟩) s.timers.list.length cap) s' R6 P5 (K6.mono (fun j _ e=>by rw[e];rfl)) (fun g hg=>.inl hg) HE.o;have J:w6.setCell ⟨b,12,none⟩ (.slice (some ⟨g,A,none⟩) s.timers.list.length cap)=w6:=yco ((K6.cell (p:=⟨b,12,none⟩) (zlt M5.h) (fun e=>HC.o.2 e.symm)).trans d1);rw[J]at S;have HT:=zh2 S.1 ((MK.ext (B.o.2.1.trans (H5.o.2.1.mono B.o.2.1.size))).trans S.2);clear S J P5 C5 M5 R6 K6 K e1 e2 e3 e4 e5 e6 ef el d1;go_wp2_with fail
    go_end0
    exact⟨_,rfl,zhd HT.o⟩
theorem ydl
  {Z:Nat->Prop}(b:Nat)(v:MV)(p:Img)(s:MS)(W:World)(M:MX TT Z W b v p s)
  (id how:Int)(y:Val)(ck cn:Int)(cs:ByteArray)(la:Option Addr)(ln lc:Nat)(F:Nat->Prop)(C:CF F W ⟨ck,cn,cs,la,ln,lc⟩ y)(hz:szV y<=1073741824)(hl:s.acts.list.length<=4294967296)(hZ:∀j,W.heap.size<=j->Z j)(s':MS)(hs':s'={s with acts:=⟨ycA id how y s.acts.list,s.acts.next⟩}):
  Calls Tryz.prog 108 #[.pointer (some ⟨b,14,none⟩),id,how,.agg #[ck,cn,cs,.slice la ln lc]] W (MP Z W b v p (.tuple #[]) s'):=by
 obtain⟨ss,ic,ps,Ae,ts,Ag,ls,ms⟩:=v;obtain⟨a,cap,rfl⟩:∃a cap,Ag= .slice a s.acts.list.length cap:=M.acs.slice;have b0:=zlt M.h;obtain⟨w0,D⟩:∃w0,w0=W.alloc (.cells #[ck,cn,cs,.slice la ln lc] 38):=⟨_,rfl⟩;have B0:=zba D;have hB:=zha D;obtain⟨q0,q1,q2,q3,_⟩:=zq4 hB;have lr:W.heap.size<w0.heap.size:=zlt hB;have b1:b<w0:=by omega
 have z:=M.ext B0;have c0:w0.cell? ⟨b,14,none⟩=some (.slice a s.acts.list.length cap):=z.cell (k:=14) rfl;have FI:=zhd (fun r hr=>yaR b 14 id s.acts.list a cap _ w0 c0 z.acs b1 r hr);obtain⟨ks,hR,hP⟩:=z.acs.cells;have B:=zh8 M B0 z hR hP C hZ hB;clear hB z M B0 hR hP C hZ;cases hf:yav id s.acts.list with
 |none=>
  have X:s'=s:=by rw[hs',yew hf]
  have F1:=zhd (FI.o (-1) (by unfold ybB;rw[hf]));clear hs' FI hf;go_in;go_wp2_with fail;rw[<-D];clear D;refine F1.o.mono ?_;rintro e Y ⟨rfl,N⟩;rw[N];clear N Y;go_wp2_with fail
  go_end0
  exact⟨_,rfl,zhd (by rw[X];exact⟨B.o.2.2.1,MK.ext B.o.2.1⟩)⟩
 |some i=>
  have F1:=zhd (FI.o (i:Int) (by unfold ybB;rw[hf]));obtain⟨x,P⟩:∃x,s.acts.list[i]? =some x:=by
   have:∀(l:List Th) (i:Nat),yav id l=some i->∃x,l[i]? =some x:=by
    intro l
    induction l with
    |nil=>intro i h;cases h
    |cons y r ih=>
     intro i h;rw[yav]at h;split at h
     .cases h;exact⟨y,rfl⟩
     .cases h2:yav id r with
      |none=>rw[h2]at h;cases h
      |some j=>rw[h2]at h;cases h;obtain⟨x,P⟩:=ih j h2;exact⟨x,by simpa using P⟩
   exact this _ _ hf
  obtain⟨⟨O,d,⟨vk,vn,vs,va,vl,vc⟩,m⟩,u,hC⟩:=B.o.2.2.2.2.1.get P;obtain⟨g,A,rfl,hg⟩:=B.o.2.2.2.1.addr u;have E:=fun(j:Nat) (V:j<7)=>B.o.2.2.2.1.cell u (j:=j) V;have Q:d=x.over:=hC.over;have R:O=x.id:=hC.id;have Al:(i:Int)<s.acts.list.length:=by have:=(zge P).1;omega
  have m1:w0.cell? ⟨g,A+i*7+1,none⟩=some (.bool x.over):=by rw[zmm,<-Q];exact E 1 (by decide)
  have hend:=yhu (how:=how) (v:=y) hf P;have U:=zh5 hs' hend u R hl;have Am:decide ((0:Int)<=(i:Int))=true:=zno (by omega);cases ho:x.over with
  |true=>
   rw[ho]at m1;have X:s'=s:=by rw[U.o.1,U.o.2.1,ho];rfl
   clear hs' FI hf hend E hC u P Q R hl ho;go_in;go_wp2_with fail;rw[<-D];clear D;refine F1.o.mono ?_;rintro e Y ⟨rfl,N⟩;rw[N];clear N Y;go_wp2_with fail
   go_end0
   exact⟨_,rfl,zhd (by rw[X];exact⟨B.o.2.2.1,MK.ext B.o.2.1⟩)⟩
  |false=>
   rw[ho]at m1;have CL:=zhd (yax y ck cn cs la ln lc F w0.drew (B.o.2.2.2.2.2.1.keep (S:=fun _=>False) (zkb (B.o.2.1.drew)) (fun _ _ f=>f)) hz);have X:s'={s with acts:=⟨s.acts.list.set i ⟨x.id,true,yab y,how⟩,s.acts.next⟩}:=by rw[U.o.1,U.o.2.1,ho];rfl
   have HE:=zhd X;have nb:¬g=b:=fun e=>absurd (B.o.1.sep 4 0 g rfl (by rw[e];rfl)) (by decide);have HC:=zh2 E nb;clear hs' FI hf hend E hC u P Q R hl ho X;go_in;go_wp2_with fail;rw[<-D];clear D;refine F1.o.mono ?_;rintro e Y ⟨rfl,N⟩;rw[N];clear N Y;go_wp2_with fail;have Af:w0.drew.cell? ⟨b,14,none⟩=some (.slice (some ⟨g,A,none⟩) s.acts.list.length cap):=c0;have Ad:w0.drew.cell? ⟨W,0,none⟩=some (.int .i64 ck):=q0;have Ac:w0.drew.cell? ⟨W,1,none⟩=some (.int .i64 cn):=q1;have Ab:w0.drew.cell? ⟨W,2,none⟩=some (.string cs):=q2;have Aa:w0.drew.cell? ⟨W,3,none⟩=some (.slice la ln lc):=q3;have Ak:¬g=b:=HC.o.2;have Aj:¬b=g:=fun e=>HC.o.2 e.symm;have An:g<W:=B.o.1.acs.lt (g:=g) rfl;have Ai:¬g=W.heap.size:=by omega
   have Ah:¬W.heap.size=g:=by omega
   go_region_held3 (fun W1=>W1.cell? ⟨b,14,none⟩=some (.slice (some ⟨g,A,none⟩) s.acts.list.length cap)/\W1.cell? ⟨W,0,none⟩=some (.int .i64 ck)/\W1.cell? ⟨W,1,none⟩=some (.int .i64 cn)/\W1.cell? ⟨W,2,none⟩=some (.string cs)/\W1.cell? ⟨W,3,none⟩=some (.slice la ln lc)) (first|with_reducible exact⟨Af,Ad,Ac,Ab,Aa⟩|with_reducible exact⟨d1,p0,p1,p2,p3⟩|go_keep|go_simp|(refine⟨?_,?_,?_,?_,?_⟩<;>go_simp)) ((go_at_call 58;refine CL.o.mono ?_;rintro e w5 ⟨⟨t,q,n,I,G,H⟩,rfl,T⟩;have L:Below w0 w0 w5:=znw ((znv w0.heap.size w0).drew) T.o.2;have R5:=B.o.2.2.2.1.below L;have H5:=zh3 T.o.1 L R5;have E:=(fun(j:Nat) (V:j<7)=>R5.cell U.o.2.2.1 (j:=j) V);have e1:w5.cell? ⟨g,A+i*7+1,none⟩=some (.bool d):=(by rw[zmm];exact E 1 (by decide));have e2:w5.cell? ⟨g,A+i*7+2,none⟩=some (.int .i64 vk):=(by rw[zmm];exact E 2 (by decide));have e3:w5.cell? ⟨g,A+i*7+3,none⟩=some (.int .i64 vn):=(by rw[zmm];exact E 3 (by decide));have e4:w5.cell? ⟨g,A+i*7+4,none⟩=some (.string vs):=(by rw[zmm];exact E 4 (by decide));have e5:w5.cell? ⟨g,A+i*7+5,none⟩=some (.slice va vl vc):=(by rw[zmm];exact E 5 (by decide));have e6:w5.cell? ⟨g,A+i*7+6,none⟩=some (.int .i64 m):=(by rw[zmm];exact E 6 (by decide));have ef:∀o,w5.frozen? ⟨g,o,none⟩=false:=(fun o=>R5.frozen o);have el:g<w5:=znj hg L.size;have d1:w5.cell? ⟨b,14,none⟩=some (.slice (some ⟨g,A,none⟩) s.acts.list.length cap):=((L.cell (p:=⟨b,14,none⟩) b1).trans c0);have p0:=(L.cell (p:=⟨W,0,none⟩) lr).trans q0;have p1:=(L.cell (p:=⟨W,1,none⟩) lr).trans q1;have p2:=(L.cell (p:=⟨W,2,none⟩) lr).trans q2;have p3:=(L.cell (p:=⟨W,3,none⟩) lr).trans q3;clear T L R5 E))
   all_goals
    obtain⟨w6,K⟩:∃w6,w6=((((((w5.setCell ⟨g,A+i*7+1,none⟩ (.bool true)).setCell ⟨g,A+i*7+6,none⟩ (.int .i64 how)).setCell ⟨g,A+i*7+2,none⟩ (.int .i64 t)).setCell ⟨g,A+i*7+3,none⟩ (.int .i64 q)).setCell ⟨g,A+i*7+4,none⟩ (.string n)).setCell ⟨g,A+i*7+5,none⟩ (.slice I G H)):=⟨_,rfl⟩;rw[<-K];have K6:Keeps (fun j=>j=g) w5 w6:=by rw[K];exact yfl _ _ _ _ _ _ _ _ _ _ _ _ _ _
    have R6:RowAt w6 193 (.slice (some ⟨g,A,none⟩) s.acts.list.length cap) (ks.set i ⟨O,true,⟨t,q,n,I,G,H⟩,how⟩):=by rw[K];exact ye0 H5.o.2.2 U.o.2.2.1 how ⟨t,q,n,I,G,H⟩
    have M5:=B.o.2.2.1.ext H5.o.2.1;have C5:CF (MZ Z ⟨ss,ic,ps,Ae,ts,.slice (some ⟨g,A,none⟩) s.acts.list.length cap,ls,ms⟩ b) w5 ⟨t,q,n,I,G,H⟩ (yab y):=H5.o.1.mono (fun j V _=>by
     have V:w0<=j:=V;exact⟨fun e=>by have:=B.o.1.lt e;omega,B.o.2.2.2.2.2.2.1 j (by omega)⟩)
    have P5:=(B.o.2.2.2.2.1.keep (S:=fun _=>False) (zkb H5.o.2.1) (fun _ _ f=>f)).set i (c:=⟨O,true,⟨t,q,n,I,G,H⟩,how⟩) (x:=⟨x.id,true,yab y,how⟩) ⟨U.o.2.2.2.1,rfl,C5,rfl⟩;have S:=M5.putAcs (v1:=.slice (some ⟨g,A,none⟩) s.acts.list.length cap) s' R6 P5 (K6.mono (fun j _ e=>by rw[e];rfl)) (fun g hg=>.inl hg) HE.o;have J:w6.setCell ⟨b,14,none⟩ (.slice (some ⟨g,A,none⟩) s.acts.list.length cap)=w6:=yco ((K6.cell (p:=⟨b,14,none⟩) (zlt M5.h) (fun e=>HC.o.2 e.symm)).trans d1);rw[J]at S;have HT:=zh2 S.1 ((MK.ext (B.o.2.1.trans (H5.o.2.1.mono B.o.2.1.size))).trans S.2);clear S J P5 C5 M5 R6 K6 K e1 e2 e3 e4 e5 e6 ef el d1;go_wp2_with fail
    go_end0
    exact⟨_,rfl,zhd HT.o⟩
end Go.Proofs.YtpagmlndgblhhaaGreatDoor
namespace Go.Va
open Go.Own Go.RowKit
def wds:List (List UInt8×List UInt8):=[([114,117,110,45,115,116,97,114,116,101,100],[65,66,78,84,86]),
 ([116,97,115,107,45,115,99,104,101,100,117,108,101,100],[66]),
 ([116,97,115,107,45,115,116,97,114,116,101,100],[65,66]),
 ([116,97,115,107,45,99,111,109,112,108,101,116,101,100],[65,66]),
 ([116,97,115,107,45,116,105,109,101,100,45,111,117,116],[66]),
 ([116,97,115,107,45,102,97,105,108,101,100],[66,78]),
 ([97,99,116,105,118,105,116,121,45,115,99,104,101,100,117,108,101,100],[65,66,78,86]),
 ([97,99,116,105,118,105,116,121,45,99,111,109,112,108,101,116,101,100],[65,86]),
 ([97,99,116,105,118,105,116,121,45,102,97,105,108,101,100],[65,78]),
 ([97,99,116,105,118,105,116,121,45,116,105,109,101,100,45,111,117,116],[65]),
 ([116,105,109,101,114,45,115,116,97,114,116,101,100],[65,66]),
 ([116,105,109,101,114,45,102,105,114,101,100],[65]),
 ([116,105,109,101,114,45,99,97,110,99,101,108,101,100],[65]),
 ([115,105,103,110,97,108,45,114,101,99,101,105,118,101,100],[78,86]),
 ([99,97,110,99,101,108,45,114,101,113,117,101,115,116,101,100],[]),
 ([114,117,110,45,99,111,109,112,108,101,116,101,100],[86]),
 ([114,117,110,45,102,97,105,108,101,100],[78]),
 ([114,117,110,45,99,97,110,99,101,108,101,100],[]),
 ([114,117,110,45,116,101,114,109,105,110,97,116,101,100],[78]),
 ([114,117,110,45,116,105,109,101,100,45,111,117,116],[]),
 ([99,111,110,116,105,110,117,101,100,45,97,115,45,110,101,119],[66,86])]
def wl:List (List UInt8×List UInt8)->List UInt8
 |[]=>[]
 |(a,b)::r=>a++58::(b++32::wl r)
def restW (i:Nat):ByteArray:=⟨(wl (wds.drop i)).toArray⟩
def ym2 (i:Nat):ByteArray:=⟨(match wds[i]? with|some (a,b)=>a++58::b|none=>[]).toArray⟩
def yje (i:Nat):ByteArray:=⟨(wds[i]?.getD ([],[])).1.toArray⟩
def ycI (i:Nat):ByteArray:=⟨(wds[i]?.getD ([],[])).2.toArray⟩
theorem ylE (i:Fin 21):Lib.cut (restW i).data.toList [32]=((ym2 i).data.toList,(restW (i+1)).data.toList,true):=by revert i;decide+kernel
theorem ymZ (i:Fin 21):Lib.cut (ym2 i).data.toList [58]=((yje i).data.toList,(ycI i).data.toList,true):=by revert i;decide+kernel
theorem ycX (i:Fin 22):(restW i).size<=367/\(ym2 i).size<=367/\((restW i).size=0↔i.val=21):=by revert i;decide+kernel
theorem yf6 (i:Fin 21):(yje i).size≠0/\(yje i).size<=64/\(ycI i).size<=8:=by revert i;decide+kernel
def hasF (s:ByteArray)(c:UInt8):Bool:=decide (0<=Lib.indexByte s.data.toList c)
def evN (k:Int):ByteArray:=if 1<=k/\k<=21 then yje (k.toNat - 1)else⟨#[]⟩
def evF (k:Int):ByteArray:=if 1<=k/\k<=21 then ycI (k.toNat - 1)else⟨#[]⟩
theorem ynk (i:Fin 21):yfB ((i.val:Int)+1)=some (hasF (ycI i) 65,hasF (ycI i) 66,hasF (ycI i) 78,hasF (ycI i) 84,hasF (ycI i) 86):=by revert i;decide+kernel
theorem yfb {k:Int}(h:1<=k/\k<=21):yfB k=some (hasF (evF k) 65,hasF (evF k) 66,hasF (evF k) 78,hasF (evF k) 84,hasF (evF k) 86)/\(evN k).size≠0/\(evF k).size<=8:=by
 obtain⟨i,rfl⟩:∃i:Nat,k=(i:Int)+1:=⟨k.toNat - 1,by omega⟩;have A:i<21:=by omega
 have e:(((i:Int)+1).toNat - 1)=i:=by omega
 unfold evF evN;rw[if_pos h,if_pos h,e];exact⟨ynk ⟨i,A⟩,(yf6 ⟨i,A⟩).1,(yf6 ⟨i,A⟩).2.2⟩
theorem ydk {k:Int}(h:¬(1<=k/\k<=21)):yfB k=none/\evN k=⟨#[]⟩/\evF k=⟨#[]⟩:=by
 refine⟨?_,if_neg h,if_neg h⟩;unfold yfB
 repeat' (rw[if_neg (by omega)])
end Go.Va
namespace Go.Proofs.YtpagmlndgblhhaaGreatDoor
open Go.RowKit Go.Own Go.Own.MapTy Go.Va Go.Sort
open Go.Own.Cells (sz enc)
theorem yir {N:Nat}(s sep a r:ByteArray)(W:World)(G:Gl Tryz.prog N W)(hs:s.size<=400)(h:Lib.cut s.data.toList sep.data.toList=(a.data.toList,r.data.toList,true)):
  Calls Tryz.prog 90 #[s,sep] W (fun e w'=>e= .returned (.tuple #[a,r,.bool true])/\Below W W w'):=by
 obtain⟨m,hm⟩:=G.m;exact(Any.strings_Cut Tryz.lays145 s sep m W (by omega) hm).mono fun e w' ⟨j1,n,j2⟩=>⟨by rw[j1,h],by rw[j2];exact⟨rfl,rfl,rfl,znc _,fun _ _=>rfl⟩⟩
def yjz (k:Int)(j:Nat):ByteArray:=if(j:Int)=k then evN k else⟨#[]⟩
def yjA (k:Int)(j:Nat):ByteArray:=if(j:Int)=k then evF k else⟨#[]⟩
theorem ykg (k:Int):yjz k 0=⟨#[]⟩/\yjA k 0=⟨#[]⟩:=by
 unfold yjz yjA evN evF;constructor
 .split
  .rw[if_neg (by omega)]
  .rfl
 .split
  .rw[if_neg (by omega)]
  .rfl
def ypP (w:World)(k:Int)(gk:Nat)(v2 v3 v4 v5:Value)(wr:World):Prop:=
 ∃j:Nat,v2= .string (yjz k j)/\v3= .string (yjA k j)/\v4= .string (restW j)/\v5= .int .i64 ((j:Int)+1)/\j<=21/\(j=0\/(j:Int)<=k)/\gk=21 - j/\Below w w wr
theorem ykN {N:Nat}(k:Int)(w:World)(G:Gl Tryz.prog N w):Calls Tryz.prog 53 #[k] w (fun e w'=>e= .returned (.tuple #[.string (evN k),.string (evF k)])/\Below w w w'):=by
 have b:=zhd (fun(i:Nat) (hi:i<21) W (B:Below w w W)=>yir (restW i) ⟨#[32]⟩ (ym2 i) (restW (i+1)) W (G.below B) (by have h:(restW i).size<=367:=(ycX ⟨i,by omega⟩).1;omega) (ylE ⟨i,hi⟩));have a:=zhd (fun(i:Nat) (hi:i<21) W (B:Below w w W)=>yir (ym2 i) ⟨#[58]⟩ (yje i) (ycI i) W (G.below B) (by have h:(ym2 i).size<=367:=(ycX ⟨i,by omega⟩).2.1;omega) (ymZ ⟨i,hi⟩));have n:=zhd G;clear G;go_in;go_wp2_with fail;go_loopg [2,3,4,5] 21 (fun gk v2 v3 v4 v5 wr=>ypP w k gk v2 v3 v4 v5 wr)
 case atStart=>exact⟨0,by rw[(ykg k).1],by rw[(ykg k).2],congrArg Value.string (by kernel_rfl),rfl,znq _,.inl rfl,rfl,znv _ _⟩
 case round=>
  obtain⟨j,rfl,rfl,rfl,rfl,g,M,D,J⟩:=hrel;by_cases h1:(j:Int)+1<=k
  .by_cases h2:j<21
   .have H:(restW j).size≠0:=fun e=>by have:=(ycX ⟨j,by omega⟩).2.2.1 e;simp at this;omega
    obtain⟨r,K⟩:∃r,restW j=r:=⟨_,rfl⟩;obtain⟨d,F⟩:∃r,restW (j+1)=r:=⟨_,rfl⟩;obtain⟨o,T⟩:∃o,ym2 j=o:=⟨_,rfl⟩;have R:=b.o j h2;rw[K,F,T]at R;have R:=zhd R;have l:r.toList.isEmpty=false:=by
     rw[List.isEmpty_eq_false_iff,zml];intro e;rw[K]at H;exact H (by have:=congrArg List.length e;simpa using this)
    have m:=zhd (show wrap64 ((j:Int)+1+1)=(j:Int)+1+1 from by unfold wrap64;omega);have E:=zh5 D J K F T;rw[K];have X:=zhd (show 21 - (j+1)<gk from by omega);clear H K F T D J;by_cases h3:(j:Int)+1=k
    .have S:=a.o j h2
     rw[E.o.2.2.2.2]at S;have S:=zhd S;have U:((j:Int)+1==k)=true:=by rw[beq_iff_eq];exact h3
     have L:yje j=yjz k (j+1)/\ycI j=yjA k (j+1):=by
      unfold yjz yjA evN evF;rw[if_pos (by omega),if_pos (by omega),if_pos (by omega),if_pos (by omega)];have:k.toNat - 1=j:=by omega
      rw[this];exact⟨rfl,rfl⟩
     have C:=zhd L;clear L;go_wp2_with fail;refine(R.o _ E.o.2.1).mono ?_;rintro e Y ⟨rfl,A⟩;have Q:=zhd (E.o.2.1.trans (A.mono E.o.2.1.size));clear A;go_wp2_with fail;refine(S.o _ Q.o).mono ?_;rintro e c ⟨rfl,P⟩;have Z:=zhd (Q.o.trans (P.mono Q.o.size));clear P;go_wp2_with fail;go_roundg (21 - (j+1))
     case measure=>exact X.o
     case rel=>exact⟨j+1,by rw[C.o.1],by rw[C.o.2],by rw[E.o.2.2.2.1],congrArg (Value.int .i64) (by omega),by omega,.inr (by omega),rfl,Z.o⟩
    .have U:((j:Int)+1==k)=false:=by rw[zna];exact h3
     have L:yjz k j=yjz k (j+1)/\yjA k j=yjA k (j+1):=by
      unfold yjz yjA;rw[if_neg (by omega),if_neg (by omega),if_neg (by omega),if_neg (by omega)];exact⟨rfl,rfl⟩
     have C:=zhd L;clear L;go_wp2_with fail;refine(R.o _ E.o.2.1).mono ?_;rintro e Y ⟨rfl,A⟩;have Q:=zhd (E.o.2.1.trans (A.mono E.o.2.1.size));clear A;go_wp2_with fail;go_roundg (21 - (j+1))
     case measure=>exact X.o
     case rel=>exact⟨j+1,by rw[C.o.1],by rw[C.o.2],by rw[E.o.2.2.2.1],congrArg (Value.int .i64) (by omega),by omega,.inr (by omega),rfl,Q.o⟩
   .have O:j=21:=by omega
    have f:(restW j).toList.isEmpty=true:=by
     have:(restW j).size=0:=by rw[O];exact(ycX ⟨21,by omega⟩).2.2.2 rfl
     rw[List.isEmpty_iff,zml];exact List.length_eq_zero_iff.1 (by simpa using this)
    have I:yjz k j=evN k/\yjA k j=evF k:=by
     unfold yjz yjA evN evF;rw[if_neg (by omega),if_neg (by omega),if_neg (by omega),if_neg (by omega)];exact⟨rfl,rfl⟩
    rw[I.1,I.2];have V:=zhd J;generalize restW j=r at*;clear I J D M O;go_wp2
    go_ret2
    exact⟨rfl,V.o⟩
  .have I:yjz k j=evN k/\yjA k j=evF k:=by
    unfold yjz yjA;by_cases e:(j:Int)=k
    .rw[if_pos e,if_pos e];exact⟨rfl,rfl⟩
    .rw[if_neg e,if_neg e]
     unfold evN evF;rw[if_neg (by omega),if_neg (by omega)];exact⟨rfl,rfl⟩
   rw[I.1,I.2];have V:=zhd J;clear I J D M;go_wp2
   go_ret2
   exact⟨rfl,V.o⟩
theorem yen (s:ByteArray)(c:UInt8)(w:World)(b:Bool)(hb:hasF s c=b):Calls Tryz.prog 54 #[s,.int .u8 (c.toNat:Int)] w (fun e w'=>e= .returned (.bool b)/\w=w'):=by
 have A:=Any.strings_IndexByte Tryz.lays137 s (c.toNat:Int) w;have C:(c.toNat:Int).toNat.toUInt8=c:=by simp
 rw[C]at A;have E:=zhd (show Calls Tryz.prog 98 #[s,.int .u8 (c.toNat:Int)] w (fun e w'=>e= .returned (.int .i64 (Lib.indexByte s.data.toList c))/\w'=w)from A);clear A;unfold hasF at hb;generalize Lib.indexByte s.data.toList c=z at*;have F:=zhd hb;clear hb C;go_in;go_wp2_with fail;refine E.o.mono ?_;rintro e D ⟨rfl,B⟩;rw[B];clear B D;go_wp2;go_ret;exact⟨by rw[<-F.o];rfl,rfl⟩
theorem ybF (id t k a b:Int)(nm tx:ByteArray)(vk vn:Int)(vs:ByteArray)(la:Option Addr)(ln lc:Nat)(w:World)(r:Bool)(hr:decide (16<=k/\k<=21)=r):
  Calls Tryz.prog 35 #[.agg #[id,t,k,a,b,nm,tx,vk,vn,vs,.slice la ln lc]] w (fun e w'=>e= .returned (.bool r)/\Below w w w'):=by
 by_cases h1:16<=k
 .by_cases h2:k<=21
  .have hr:r=true:=by rw[<-hr];exact zno ⟨h1,h2⟩
   subst hr;go_in;go_wp2;go_ret;exact⟨rfl,zal⟩
  .have hr:r=false:=by rw[<-hr];exact znd (fun h=>h2 h.2)
   subst hr;go_in;go_wp2;go_ret;exact⟨rfl,zal⟩
 .have hr:r=false:=by rw[<-hr];exact znd (fun h=>h1 h.1)
  subst hr;go_in;go_wp2;go_ret;exact⟨rfl,zal⟩
end Go.Proofs.YtpagmlndgblhhaaGreatDoor
