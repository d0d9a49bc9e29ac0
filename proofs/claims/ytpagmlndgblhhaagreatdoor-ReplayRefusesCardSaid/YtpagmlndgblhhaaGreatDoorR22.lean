/- Parts of the proof: what the functions and the plain laws give that later parts lean on. Conditions: none beyond those that each theorem names. -/
import Derived.Lib.IndexMore
import Derived.Test.YtpagmlndgblhhaaGreatDoorR21
set_option maxRecDepth 100000
set_option maxHeartbeats 8000000
namespace Go.Proofs.YtpagmlndgblhhaaGreatDoor
open Go.RowKit Go.Own Go.Own.MapTy Go.Va Go.Sort
open Go.Own.Cells (sz enc)
def SP (Z:Nat→Prop)(W:World)(b:Nat)(v:MV)(p:Img)(s:MS)(r:Option MS)(e:Ending)(w':World):Prop:=match r with
 |none=>MP Z W b v p (.bool false) s e w'
 |some s'=>MP Z W b v p (.bool true) s' e w'
structure Bd (s:MS):Prop where
 stk:s.stk.length≤32
 made:s.made.length≤4294967295
 let_:s.letters.length≤4294967296
 opn:opn s≤64
 at_:s.at_≤513
theorem yh1
  {Z:Nat→Prop}(b:Nat)(v:MV)(p:Img)(s:MS)(W:World)(M:MX TT Z W b v p s)
  (k:Nat)(nm:ByteArray)(B:Bd s)(hZ:∀j,W.heap.size≤j→Z j)
  :Calls Tryz.prog 156 #[.pointer (some ⟨b,0,none⟩),.agg #[.int .i64 18,.int .i64 k]] W (SP Z W b v p s (s.wait 18 nm)):=by
 have b1:=B.stk;have b2:=B.made;have b3:=B.opn;have b4:=B.at_;unfold opn at b3;have e:s.wait 18 nm=match(if s.top.kind=1 then yat s.top.num s.timers.list else none)with
  |none=>some s.tGone
  |some i=>bif !(s.timers.list[i]?.getD ⟨0,false,yai,0⟩).over then none else some (({s.pop with timers:=⟨s.timers.list.eraseIdx i,s.timers.next⟩}:MS).push (ybn s.now)).nxt:=rfl
 rw[e];by_cases hx:s.top.kind=1
 ·rw[if_pos hx]
  cases hf:yat s.top.num s.timers.list with
  |none=>exact ydy b v p s W M k (.inr hf) (by omega) hZ _ rfl
  |some i=>
   obtain⟨x,hxi⟩:=findT_some hf;dsimp only;rw[hxi];dsimp only[Option.getD];cases hov:x.over with
   |true=>exact yhX b v p s W M k i x hx hf hxi hov (by omega) (by omega) (by omega) hZ _ rfl
   |false=>exact yge b v p s W M k i x hx hf hxi hov
 ·rw[if_neg hx]
  exact ydy b v p s W M k (.inl hx) (by omega) hZ _ rfl
theorem yh0
  {Z:Nat→Prop}(b:Nat)(v:MV)(p:Img)(s:MS)(W:World)(M:MX TT Z W b v p s)
  (k:Nat)(nm:ByteArray)(B:Bd s)(hZ:∀j,W.heap.size≤j→Z j)
  :Calls Tryz.prog 156 #[.pointer (some ⟨b,0,none⟩),.agg #[.int .i64 21,.int .i64 k]] W (SP Z W b v p s (s.wait 21 nm)):=by
 have b1:=B.stk;have b2:=B.made;have b3:=B.opn;have b4:=B.at_;unfold opn at b3;have e:s.wait 21 nm=match(if s.top.kind=1 then yat s.top.num s.acts.list else none)with
  |none=>some s.tGone
  |some i=>bif !(s.acts.list[i]?.getD ⟨0,false,yai,0⟩).over then none else some ((({s.pop with acts:=⟨s.acts.list.eraseIdx i,s.acts.next⟩}:MS).push (s.acts.list[i]?.getD ⟨0,false,yai,0⟩).result).push (ybn (s.acts.list[i]?.getD ⟨0,false,yai,0⟩).how)).nxt:=rfl
 rw[e];by_cases hx:s.top.kind=1
 ·rw[if_pos hx]
  cases hf:yat s.top.num s.acts.list with
  |none=>exact ydx b v p s W M k (.inr hf) (by omega) hZ _ rfl
  |some i=>
   obtain⟨x,hxi⟩:=findT_some hf;dsimp only;rw[hxi];dsimp only[Option.getD];cases hov:x.over with
   |true=>exact ykx b v p s W M k i x hx hf hxi hov (by omega) (by omega) (by omega) hZ _ rfl
   |false=>exact ygd b v p s W M k i x hx hf hxi hov
 ·rw[if_neg hx]
  exact ydx b v p s W M k (.inl hx) (by omega) hZ _ rfl
theorem yhZ
  {Z:Nat→Prop}(b:Nat)(v:MV)(p:Img)(s:MS)(W:World)(M:MX TT Z W b v p s)
  (k:Nat)(nm:ByteArray)(B:Bd s)(hZ:∀j,W.heap.size≤j→Z j)
  (hnm:p.names[k]? =some nm):
  Calls Tryz.prog 156 #[.pointer (some ⟨b,0,none⟩),.agg #[.int .i64 22,.int .i64 k]] W (SP Z W b v p s (s.wait 22 nm)):=by
 have b1:=B.stk;have b2:=B.made;have b4:=B.at_;have e:s.wait 22 nm=(yap nm s.letters).map (fun i=>((s.openL i).push (s.letV i)).nxt):=rfl;rw[e];cases hf:yap nm s.letters with
 |none=>exact yeR b v p s W M k nm hnm hf
 |some i=>exact ykv b v p s W M k nm hnm i hf (by omega) B.let_ (by omega) hZ _ rfl
theorem yhY
  {Z:Nat→Prop}(b:Nat)(v:MV)(p:Img)(s:MS)(W:World)(M:MX TT Z W b v p s)
  (k:Nat)(nm:ByteArray)(B:Bd s)(hZ:∀j,W.heap.size≤j→Z j)
  (hnm:p.names[k]? =some nm):
  Calls Tryz.prog 156 #[.pointer (some ⟨b,0,none⟩),.agg #[.int .i64 28,.int .i64 k]] W (SP Z W b v p s (s.wait 28 nm)):=by
 have b1:=B.stk;have b2:=B.made;have b3:=B.opn;have b4:=B.at_;unfold opn at b3;have e:s.wait 28 nm=match(if s.top.kind=1 then yat s.top.num s.timers.list else none)with
  |none=>some s.tGone
  |some i=>match yap nm s.letters with
   |some k=>some (((s.pop.openL k).push (s.letV k)).push (yaH true)).nxt
   |none=>bif !(s.timers.list[i]?.getD ⟨0,false,yai,0⟩).over then none else some ((({s.pop with timers:=⟨s.timers.list.eraseIdx i,s.timers.next⟩}:MS).push yai).push (yaH false)).nxt:=rfl
 rw[e];by_cases hx:s.top.kind=1
 ·rw[if_pos hx]
  cases hf:yat s.top.num s.timers.list with
  |none=>exact ydw b v p s W M k (.inr hf) (by omega) hZ _ rfl
  |some i=>
   obtain⟨x,hxi⟩:=findT_some hf;dsimp only;rw[hxi];dsimp only[Option.getD];cases hlt:yap nm s.letters with
   |some j=>exact ygf b v p s W M k i j x nm hnm hlt hx hf hxi (by omega) B.let_ (by omega) hZ _ rfl
   |none=>
    cases hov:x.over with
    |true=>exact ygg b v p s W M k i x hx hf hxi hov (by omega) (by omega) (by omega) hZ _ nm hnm hlt rfl
    |false=>exact ygc b v p s W M k i x nm hnm hlt hx hf hxi hov
 ·rw[if_neg hx]
  exact ydw b v p s W M k (.inl hx) (by omega) hZ _ rfl
theorem ygW
  {Z:Nat→Prop}(b:Nat)(v:MV)(p:Img)(s:MS)(W:World)(M:MX TT Z W b v p s)
  (k:Nat)(nm:ByteArray)(B:Bd s)(hZ:∀j,W.heap.size≤j→Z j)
  (V:Vs s):Calls Tryz.prog 163 #[.pointer (some ⟨b,0,none⟩),.agg #[.int .i64 19,.int .i64 k]] W (MP Z W b v p (.bool true) (s.begin_ 19 nm)):=by
 have b1:=B.stk;have b2:=B.made;have b3:=B.opn;have hb:=V.nt;have ha:=V.na;unfold opn at b3;have e:s.begin_ 19 nm=match(if s.top.kind=1 then yat s.top.num s.timers.list else none)with
  |none=>s.pop.tGone
  |some i=>(bif (s.timers.list[i]?.getD ⟨0,false,yai,0⟩).over then({s.pop with timers:=⟨s.timers.list.eraseIdx i,s.timers.next⟩}:MS)else({s.pop with timers:=⟨s.timers.list.eraseIdx i,s.timers.next⟩}:MS).want ⟨2,0,s.top.num,0,⟨#[]⟩,yai⟩).push (yaH (!(s.timers.list[i]?.getD ⟨0,false,yai,0⟩).over)):=rfl
 rw[e];by_cases hx:s.top.kind=1
 ·rw[if_pos hx]
  cases hf:yat s.top.num s.timers.list with
  |none=>exact yeP b v p s W M k (by omega) (by omega) hZ _ (.inr hf) rfl
  |some i=>
   obtain⟨x,hxi⟩:=findT_some hf;dsimp only;rw[hxi];dsimp only[Option.getD];cases hov:x.over with
   |true=>exact yc4 b v p s W M k (by omega) (by omega) hZ _ i x hx hf hxi hov (by omega) rfl
   |false=>exact yfZ b v p s W M k (by omega) (by omega) hZ _ i x hx hf hxi hov (by omega) rfl
 ·rw[if_neg hx]
  exact yeP b v p s W M k (by omega) (by omega) hZ _ (.inl hx) rfl
theorem ygX
  {Z:Nat→Prop}(b:Nat)(v:MV)(p:Img)(s:MS)(W:World)(M:MX TT Z W b v p s)
  (k:Nat)(nm:ByteArray)(B:Bd s)(hZ:∀j,W.heap.size≤j→Z j)
  (V:Vs s):Calls Tryz.prog 163 #[.pointer (some ⟨b,0,none⟩),.agg #[.int .i64 17,.int .i64 k]] W (MP Z W b v p (.bool true) (s.begin_ 17 nm)):=by
 have b1:=B.stk;have b2:=B.made;have b3:=B.opn;have hb:=V.nt;have ha:=V.na;unfold opn at b3;have e:s.begin_ 17 nm=if s.top.kind≠1∨s.top.num<0∨((17:Int)=20∧1073741824<s.top.num)then s.pop.tRange else
  if 64≤s.timers.list.length+s.acts.list.length then s.pop.tMany else
  (({s.pop with timers:=yb2 s.timers}:MS).want ⟨1,0,s.timers.next+1,s.top.num,⟨#[]⟩,yai⟩).push (ybn (s.timers.next+1)):=rfl
 rw[e];have hn:=((Val.wf_eq _).1 V.top.2).2.1;by_cases hx:s.top.kind≠1∨s.top.num<0∨((17:Int)=20∧1073741824<s.top.num)
 ·rw[if_pos hx]
  exact yfg b v p s W M k (by omega) (by omega) hZ _ (by omega) rfl
 ·rw[if_neg hx]
  by_cases hm:64≤s.timers.list.length+s.acts.list.length
  ·rw[if_pos hm]
   exact yfY b v p s W M k (by omega) (by omega) hZ _ (by omega) (by omega) (by omega) hm rfl
  ·rw[if_neg hm]
   exact ygU b v p s W M k (by omega) (by omega) hZ _ (by omega) (by omega) (by omega) hm (by omega) rfl
theorem ygV
  {Z:Nat→Prop}(b:Nat)(v:MV)(p:Img)(s:MS)(W:World)(M:MX TT Z W b v p s)
  (k:Nat)(nm:ByteArray)(B:Bd s)(hZ:∀j,W.heap.size≤j→Z j)
  (hnm:p.names[k]? =some nm)(V:Vs s):Calls Tryz.prog 163 #[.pointer (some ⟨b,0,none⟩),.agg #[.int .i64 20,.int .i64 k]] W (MP Z W b v p (.bool true) (s.begin_ 20 nm)):=by
 have b1:=B.stk;have b2:=B.made;have b3:=B.opn;have hb:=V.nt;have ha:=V.na;unfold opn at b3;have e:s.begin_ 20 nm=if s.top.kind≠1∨s.top.num<0∨((20:Int)=20∧1073741824<s.top.num)then s.pop.tRange else
  if 64≤s.timers.list.length+s.acts.list.length then s.pop.tMany else
  (({s.pop.pop with acts:=yb2 s.acts}:MS).want ⟨3,0,s.acts.next+1,s.top.num,nm,s.pop.top⟩).push (ybn (s.acts.next+1)):=rfl
 rw[e];have hsz:=ycT V.pop.top;by_cases hx:s.top.kind≠1∨s.top.num<0∨((20:Int)=20∧1073741824<s.top.num)
 ·rw[if_pos hx]
  exact yff b v p s W M k (by omega) (by omega) hZ _ (by omega) rfl
 ·rw[if_neg hx]
  by_cases hm:64≤s.timers.list.length+s.acts.list.length
  ·rw[if_pos hm]
   exact yfX b v p s W M k (by omega) (by omega) hZ _ (by omega) (by omega) (by omega) hm rfl
  ·rw[if_neg hm]
   exact yiL b v p s W M k (by omega) (by omega) hZ _ nm hnm (by omega) (by omega) (by omega) hm (by omega) (by omega) rfl
theorem ygv
  {Z:Nat→Prop}(b:Nat)(v:MV)(p:Img)(s:MS)(W:World)(M:MX TT Z W b v p s)
  (k:Nat)(B:Bd s)(hZ:∀j,W.heap.size≤j→Z j):Calls Tryz.prog 164 #[.pointer (some ⟨b,0,none⟩),.agg #[.int .i64 5,.int .i64 k]] W (MP Z W b v p (.bool true) (s.reckon 5 k)):=by
 have b1:=B.stk;have b2:=B.made;have e:s.reckon 5 k=if s.pop.top.kind≠1∨s.top.kind≠1 then s.pop.pop.tType else s.pop.pop.push (ybn (wrap64 (s.pop.top.num+s.top.num))):=rfl;rw[e];by_cases hx:s.pop.top.kind≠1∨s.top.kind≠1
 ·rw[if_pos hx]
  exact ygq b v p s W M k (by omega) (by omega) hZ _ hx rfl
 ·rw[if_neg hx]
  exact yii b v p s W M k (by omega) (by omega) hZ _ (by omega) (by omega) rfl
theorem ygu
  {Z:Nat→Prop}(b:Nat)(v:MV)(p:Img)(s:MS)(W:World)(M:MX TT Z W b v p s)
  (k:Nat)(B:Bd s)(hZ:∀j,W.heap.size≤j→Z j):Calls Tryz.prog 164 #[.pointer (some ⟨b,0,none⟩),.agg #[.int .i64 6,.int .i64 k]] W (MP Z W b v p (.bool true) (s.reckon 6 k)):=by
 have b1:=B.stk;have b2:=B.made;have e:s.reckon 6 k=if s.pop.top.kind≠1∨s.top.kind≠1 then s.pop.pop.tType else s.pop.pop.push (ybn (wrap64 (s.pop.top.num - s.top.num))):=rfl;rw[e];by_cases hx:s.pop.top.kind≠1∨s.top.kind≠1
 ·rw[if_pos hx]
  exact ygp b v p s W M k (by omega) (by omega) hZ _ hx rfl
 ·rw[if_neg hx]
  exact yih b v p s W M k (by omega) (by omega) hZ _ (by omega) (by omega) rfl
theorem ygt
  {Z:Nat→Prop}(b:Nat)(v:MV)(p:Img)(s:MS)(W:World)(M:MX TT Z W b v p s)
  (k:Nat)(B:Bd s)(hZ:∀j,W.heap.size≤j→Z j):Calls Tryz.prog 164 #[.pointer (some ⟨b,0,none⟩),.agg #[.int .i64 7,.int .i64 k]] W (MP Z W b v p (.bool true) (s.reckon 7 k)):=by
 have b1:=B.stk;have b2:=B.made;have e:s.reckon 7 k=if s.pop.top.kind≠1∨s.top.kind≠1 then s.pop.pop.tType else s.pop.pop.push (ybn (wrap64 (s.pop.top.num*s.top.num))):=rfl;rw[e];by_cases hx:s.pop.top.kind≠1∨s.top.kind≠1
 ·rw[if_pos hx]
  exact ygo b v p s W M k (by omega) (by omega) hZ _ hx rfl
 ·rw[if_neg hx]
  exact yig b v p s W M k (by omega) (by omega) hZ _ (by omega) (by omega) rfl
theorem yfv
  {Z:Nat→Prop}(b:Nat)(v:MV)(p:Img)(s:MS)(W:World)(M:MX TT Z W b v p s)
  (k:Nat)(B:Bd s)(hZ:∀j,W.heap.size≤j→Z j):Calls Tryz.prog 164 #[.pointer (some ⟨b,0,none⟩),.agg #[.int .i64 10,.int .i64 k]] W (MP Z W b v p (.bool true) (s.reckon 10 k)):=by
 have b1:=B.stk;have b2:=B.made;exact yif b v p s W M k (by omega) (by omega) hZ _ rfl
theorem ygs
  {Z:Nat→Prop}(b:Nat)(v:MV)(p:Img)(s:MS)(W:World)(M:MX TT Z W b v p s)
  (k:Nat)(B:Bd s)(hZ:∀j,W.heap.size≤j→Z j):Calls Tryz.prog 164 #[.pointer (some ⟨b,0,none⟩),.agg #[.int .i64 8,.int .i64 k]] W (MP Z W b v p (.bool true) (s.reckon 8 k)):=by
 have b1:=B.stk;have b2:=B.made;exact ygl b v p s W M k (by omega) (by omega) hZ _ rfl
theorem ygr
  {Z:Nat→Prop}(b:Nat)(v:MV)(p:Img)(s:MS)(W:World)(M:MX TT Z W b v p s)
  (k:Nat)(B:Bd s)(hZ:∀j,W.heap.size≤j→Z j):Calls Tryz.prog 164 #[.pointer (some ⟨b,0,none⟩),.agg #[.int .i64 9,.int .i64 k]] W (MP Z W b v p (.bool true) (s.reckon 9 k)):=by
 have b1:=B.stk;have b2:=B.made;exact ygn b v p s W M k (by omega) (by omega) hZ _ rfl
theorem yfs
  {Z:Nat→Prop}(b:Nat)(v:MV)(p:Img)(s:MS)(W:World)(M:MX TT Z W b v p s)
  (k:Nat)(B:Bd s)(hZ:∀j,W.heap.size≤j→Z j):Calls Tryz.prog 164 #[.pointer (some ⟨b,0,none⟩),.agg #[.int .i64 31,.int .i64 k]] W (MP Z W b v p (.bool true) (s.reckon 31 k)):=by
 have b1:=B.stk;have b2:=B.made;have e:s.reckon 31 k=if s.top.kind=3 then s.pop.push (ybn s.top.list.length)else if s.top.kind=2 then s.pop.push (ybn s.top.txt.size)else s.pop.tType:=rfl;rw[e];by_cases h3:s.top.kind=3
 ·rw[if_pos h3]
  exact ydf b v p s W M k (by omega) (by omega) hZ _ h3 rfl
 ·rw[if_neg h3]
  by_cases h2:s.top.kind=2
  ·rw[if_pos h2]
   exact yde b v p s W M k (by omega) (by omega) hZ _ h2 rfl
  ·rw[if_neg h2]
   exact ydg b v p s W M k (by omega) (by omega) hZ _ h3 h2 rfl
theorem yft
  {Z:Nat→Prop}(b:Nat)(v:MV)(p:Img)(s:MS)(W:World)(M:MX TT Z W b v p s)
  (k:Nat)(B:Bd s)(hZ:∀j,W.heap.size≤j→Z j)(V:Vs s):Calls Tryz.prog 164 #[.pointer (some ⟨b,0,none⟩),.agg #[.int .i64 30,.int .i64 k]] W (MP Z W b v p (.bool true) (s.reckon 30 k)):=by
 have b1:=B.stk;have b2:=B.made;have e:s.reckon 30 k=if s.pop.top.kind≠3∨s.top.kind≠1 then s.pop.pop.tType else s.pop.pop.push (yab (if 0≤s.top.num∧s.top.num<s.pop.top.list.length then s.pop.top.list[s.top.num.toNat]?.getD yai else yai)):=rfl;rw[e];by_cases hx:s.pop.top.kind≠3∨s.top.kind≠1
 ·rw[if_pos hx]
  exact ydh b v p s W M k (by omega) (by omega) hZ _ hx rfl
 ·rw[if_neg hx]
  have h3:s.pop.top.kind=3:=by omega
  by_cases hr:0≤s.top.num∧s.top.num<s.pop.top.list.length
  ·rw[if_pos hr]
   obtain⟨i,hi⟩:∃i:Nat,s.top.num=i:=⟨s.top.num.toNat,by omega⟩;obtain⟨y,hy⟩:=yad (l:=s.pop.top.list) (k:=i) (by omega);rw[hi,Int.toNat_natCast,hy];have:=ycT (yjt V.pop.top h3 (zmg hy));exact yep b v p s W M k (by omega) (by omega) hZ _ h3 (by omega) i y hi hy (by omega) rfl
  ·rw[if_neg hr]
   exact ydJ b v p s W M k (by omega) (by omega) hZ _ h3 (by omega) hr rfl
theorem yfr
  {Z:Nat→Prop}(b:Nat)(v:MV)(p:Img)(s:MS)(W:World)(M:MX TT Z W b v p s)
  (k:Nat)(B:Bd s)(hZ:∀j,W.heap.size≤j→Z j)(V:Vs s):Calls Tryz.prog 164 #[.pointer (some ⟨b,0,none⟩),.agg #[.int .i64 32,.int .i64 k]] W (MP Z W b v p (.bool true) (s.reckon 32 k)):=by
 have b1:=B.stk;have b2:=B.made;have e:s.reckon 32 k=if s.pop.top.kind=2∧s.top.kind=2 then s.pop.pop.put (ybH (s.pop.top.txt++s.top.txt))else if s.pop.top.kind=3∧s.top.kind=3 then s.pop.pop.put (yab (.mk 3 0 ⟨#[]⟩ (s.pop.top.list++s.top.list)))else s.pop.pop.tType:=rfl;rw[e];by_cases h2:s.pop.top.kind=2∧s.top.kind=2
 ·rw[if_pos h2]
  have t1:=ylC V.pop.top h2.1;have t2:=ylC V.top h2.2;refine ydK b v p s W M k (by omega) (by omega) hZ _ h2.1 h2.2 (by omega) (by omega) ?_ rfl;rw[ybH,Val.wf,Val.wf.wfL];exact⟨⟨by decide,by decide⟩,⟨by decide,by decide⟩,by rw[ByteArray.size_append];omega,trivial⟩
 ·rw[if_neg h2]
  by_cases h3:s.pop.top.kind=3∧s.top.kind=3
  ·rw[if_pos h3]
   have t1:=ylD V.pop.top h3.1;have t2:=ylD V.top h3.2;refine ydL b v p s W M k (by omega) (by omega) hZ _ h3.1 h3.2 ?_ ?_ rfl
   ·rw[yc5]
    show szV.szL (s.pop.top.list++s.top.list)+30≤_;rw[yeA];omega
   ·refine yb1 _ (yeQ fun x hx=> ?_)
    rcases List.mem_append.1 hx with hx|hx
    ·exact Val.wfL_mem ((Val.wf_eq _).1 V.pop.top.2).2.2.2 hx
    ·exact Val.wfL_mem ((Val.wf_eq _).1 V.top.2).2.2.2 hx
  ·rw[if_neg h3]
   exact ydM b v p s W M k (by omega) (by omega) hZ _ h2 h3 rfl
theorem yfu
  {Z:Nat→Prop}(b:Nat)(v:MV)(p:Img)(s:MS)(W:World)(M:MX TT Z W b v p s)
  (k:Nat)(B:Bd s)(hZ:∀j,W.heap.size≤j→Z j)(hks:k≤s.stk.length)(V:Vs s):Calls Tryz.prog 164 #[.pointer (some ⟨b,0,none⟩),.agg #[.int .i64 29,.int .i64 k]] W (MP Z W b v p (.bool true) (s.reckon 29 k)):=by
 have b1:=B.stk;have b2:=B.made;exact ygm b v p s W M k hks (by omega) (by omega) hZ _ (yeQ fun x hx=>(V.stk x (List.mem_of_mem_drop hx)).2) rfl
theorem yjy
  {Z:Nat→Prop}(b:Nat)(v:MV)(p:Img)(s:MS)(W:World)(M:MX TT Z W b v p s)(fa:Fa)(K:Known p fa)(P:Pk p)(RA:At fa s)(R:Rk p s)(hm:s.made.length≤4294967295)(hl:s.letters.length≤4294967296)(hZ:∀j,W.heap.size≤j→Z j):
  Calls Tryz.prog 139 #[.pointer (some ⟨b,0,none⟩)] W (SP Z W b v p s (yak p s)):=by
 obtain⟨⟨op,a'⟩,hc,h0,h1,ha,hh,_,hmost⟩:=ygY K RA;have ha:0≤a':=ha;obtain⟨a,rfl⟩:∃a:Nat,a'=(a:Int):=⟨a'.toNat,by omega⟩;have hst:s.stk.length≤32:=by have:=(K.low _ _ RA).2;omega
 have hcl:=(ybL K.img).2.1;have hlt:=(zge hc).1;have B:Bd s:=⟨hst,hm,hl,R.opn,by omega⟩;have BN:Bd s.nxt:=⟨hst,hm,hl,R.opn,by show s.at_+1≤513;omega⟩;have hat:s.at_≤4294967296:=by omega
 have hk:s.stk.length≤4294967296:=by omega
 have h0:0≤op:=h0;have h1:op<33:=h1;rcases ykU h0 h1 with rfl|rfl|rfl|rfl|rfl|rfl|rfl|rfl|rfl|rfl|rfl|rfl|rfl|rfl|rfl|rfl|rfl|rfl|rfl|rfl|rfl|rfl|rfl|rfl|rfl|rfl|rfl|rfl|rfl|rfl|rfl|rfl|rfl
 ·have e:yak p s=some s.nxt:=by unfold yak;rw[hc];rfl
  rw[e];exact yhg b v p s W M 0 a hc _ _ _ _ rfl hat hk _ (.inr (.inr (.inl ⟨rfl,rfl⟩)))
 ·obtain⟨x,hx⟩:=yad (l:=p.consts) (k:=a) (by have h:(a:Int)<(p.consts.length:Int):=hmost;omega)
  have hz:=ycT (P.consts x (zmg hx));have e:yak p s=some (s.nxt.push (yab (p.consts[a]?.getD yai))):=by unfold yak;rw[hc];rfl
  rw[e,hx];exact yhf b v p s W M 1 a hc _ _ _ _ rfl hat hk _ hZ (.inr (.inr (.inl ⟨rfl,a,x,rfl,hx,by omega,rfl⟩)))
 ·have e:yak p s=some s.nxt.pop:=by unfold yak;rw[hc];rfl
  rw[e];exact yhg b v p s W M 2 a hc _ _ _ _ rfl hat hk _ (.inr (.inl ⟨rfl,rfl⟩))
 ·have hz:=ycT R.vs.top
  have e:yak p s=some (s.nxt.push (yab s.top)):=by unfold yak;rw[hc];rfl
  rw[e];exact yhf b v p s W M 3 a hc _ _ _ _ rfl hat hk _ hZ (.inl ⟨rfl,by omega,rfl⟩)
 ·have e:yak p s=some ((s.nxt.pop.pop.push s.nxt.top).push s.nxt.pop.top):=by unfold yak;rw[hc];rfl
  rw[e];exact yi6 b v p s W M 4 a rfl hc _ _ _ _ rfl hat hk _ rfl (by have h:(2:Int)≤s.stk.length:=hh;omega)
 ·have e:yak p s=some (s.nxt.reckon 5 a):=by unfold yak;rw[hc];rfl
  rw[e];exact ya7 b v p s W M 5 a hc _ _ _ _ rfl hat hk _ _ (.inr ⟨rfl,by decide⟩) (fun W' v' M' hs=>ygv b v' p s.nxt W' M' a BN (yac hZ hs))
 ·have e:yak p s=some (s.nxt.reckon 6 a):=by unfold yak;rw[hc];rfl
  rw[e];exact ya7 b v p s W M 6 a hc _ _ _ _ rfl hat hk _ _ (.inr ⟨rfl,by decide⟩) (fun W' v' M' hs=>ygu b v' p s.nxt W' M' a BN (yac hZ hs))
 ·have e:yak p s=some (s.nxt.reckon 7 a):=by unfold yak;rw[hc];rfl
  rw[e];exact ya7 b v p s W M 7 a hc _ _ _ _ rfl hat hk _ _ (.inr ⟨rfl,by decide⟩) (fun W' v' M' hs=>ygt b v' p s.nxt W' M' a BN (yac hZ hs))
 ·have e:yak p s=some (s.nxt.reckon 8 a):=by unfold yak;rw[hc];rfl
  rw[e];exact ya7 b v p s W M 8 a hc _ _ _ _ rfl hat hk _ _ (.inr ⟨rfl,by decide⟩) (fun W' v' M' hs=>ygs b v' p s.nxt W' M' a BN (yac hZ hs))
 ·have e:yak p s=some (s.nxt.reckon 9 a):=by unfold yak;rw[hc];rfl
  rw[e];exact ya7 b v p s W M 9 a hc _ _ _ _ rfl hat hk _ _ (.inr ⟨rfl,by decide⟩) (fun W' v' M' hs=>ygr b v' p s.nxt W' M' a BN (yac hZ hs))
 ·have e:yak p s=some (s.nxt.reckon 10 a):=by unfold yak;rw[hc];rfl
  rw[e];exact ya7 b v p s W M 10 a hc _ _ _ _ rfl hat hk _ _ (.inr ⟨rfl,by decide⟩) (fun W' v' M' hs=>yfv b v' p s.nxt W' M' a BN (yac hZ hs))
 ·have e:yak p s=some {s with at_:=a}:=by unfold yak;rw[hc];rfl
  rw[e];exact yi8 b v p s W M a hc _ _ _ _ rfl _ rfl
 ·have e:yak p s=some (bif ycp s.top then s.pop.nxt else{s.pop with at_:=a}):=by unfold yak;rw[hc];rfl
  rw[e];exact ygi b v p s W M 12 rfl a hc _ _ _ _ rfl hat _ rfl
 ·obtain⟨x,hx⟩:=yad (l:=s.places) (k:=a) (by have h:(a:Int)<p.places:=hmost;have:=R.pls;omega)
  have hz:=ycT (R.vs.pls x (zmg hx));have e:yak p s=some (s.nxt.push (yab (s.places[a]?.getD yai))):=by unfold yak;rw[hc];rfl
  rw[e,hx];exact yhf b v p s W M 13 a hc _ _ _ _ rfl hat hk _ hZ (.inr (.inr (.inr ⟨rfl,a,x,rfl,hx,by omega,rfl⟩)))
 ·obtain⟨x,hx⟩:=yad (l:=s.places) (k:=a) (by have h:(a:Int)<p.places:=hmost;have:=R.pls;omega)
  have e:yak p s=some {s.nxt.pop with places:=s.places.set a s.top}:=by unfold yak;rw[hc];rfl
  rw[e];exact yh3 b v p s W M 14 a rfl hc _ _ _ _ rfl hat hk _ a x rfl hx rfl
 ·have hz:=ycT R.vs.inp
  have e:yak p s=some (s.nxt.push (yab s.input)):=by unfold yak;rw[hc];rfl
  rw[e];exact yhf b v p s W M 15 a hc _ _ _ _ rfl hat hk _ hZ (.inr (.inl ⟨rfl,by omega,rfl⟩))
 ·have e:yak p s=some (s.nxt.push (ybn s.now)):=by unfold yak;rw[hc];rfl
  rw[e];exact yhg b v p s W M 16 a hc _ _ _ _ rfl hat hk _ (.inl ⟨rfl,rfl⟩)
 ·have e:yak p s=some (s.nxt.begin_ 17 (p.names[a]?.getD ⟨#[]⟩)):=by unfold yak;rw[hc];rfl
  rw[e];exact ya7 b v p s W M 17 a hc _ _ _ _ rfl hat hk _ _ (.inl ⟨rfl,by decide⟩) (fun W' v' M' hs=>ygX b v' p s.nxt W' M' a _ BN (yac hZ hs) R.vs.nxt)
 ·have e:yak p s=s.wait 18 (p.names[a]?.getD ⟨#[]⟩):=by unfold yak;rw[hc];rfl
  rw[e];have HW:∀(W':World) (v':MV),MX TT Z W' b v' p s→W.heap.size≤W'.heap.size→Calls Tryz.prog 156 #[.pointer (some ⟨b,0,none⟩),.agg #[.int .i64 18,.int .i64 a]] W' (SP Z W' b v' p s (s.wait 18 (p.names[a]?.getD ⟨#[]⟩))):=fun W' v' M' hs=>yh1 b v' p s W' M' a _ B (yac hZ hs);cases hw:s.wait 18 (p.names[a]?.getD ⟨#[]⟩)with
  |none=>rw[hw]at HW;exact ybi b v p s W M 18 a hc _ _ _ _ _ _ rfl false s HW
  |some s'=>rw[hw]at HW;exact ybi b v p s W M 18 a hc _ _ _ _ _ _ rfl true s' HW
 ·have e:yak p s=some (s.nxt.begin_ 19 (p.names[a]?.getD ⟨#[]⟩)):=by unfold yak;rw[hc];rfl
  rw[e];exact ya7 b v p s W M 19 a hc _ _ _ _ rfl hat hk _ _ (.inl ⟨rfl,by decide⟩) (fun W' v' M' hs=>ygW b v' p s.nxt W' M' a _ BN (yac hZ hs) R.vs.nxt)
 ·obtain⟨nm,hnm⟩:=yad (l:=p.names) (k:=a) (by have h:(a:Int)<(p.names.length:Int):=hmost;omega)
  have e:yak p s=some (s.nxt.begin_ 20 (p.names[a]?.getD ⟨#[]⟩)):=by unfold yak;rw[hc];rfl
  rw[e,hnm];exact ya7 b v p s W M 20 a hc _ _ _ _ rfl hat hk _ _ (.inl ⟨rfl,by decide⟩) (fun W' v' M' hs=>ygV b v' p s.nxt W' M' a nm BN (yac hZ hs) hnm R.vs.nxt)
 ·have e:yak p s=s.wait 21 (p.names[a]?.getD ⟨#[]⟩):=by unfold yak;rw[hc];rfl
  rw[e];have HW:∀(W':World) (v':MV),MX TT Z W' b v' p s→W.heap.size≤W'.heap.size→Calls Tryz.prog 156 #[.pointer (some ⟨b,0,none⟩),.agg #[.int .i64 21,.int .i64 a]] W' (SP Z W' b v' p s (s.wait 21 (p.names[a]?.getD ⟨#[]⟩))):=fun W' v' M' hs=>yh0 b v' p s W' M' a _ B (yac hZ hs);cases hw:s.wait 21 (p.names[a]?.getD ⟨#[]⟩)with
  |none=>rw[hw]at HW;exact ybi b v p s W M 21 a hc _ _ _ _ _ _ rfl false s HW
  |some s'=>rw[hw]at HW;exact ybi b v p s W M 21 a hc _ _ _ _ _ _ rfl true s' HW
 ·obtain⟨nm,hnm⟩:=yad (l:=p.names) (k:=a) (by have h:(a:Int)<(p.names.length:Int):=hmost;omega)
  have e:yak p s=s.wait 22 (p.names[a]?.getD ⟨#[]⟩):=by unfold yak;rw[hc];rfl
  rw[e,hnm];simp only[Option.getD_some];have HW:∀(W':World) (v':MV),MX TT Z W' b v' p s→W.heap.size≤W'.heap.size→Calls Tryz.prog 156 #[.pointer (some ⟨b,0,none⟩),.agg #[.int .i64 22,.int .i64 a]] W' (SP Z W' b v' p s (s.wait 22 nm)):=fun W' v' M' hs=>yhZ b v' p s W' M' a nm B (yac hZ hs) hnm;cases hw:s.wait 22 nm with
  |none=>rw[hw]at HW;exact ybi b v p s W M 22 a hc _ _ _ _ _ _ rfl false s HW
  |some s'=>rw[hw]at HW;exact ybi b v p s W M 22 a hc _ _ _ _ _ _ rfl true s' HW
 ·obtain⟨nm,hnm⟩:=yad (l:=p.names) (k:=a) (by have h:(a:Int)<(p.names.length:Int):=hmost;omega)
  have e:yak p s=some (match yap (p.names[a]?.getD ⟨#[]⟩) s.letters with|some i=>((s.nxt.openL i).push (s.letV i)).push (yaH true)|none=>(s.nxt.push yai).push (yaH false)):=by unfold yak;rw[hc];rfl
  rw[e,hnm];simp only[Option.getD_some];cases hf:yap nm s.letters with
  |none=>exact yem b v p s W M 23 a rfl hc _ _ _ _ rfl hat hk _ a nm rfl hnm hf (by omega) rfl
  |some i=>exact yi7 b v p s W M 23 a rfl hc _ _ _ _ rfl hat hk hZ _ a nm rfl hnm i hf hl (by omega) rfl
 ·have e:yak p s=some (s.nxt.push (yaH s.asked)):=by unfold yak;rw[hc];rfl
  rw[e];exact yhg b v p s W M 24 a hc _ _ _ _ rfl hat hk _ (.inr (.inr (.inr ⟨rfl,rfl⟩)))
 ·have hz:=ycT R.vs.top
  have e:yak p s=some (s.pop.want ⟨4,0,0,0,⟨#[]⟩,s.top⟩):=by unfold yak;rw[hc];rfl
  rw[e];exact yeT b v p s W M 25 a hc _ _ _ _ _ rfl _ (fun W' v' M' hs=>yj1 b v' p s W' M' a (by omega) (yac hZ hs) (by omega) _ rfl)
 ·obtain⟨nm,hnm⟩:=yad (l:=p.names) (k:=a) (by have h:(a:Int)<(p.names.length:Int):=hmost;omega)
  have e:yak p s=some (s.want ⟨5,0,0,0,p.names[a]?.getD ⟨#[]⟩,yai⟩):=by unfold yak;rw[hc];rfl
  rw[e,hnm];exact yeT b v p s W M 26 a hc _ _ _ _ _ rfl _ (fun W' v' M' hs=>ylj b v' p s W' M' 26 rfl rfl a nm hnm (by omega) (yac hZ hs) _ rfl)
 ·have hz:=ycT R.vs.top
  have e:yak p s=some (s.pop.want ⟨6,0,0,0,⟨#[]⟩,s.top⟩):=by unfold yak;rw[hc];rfl
  rw[e];exact yeT b v p s W M 27 a hc _ _ _ _ _ rfl _ (fun W' v' M' hs=>yj0 b v' p s W' M' a (by omega) (yac hZ hs) (by omega) _ rfl)
 ·obtain⟨nm,hnm⟩:=yad (l:=p.names) (k:=a) (by have h:(a:Int)<(p.names.length:Int):=hmost;omega)
  have e:yak p s=s.wait 28 (p.names[a]?.getD ⟨#[]⟩):=by unfold yak;rw[hc];rfl
  rw[e,hnm];simp only[Option.getD_some];have HW:∀(W':World) (v':MV),MX TT Z W' b v' p s→W.heap.size≤W'.heap.size→Calls Tryz.prog 156 #[.pointer (some ⟨b,0,none⟩),.agg #[.int .i64 28,.int .i64 a]] W' (SP Z W' b v' p s (s.wait 28 nm)):=fun W' v' M' hs=>yhY b v' p s W' M' a nm B (yac hZ hs) hnm;cases hw:s.wait 28 nm with
  |none=>rw[hw]at HW;exact ybi b v p s W M 28 a hc _ _ _ _ _ _ rfl false s HW
  |some s'=>rw[hw]at HW;exact ybi b v p s W M 28 a hc _ _ _ _ _ _ rfl true s' HW
 ·have e:yak p s=some (s.nxt.reckon 29 a):=by unfold yak;rw[hc];rfl
  rw[e];exact ya7 b v p s W M 29 a hc _ _ _ _ rfl hat hk _ _ (.inr ⟨rfl,by decide⟩) (fun W' v' M' hs=>yfu b v' p s.nxt W' M' a BN (yac hZ hs) (by have h:(a:Int)≤s.stk.length:=hh;show a≤s.stk.length;omega) R.vs.nxt)
 ·have e:yak p s=some (s.nxt.reckon 30 a):=by unfold yak;rw[hc];rfl
  rw[e];exact ya7 b v p s W M 30 a hc _ _ _ _ rfl hat hk _ _ (.inr ⟨rfl,by decide⟩) (fun W' v' M' hs=>yft b v' p s.nxt W' M' a BN (yac hZ hs) R.vs.nxt)
 ·have e:yak p s=some (s.nxt.reckon 31 a):=by unfold yak;rw[hc];rfl
  rw[e];exact ya7 b v p s W M 31 a hc _ _ _ _ rfl hat hk _ _ (.inr ⟨rfl,by decide⟩) (fun W' v' M' hs=>yfs b v' p s.nxt W' M' a BN (yac hZ hs))
 ·have e:yak p s=some (s.nxt.reckon 32 a):=by unfold yak;rw[hc];rfl
  rw[e];exact ya7 b v p s W M 32 a hc _ _ _ _ rfl hat hk _ _ (.inr ⟨rfl,by decide⟩) (fun W' v' M' hs=>yfr b v' p s.nxt W' M' a BN (yac hZ hs) R.vs.nxt)
def ynE (Z:Nat→Prop)(b:Nat)(v:MV)(p:Img)(fa:Fa)(r:MS)(W:World)(gk:Nat)(wr:World):Prop:=
 ∃(v':MV) (s':MS),MX TT Z wr b v' p s'∧MK b v W v' wr∧Rk p s'∧(s'.over=false→At fa s'∧yfG p fa s'≤gk)∧ya2 p gk s'=r∧s'.made.length+gk≤4000000000∧s'.letters.length≤4294967296∧s'.steps+gk≤4000000000
theorem ydF {p:Img}{s:MS}(h:s.over=true):∀f,ya2 p f s=s
 |0=>rfl
 |f+1=>by rw[ya2,h];rfl
theorem ylZ
  {Z:Nat→Prop}(b:Nat)(v:MV)(p:Img)(s:MS)(W:World)(M:MX TT Z W b v p s)(fa:Fa)(K:Known p fa)(P:Pk p)(R:Rk p s)(f:Nat)(hA:s.over=false→At fa s∧yfG p fa s≤f)(hm:s.made.length+f≤4000000000)(hl:s.letters.length≤4294967296)(hs:s.steps+f≤4000000000)(hZ:∀j,W.heap.size≤j→Z j)(r:MS)(hr:ya2 p f s=r):
  Calls Tryz.prog 109 #[.pointer (some ⟨b,0,none⟩)] W (MP Z W b v p (.tuple #[]) r):=by
 have HX:=zh7 M R hA hr hm hl hs;clear M R hA hr hm hl hs;go_enter Tryz.func109,Tryz.ntmps109;go_wp2_with fail;go_loopg [] f (fun gk wr=>ynE Z b v p fa r W gk wr)
 case atStart=>exact⟨v,s,HX.o.1,MK.refl _ _ _,HX.o.2.1,HX.o.2.2.1,HX.o.2.2.2.1,HX.o.2.2.2.2.1,HX.o.2.2.2.2.2.1,HX.o.2.2.2.2.2.2⟩
 case round=>
  obtain⟨v',s',M',K',R',hA,hr,hmd,hlt,hst⟩:=hrel;have c19:wr.cell? ⟨b,19,none⟩=some (.bool s'.over):=M'.cell (k:=19) rfl;have bl:=zlt M'.h;cases ho:s'.over with
  |true=>
   rw[ho]at c19;have HE:=zh3 (show s'=r by rw[←hr,ydF ho]) M' K';clear hA hr hmd hlt hst ho M' K' R';go_wp2_with fail
   go_end0
   exact⟨v',rfl,zhd ⟨by rw[←HE.o.1];exact HE.o.2.1,HE.o.2.2⟩⟩
  |false=>
   rw[ho]at c19;obtain⟨hA1,hme⟩:=hA ho;have hpos:=ydm K hA1;obtain⟨f',rfl⟩:∃f',gk=f'+1:=⟨gk - 1,by omega⟩;have SA:=zhd (yjy b v' p s' wr M' fa K P hA1 R' (by omega) hlt (yac hZ K'.keeps.size));cases hsm:yak p s' with
   |none=>
    rw[hsm]at SA;have HE:=zh2 (show s'=r by rw[←hr,ya2,ho,hsm];rfl) K';clear hA hA1 hme hpos hr hmd hlt hst ho M' K' R' hsm;go_wp2_with fail;refine SA.o.mono ?_;rintro e w4 ⟨v4,rfl,H4⟩;go_wp2_with fail
    go_end0
    exact⟨v4,rfl,zhd ⟨by rw[←HE.o.1];exact H4.o.1,HE.o.2.trans H4.o.2⟩⟩
   |some s2=>
    rw[hsm]at SA;have hfr:=(ybw hsm).steps;have hms:=ydB K hA1 hsm;obtain⟨l,hl1,hl2,_⟩:=MdR.step hsm;have hl3:=(LmR.step hsm).2;have hR2:Rk p {s2 with steps:=s2.steps+1}:=(R'.step P (by omega) hsm).steps _;have hlm:s2.made.length≤s'.made.length+1:=by rw[hl1,znk];omega
    have hr2:ya2 p f' {s2 with steps:=s2.steps+1}=r:=by rw[←hr,ya2,ho,hsm];rfl
    have hA2:s2.over=false→At fa {s2 with steps:=s2.steps+1}∧yfG p fa {s2 with steps:=s2.steps+1}≤f':=fun e=>by
     rcases hms with h|⟨h,h2⟩
     ·rw[h]at e;cases e
     ·exact⟨h,by show yfG p fa s2≤f';omega⟩
    have hsb:s2.steps≤4000000000:=by omega
    have HA:=zh7 K' hR2 hA2 hr2 (show s2.made.length+f'≤4000000000 by omega) (show s2.letters.length≤4294967296 by omega) (show s2.steps+1+f'≤4000000000 by omega);clear hA hA1 hme hpos hr hmd hlt hst ho M' K' R' hsm hfr hms hl1 hl2 hl3 hR2 hlm hr2 hA2;have atw:wrap64 ((s2.steps:Int)+1)=(s2.steps:Int)+1:=by unfold wrap64;omega
    go_wp2_with fail;refine SA.o.mono ?_;rintro e w4 ⟨v4,rfl,H4⟩;have c24:w4.cell? ⟨b,24,none⟩=some (.int .i64 (s2.steps:Int)):=H4.o.1.cell (k:=24) rfl;have f0:∀o,w4.frozen? ⟨b,o,none⟩=false:=fun o=>H4.o.1.frozen o;have b4:=zlt H4.o.1.h;have SN:=zhd (H4.o.1.scalar 24 (.int .i64 ((s2.steps:Int)+1)) {s2 with steps:=s2.steps+1} rfl rfl rfl rfl rfl rfl rfl rfl);go_wp2_with fail;go_roundg f'
    case measure=>omega
    case rel=>exact⟨v4,{s2 with steps:=s2.steps+1},SN.o.1,HA.o.1.trans (H4.o.2.trans SN.o.2),HA.o.2.1,HA.o.2.2.1,HA.o.2.2.2.1,HA.o.2.2.2.2.1,HA.o.2.2.2.2.2.1,HA.o.2.2.2.2.2.2⟩
theorem yiF
  {Z:Nat→Prop}(b:Nat)(v:MV)(p:Img)(s:MS)(W:World)(M:MX TT Z W b v p s)
  (id how:Int)(y:Val)(ck cn:Int)(cs:ByteArray)(la:Option Addr)(ln lc:Nat)(F:Nat→Prop)(C:CF F W ⟨ck,cn,cs,la,ln,lc⟩ y)(hz:szV y≤1073741824)(hl:s.timers.list.length≤4294967296)(hZ:∀j,W.heap.size≤j→Z j)(s':MS)(hs':s'={s with timers:=⟨ycw id how y s.timers.list,s.timers.next⟩}):
  Calls Tryz.prog 108 #[.pointer (some ⟨b,12,none⟩),.int .i64 id,.int .i64 how,.agg #[.int .i64 ck,.int .i64 cn,.string cs,.slice la ln lc]] W (MP Z W b v p (.tuple #[]) s'):=by
 obtain⟨ss,ic,ps,inp,ts,as_,ls,ms⟩:=v;obtain⟨a,cap,rfl⟩:∃a cap,ts= .slice a s.timers.list.length cap:=M.tms.slice;have b0:=zlt M.h;obtain⟨w0,hw0⟩:∃w0,w0=W.alloc (.cells #[.int .i64 ck,.int .i64 cn,.string cs,.slice la ln lc] 38):=⟨_,rfl⟩;have B0:=zba hw0;have hB:=zha hw0;have q0:=zca hB 0 rfl;have q1:=zca hB 1 rfl;have q2:=zca hB 2 rfl;have q3:=zca hB 3 rfl;have lr:W.heap.size<w0.heap.size:=zlt hB;have b1:b<w0.heap.size:=by omega
 have M0:=M.ext B0;have c0:w0.cell? ⟨b,12,none⟩=some (.slice a s.timers.list.length cap):=M0.cell (k:=12) rfl;have FI:=zhd (fun r hr=>yaN b 12 id s.timers.list a cap _ w0 c0 M0.tms b1 r hr);obtain⟨ks,hR,hP⟩:=M0.tms.cells;have HX:=zh8 M B0 M0 hR hP C hZ hB;clear hB M0 M B0 hR hP C hZ;cases hf:yat id s.timers.list with
 |none=>
  have hE:s'=s:=by rw[hs',yd3 hf]
  have F1:=zhd (FI.o (-1) (by unfold ybv;rw[hf]));clear hs' FI hf;go_enter Tryz.func108,Tryz.ntmps108;go_wp2_with fail;rw[←hw0];clear hw0;refine F1.o.mono ?_;rintro e w1 ⟨rfl,hw⟩;rw[hw];clear hw w1;go_wp2_with fail
  go_end0
  exact⟨_,rfl,zhd (by rw[hE];exact⟨HX.o.2.2.1,MK.ext HX.o.2.1⟩)⟩
 |some i=>
  have F1:=zhd (FI.o (i:Int) (by unfold ybv;rw[hf]));obtain⟨x,hx⟩:∃x,s.timers.list[i]? =some x:=by
   have:∀(l:List Th) (i:Nat),yat id l=some i→∃x,l[i]? =some x:=by
    intro l
    induction l with
    |nil=>intro i h;cases h
    |cons y r ih=>
     intro i h;rw[yat]at h;split at h
     ·cases h;exact⟨y,rfl⟩
     ·cases h2:yat id r with
      |none=>rw[h2]at h;cases h
      |some j=>rw[h2]at h;cases h;obtain⟨x,hx⟩:=ih j h2;exact⟨x,by simpa using hx⟩
   exact this _ _ hf
  obtain⟨⟨tid,tov,⟨vk,vn,vs,va,vl,vc⟩,thow⟩,hc,hC⟩:=HX.o.2.2.2.2.1.get hx;obtain⟨g,off,rfl,hg⟩:=HX.o.2.2.2.1.addr hc;have cc:=fun(j:Nat) (hj:j<7)=>HX.o.2.2.2.1.cell hc (j:=j) hj;have hov:tov=x.over:=hC.over;have hid:tid=x.id:=hC.id;have hix:(i:Int)<s.timers.list.length:=by have:=(zge hx).1;omega
  have m1:w0.cell? ⟨g,off+i*7+1,none⟩=some (.bool x.over):=by rw[zmm,←hov];exact cc 1 (by decide)
  have hend:=ygP (how:=how) (v:=y) hf hx;have HS:=zh5 hs' hend hc hid hl;have hi0:decide ((0:Int)≤(i:Int))=true:=zno (by omega);cases ho:x.over with
  |true=>
   rw[ho]at m1;have hE:s'=s:=by rw[HS.o.1,HS.o.2.1,ho];rfl
   clear hs' FI hf hend cc hC hc hx hov hid hl ho;go_enter Tryz.func108,Tryz.ntmps108;go_wp2_with fail;rw[←hw0];clear hw0;refine F1.o.mono ?_;rintro e w1 ⟨rfl,hw⟩;rw[hw];clear hw w1;go_wp2_with fail
   go_end0
   exact⟨_,rfl,zhd (by rw[hE];exact⟨HX.o.2.2.1,MK.ext HX.o.2.1⟩)⟩
  |false=>
   rw[ho]at m1;have CL:=zhd (yav y ck cn cs la ln lc F w0.drew (HX.o.2.2.2.2.2.1.keep (S:=fun _=>False) (zkb (HX.o.2.1.drew)) (fun _ _ f=>f)) hz);have hE:s'={s with timers:=⟨s.timers.list.set i ⟨x.id,true,yab y,how⟩,s.timers.next⟩}:=by rw[HS.o.1,HS.o.2.1,ho];rfl
   have HE:=zhd hE;have nb:¬g=b:=fun e=>absurd (HX.o.1.sep 3 0 g rfl (by rw[e];rfl)) (by decide);have HC:=zh2 cc nb;clear hs' FI hf hend cc hC hc hx hov hid hl ho hE;go_enter Tryz.func108,Tryz.ntmps108;go_wp2_with fail;rw[←hw0];clear hw0;refine F1.o.mono ?_;rintro e w1 ⟨rfl,hw⟩;rw[hw];clear hw w1;go_wp2_with fail;have c0d:w0.drew.cell? ⟨b,12,none⟩=some (.slice (some ⟨g,off,none⟩) s.timers.list.length cap):=c0;have q0d:w0.drew.cell? ⟨W.heap.size,0,none⟩=some (.int .i64 ck):=q0;have q1d:w0.drew.cell? ⟨W.heap.size,1,none⟩=some (.int .i64 cn):=q1;have q2d:w0.drew.cell? ⟨W.heap.size,2,none⟩=some (.string cs):=q2;have q3d:w0.drew.cell? ⟨W.heap.size,3,none⟩=some (.slice la ln lc):=q3;have nb1:¬g=b:=HC.o.2;have nb2:¬b=g:=fun e=>HC.o.2 e.symm;have hgW:g<W.heap.size:=HX.o.1.tms.lt (g:=g) rfl;have nb3:¬g=W.heap.size:=by omega
   have nb4:¬W.heap.size=g:=by omega
   go_region_held3 (fun W1=>W1.cell? ⟨b,12,none⟩=some (.slice (some ⟨g,off,none⟩) s.timers.list.length cap)∧W1.cell? ⟨W.heap.size,0,none⟩=some (.int .i64 ck)∧W1.cell? ⟨W.heap.size,1,none⟩=some (.int .i64 cn)∧W1.cell? ⟨W.heap.size,2,none⟩=some (.string cs)∧W1.cell? ⟨W.heap.size,3,none⟩=some (.slice la ln lc)) (first|with_reducible exact⟨c0d,q0d,q1d,q2d,q3d⟩|with_reducible exact⟨d1,p0,p1,p2,p3⟩|go_keep|go_simp|(refine⟨?_,?_,?_,?_,?_⟩<;>go_simp)) ((go_at_call 58;refine CL.o.mono ?_;rintro e w5 ⟨⟨k8,n8,s8,la8,ln8,lc8⟩,rfl,hC8⟩;have B5:Below w0.heap.size w0 w5:=znw ((znv w0.heap.size w0).drew) hC8.o.2;have R5:=HX.o.2.2.2.1.below B5;have H5:=zh3 hC8.o.1 B5 R5;have cc:=(fun(j:Nat) (hj:j<7)=>R5.cell HS.o.2.2.1 (j:=j) hj);have e1:w5.cell? ⟨g,off+i*7+1,none⟩=some (.bool tov):=(by rw[zmm];exact cc 1 (by decide));have e2:w5.cell? ⟨g,off+i*7+2,none⟩=some (.int .i64 vk):=(by rw[zmm];exact cc 2 (by decide));have e3:w5.cell? ⟨g,off+i*7+3,none⟩=some (.int .i64 vn):=(by rw[zmm];exact cc 3 (by decide));have e4:w5.cell? ⟨g,off+i*7+4,none⟩=some (.string vs):=(by rw[zmm];exact cc 4 (by decide));have e5:w5.cell? ⟨g,off+i*7+5,none⟩=some (.slice va vl vc):=(by rw[zmm];exact cc 5 (by decide));have e6:w5.cell? ⟨g,off+i*7+6,none⟩=some (.int .i64 thow):=(by rw[zmm];exact cc 6 (by decide));have ef:∀o,w5.frozen? ⟨g,o,none⟩=false:=(fun o=>R5.frozen o);have el:g<w5.heap.size:=znj hg B5.size;have d1:w5.cell? ⟨b,12,none⟩=some (.slice (some ⟨g,off,none⟩) s.timers.list.length cap):=((B5.cell (p:=⟨b,12,none⟩) b1).trans c0);have p0:=(B5.cell (p:=⟨W.heap.size,0,none⟩) lr).trans q0;have p1:=(B5.cell (p:=⟨W.heap.size,1,none⟩) lr).trans q1;have p2:=(B5.cell (p:=⟨W.heap.size,2,none⟩) lr).trans q2;have p3:=(B5.cell (p:=⟨W.heap.size,3,none⟩) lr).trans q3;clear hC8 B5 R5 cc))
   all_goals
    obtain⟨w6,hw6⟩:∃w6,w6=((((((w5.setCell ⟨g,off+i*7+1,none⟩ (.bool true)).setCell ⟨g,off+i*7+6,none⟩ (.int .i64 how)).setCell ⟨g,off+i*7+2,none⟩ (.int .i64 k8)).setCell ⟨g,off+i*7+3,none⟩ (.int .i64 n8)).setCell ⟨g,off+i*7+4,none⟩ (.string s8)).setCell ⟨g,off+i*7+5,none⟩ (.slice la8 ln8 lc8)):=⟨_,rfl⟩;rw[←hw6];have K6:Keeps (fun j=>j=g) w5 w6:=by rw[hw6];exact yeV _ _ _ _ _ _ _ _ _ _ _ _ _ _
    have R6:RowAt w6 193 (.slice (some ⟨g,off,none⟩) s.timers.list.length cap) (ks.set i ⟨tid,true,⟨k8,n8,s8,la8,ln8,lc8⟩,how⟩):=by rw[hw6];exact yey H5.o.2.2 HS.o.2.2.1 how ⟨k8,n8,s8,la8,ln8,lc8⟩
    have M5:=HX.o.2.2.1.ext H5.o.2.1;have C5:CF (MZ Z ⟨ss,ic,ps,inp,.slice (some ⟨g,off,none⟩) s.timers.list.length cap,as_,ls,ms⟩ b) w5 ⟨k8,n8,s8,la8,ln8,lc8⟩ (yab y):=H5.o.1.mono (fun j hj _=>by
     have hj:w0.heap.size≤j:=hj;exact⟨fun e=>by have:=HX.o.1.lt e;omega,HX.o.2.2.2.2.2.2.1 j (by omega)⟩)
    have P5:=(HX.o.2.2.2.2.1.keep (S:=fun _=>False) (zkb H5.o.2.1) (fun _ _ f=>f)).set i (c:=⟨tid,true,⟨k8,n8,s8,la8,ln8,lc8⟩,how⟩) (x:=⟨x.id,true,yab y,how⟩) ⟨HS.o.2.2.2.1,rfl,C5,rfl⟩;have S:=M5.putTms (v1:=.slice (some ⟨g,off,none⟩) s.timers.list.length cap) s' R6 P5 (K6.mono (fun j _ e=>by rw[e];rfl)) (fun g hg=>.inl hg) HE.o;have hself:w6.setCell ⟨b,12,none⟩ (.slice (some ⟨g,off,none⟩) s.timers.list.length cap)=w6:=yb5 ((K6.cell (p:=⟨b,12,none⟩) (zlt M5.h) (fun e=>HC.o.2 e.symm)).trans d1);rw[hself]at S;have HT:=zh2 S.1 ((MK.ext (HX.o.2.1.trans (H5.o.2.1.mono HX.o.2.1.size))).trans S.2);clear S hself P5 C5 M5 R6 K6 hw6 e1 e2 e3 e4 e5 e6 ef el d1;go_wp2_with fail
    go_end0
    exact⟨_,rfl,zhd HT.o⟩
theorem ycZ
  {Z:Nat→Prop}(b:Nat)(v:MV)(p:Img)(s:MS)(W:World)(M:MX TT Z W b v p s)
  (id how:Int)(y:Val)(ck cn:Int)(cs:ByteArray)(la:Option Addr)(ln lc:Nat)(F:Nat→Prop)(C:CF F W ⟨ck,cn,cs,la,ln,lc⟩ y)(hz:szV y≤1073741824)(hl:s.acts.list.length≤4294967296)(hZ:∀j,W.heap.size≤j→Z j)(s':MS)(hs':s'={s with acts:=⟨ycw id how y s.acts.list,s.acts.next⟩}):
  Calls Tryz.prog 108 #[.pointer (some ⟨b,14,none⟩),.int .i64 id,.int .i64 how,.agg #[.int .i64 ck,.int .i64 cn,.string cs,.slice la ln lc]] W (MP Z W b v p (.tuple #[]) s'):=by
 obtain⟨ss,ic,ps,inp,ts,as_,ls,ms⟩:=v;obtain⟨a,cap,rfl⟩:∃a cap,as_= .slice a s.acts.list.length cap:=M.acs.slice;have b0:=zlt M.h;obtain⟨w0,hw0⟩:∃w0,w0=W.alloc (.cells #[.int .i64 ck,.int .i64 cn,.string cs,.slice la ln lc] 38):=⟨_,rfl⟩;have B0:=zba hw0;have hB:=zha hw0;have q0:=zca hB 0 rfl;have q1:=zca hB 1 rfl;have q2:=zca hB 2 rfl;have q3:=zca hB 3 rfl;have lr:W.heap.size<w0.heap.size:=zlt hB;have b1:b<w0.heap.size:=by omega
 have M0:=M.ext B0;have c0:w0.cell? ⟨b,14,none⟩=some (.slice a s.acts.list.length cap):=M0.cell (k:=14) rfl;have FI:=zhd (fun r hr=>yaN b 14 id s.acts.list a cap _ w0 c0 M0.acs b1 r hr);obtain⟨ks,hR,hP⟩:=M0.acs.cells;have HX:=zh8 M B0 M0 hR hP C hZ hB;clear hB M0 M B0 hR hP C hZ;cases hf:yat id s.acts.list with
 |none=>
  have hE:s'=s:=by rw[hs',yd3 hf]
  have F1:=zhd (FI.o (-1) (by unfold ybv;rw[hf]));clear hs' FI hf;go_enter Tryz.func108,Tryz.ntmps108;go_wp2_with fail;rw[←hw0];clear hw0;refine F1.o.mono ?_;rintro e w1 ⟨rfl,hw⟩;rw[hw];clear hw w1;go_wp2_with fail
  go_end0
  exact⟨_,rfl,zhd (by rw[hE];exact⟨HX.o.2.2.1,MK.ext HX.o.2.1⟩)⟩
 |some i=>
  have F1:=zhd (FI.o (i:Int) (by unfold ybv;rw[hf]));obtain⟨x,hx⟩:∃x,s.acts.list[i]? =some x:=by
   have:∀(l:List Th) (i:Nat),yat id l=some i→∃x,l[i]? =some x:=by
    intro l
    induction l with
    |nil=>intro i h;cases h
    |cons y r ih=>
     intro i h;rw[yat]at h;split at h
     ·cases h;exact⟨y,rfl⟩
     ·cases h2:yat id r with
      |none=>rw[h2]at h;cases h
      |some j=>rw[h2]at h;cases h;obtain⟨x,hx⟩:=ih j h2;exact⟨x,by simpa using hx⟩
   exact this _ _ hf
  obtain⟨⟨tid,tov,⟨vk,vn,vs,va,vl,vc⟩,thow⟩,hc,hC⟩:=HX.o.2.2.2.2.1.get hx;obtain⟨g,off,rfl,hg⟩:=HX.o.2.2.2.1.addr hc;have cc:=fun(j:Nat) (hj:j<7)=>HX.o.2.2.2.1.cell hc (j:=j) hj;have hov:tov=x.over:=hC.over;have hid:tid=x.id:=hC.id;have hix:(i:Int)<s.acts.list.length:=by have:=(zge hx).1;omega
  have m1:w0.cell? ⟨g,off+i*7+1,none⟩=some (.bool x.over):=by rw[zmm,←hov];exact cc 1 (by decide)
  have hend:=ygP (how:=how) (v:=y) hf hx;have HS:=zh5 hs' hend hc hid hl;have hi0:decide ((0:Int)≤(i:Int))=true:=zno (by omega);cases ho:x.over with
  |true=>
   rw[ho]at m1;have hE:s'=s:=by rw[HS.o.1,HS.o.2.1,ho];rfl
   clear hs' FI hf hend cc hC hc hx hov hid hl ho;go_enter Tryz.func108,Tryz.ntmps108;go_wp2_with fail;rw[←hw0];clear hw0;refine F1.o.mono ?_;rintro e w1 ⟨rfl,hw⟩;rw[hw];clear hw w1;go_wp2_with fail
   go_end0
   exact⟨_,rfl,zhd (by rw[hE];exact⟨HX.o.2.2.1,MK.ext HX.o.2.1⟩)⟩
  |false=>
   rw[ho]at m1;have CL:=zhd (yav y ck cn cs la ln lc F w0.drew (HX.o.2.2.2.2.2.1.keep (S:=fun _=>False) (zkb (HX.o.2.1.drew)) (fun _ _ f=>f)) hz);have hE:s'={s with acts:=⟨s.acts.list.set i ⟨x.id,true,yab y,how⟩,s.acts.next⟩}:=by rw[HS.o.1,HS.o.2.1,ho];rfl
   have HE:=zhd hE;have nb:¬g=b:=fun e=>absurd (HX.o.1.sep 4 0 g rfl (by rw[e];rfl)) (by decide);have HC:=zh2 cc nb;clear hs' FI hf hend cc hC hc hx hov hid hl ho hE;go_enter Tryz.func108,Tryz.ntmps108;go_wp2_with fail;rw[←hw0];clear hw0;refine F1.o.mono ?_;rintro e w1 ⟨rfl,hw⟩;rw[hw];clear hw w1;go_wp2_with fail;have c0d:w0.drew.cell? ⟨b,14,none⟩=some (.slice (some ⟨g,off,none⟩) s.acts.list.length cap):=c0;have q0d:w0.drew.cell? ⟨W.heap.size,0,none⟩=some (.int .i64 ck):=q0;have q1d:w0.drew.cell? ⟨W.heap.size,1,none⟩=some (.int .i64 cn):=q1;have q2d:w0.drew.cell? ⟨W.heap.size,2,none⟩=some (.string cs):=q2;have q3d:w0.drew.cell? ⟨W.heap.size,3,none⟩=some (.slice la ln lc):=q3;have nb1:¬g=b:=HC.o.2;have nb2:¬b=g:=fun e=>HC.o.2 e.symm;have hgW:g<W.heap.size:=HX.o.1.acs.lt (g:=g) rfl;have nb3:¬g=W.heap.size:=by omega
   have nb4:¬W.heap.size=g:=by omega
   go_region_held3 (fun W1=>W1.cell? ⟨b,14,none⟩=some (.slice (some ⟨g,off,none⟩) s.acts.list.length cap)∧W1.cell? ⟨W.heap.size,0,none⟩=some (.int .i64 ck)∧W1.cell? ⟨W.heap.size,1,none⟩=some (.int .i64 cn)∧W1.cell? ⟨W.heap.size,2,none⟩=some (.string cs)∧W1.cell? ⟨W.heap.size,3,none⟩=some (.slice la ln lc)) (first|with_reducible exact⟨c0d,q0d,q1d,q2d,q3d⟩|with_reducible exact⟨d1,p0,p1,p2,p3⟩|go_keep|go_simp|(refine⟨?_,?_,?_,?_,?_⟩<;>go_simp)) ((go_at_call 58;refine CL.o.mono ?_;rintro e w5 ⟨⟨k8,n8,s8,la8,ln8,lc8⟩,rfl,hC8⟩;have B5:Below w0.heap.size w0 w5:=znw ((znv w0.heap.size w0).drew) hC8.o.2;have R5:=HX.o.2.2.2.1.below B5;have H5:=zh3 hC8.o.1 B5 R5;have cc:=(fun(j:Nat) (hj:j<7)=>R5.cell HS.o.2.2.1 (j:=j) hj);have e1:w5.cell? ⟨g,off+i*7+1,none⟩=some (.bool tov):=(by rw[zmm];exact cc 1 (by decide));have e2:w5.cell? ⟨g,off+i*7+2,none⟩=some (.int .i64 vk):=(by rw[zmm];exact cc 2 (by decide));have e3:w5.cell? ⟨g,off+i*7+3,none⟩=some (.int .i64 vn):=(by rw[zmm];exact cc 3 (by decide));have e4:w5.cell? ⟨g,off+i*7+4,none⟩=some (.string vs):=(by rw[zmm];exact cc 4 (by decide));have e5:w5.cell? ⟨g,off+i*7+5,none⟩=some (.slice va vl vc):=(by rw[zmm];exact cc 5 (by decide));have e6:w5.cell? ⟨g,off+i*7+6,none⟩=some (.int .i64 thow):=(by rw[zmm];exact cc 6 (by decide));have ef:∀o,w5.frozen? ⟨g,o,none⟩=false:=(fun o=>R5.frozen o);have el:g<w5.heap.size:=znj hg B5.size;have d1:w5.cell? ⟨b,14,none⟩=some (.slice (some ⟨g,off,none⟩) s.acts.list.length cap):=((B5.cell (p:=⟨b,14,none⟩) b1).trans c0);have p0:=(B5.cell (p:=⟨W.heap.size,0,none⟩) lr).trans q0;have p1:=(B5.cell (p:=⟨W.heap.size,1,none⟩) lr).trans q1;have p2:=(B5.cell (p:=⟨W.heap.size,2,none⟩) lr).trans q2;have p3:=(B5.cell (p:=⟨W.heap.size,3,none⟩) lr).trans q3;clear hC8 B5 R5 cc))
   all_goals
    obtain⟨w6,hw6⟩:∃w6,w6=((((((w5.setCell ⟨g,off+i*7+1,none⟩ (.bool true)).setCell ⟨g,off+i*7+6,none⟩ (.int .i64 how)).setCell ⟨g,off+i*7+2,none⟩ (.int .i64 k8)).setCell ⟨g,off+i*7+3,none⟩ (.int .i64 n8)).setCell ⟨g,off+i*7+4,none⟩ (.string s8)).setCell ⟨g,off+i*7+5,none⟩ (.slice la8 ln8 lc8)):=⟨_,rfl⟩;rw[←hw6];have K6:Keeps (fun j=>j=g) w5 w6:=by rw[hw6];exact yeV _ _ _ _ _ _ _ _ _ _ _ _ _ _
    have R6:RowAt w6 193 (.slice (some ⟨g,off,none⟩) s.acts.list.length cap) (ks.set i ⟨tid,true,⟨k8,n8,s8,la8,ln8,lc8⟩,how⟩):=by rw[hw6];exact yey H5.o.2.2 HS.o.2.2.1 how ⟨k8,n8,s8,la8,ln8,lc8⟩
    have M5:=HX.o.2.2.1.ext H5.o.2.1;have C5:CF (MZ Z ⟨ss,ic,ps,inp,ts,.slice (some ⟨g,off,none⟩) s.acts.list.length cap,ls,ms⟩ b) w5 ⟨k8,n8,s8,la8,ln8,lc8⟩ (yab y):=H5.o.1.mono (fun j hj _=>by
     have hj:w0.heap.size≤j:=hj;exact⟨fun e=>by have:=HX.o.1.lt e;omega,HX.o.2.2.2.2.2.2.1 j (by omega)⟩)
    have P5:=(HX.o.2.2.2.2.1.keep (S:=fun _=>False) (zkb H5.o.2.1) (fun _ _ f=>f)).set i (c:=⟨tid,true,⟨k8,n8,s8,la8,ln8,lc8⟩,how⟩) (x:=⟨x.id,true,yab y,how⟩) ⟨HS.o.2.2.2.1,rfl,C5,rfl⟩;have S:=M5.putAcs (v1:=.slice (some ⟨g,off,none⟩) s.acts.list.length cap) s' R6 P5 (K6.mono (fun j _ e=>by rw[e];rfl)) (fun g hg=>.inl hg) HE.o;have hself:w6.setCell ⟨b,14,none⟩ (.slice (some ⟨g,off,none⟩) s.acts.list.length cap)=w6:=yb5 ((K6.cell (p:=⟨b,14,none⟩) (zlt M5.h) (fun e=>HC.o.2 e.symm)).trans d1);rw[hself]at S;have HT:=zh2 S.1 ((MK.ext (HX.o.2.1.trans (H5.o.2.1.mono HX.o.2.1.size))).trans S.2);clear S hself P5 C5 M5 R6 K6 hw6 e1 e2 e3 e4 e5 e6 ef el d1;go_wp2_with fail
    go_end0
    exact⟨_,rfl,zhd HT.o⟩
end Go.Proofs.YtpagmlndgblhhaaGreatDoor
namespace Go.Va
open Go.Own Go.RowKit
def wds:List (List UInt8×List UInt8):=[([114,117,110,45,115,116,97,114,116,101,100],[65,66,78,84,86]),
 ([116,97,115,107,45,115,99,104,101,100,117,108,101,100],[66]),
 ([116,97,115,107,45,115,116,97,114,116,101,100],[65,66]),
 ([116,97,115,107,45,99,111,109,112,108,101,116,101,100],[65,66]),
 ([116,97,115,107,45,116,105,109,101,100,45,111,117,116],[66]),
 ([116,97,115,107,45,102,97,105,108,101,100],[66,78]),
 ([97,99,116,105,118,105,116,121,45,115,99,104,101,100,117,108,101,100],[65,66,78,86]),
 ([97,99,116,105,118,105,116,121,45,99,111,109,112,108,101,116,101,100],[65,86]),
 ([97,99,116,105,118,105,116,121,45,102,97,105,108,101,100],[65,78]),
 ([97,99,116,105,118,105,116,121,45,116,105,109,101,100,45,111,117,116],[65]),
 ([116,105,109,101,114,45,115,116,97,114,116,101,100],[65,66]),
 ([116,105,109,101,114,45,102,105,114,101,100],[65]),
 ([116,105,109,101,114,45,99,97,110,99,101,108,101,100],[65]),
 ([115,105,103,110,97,108,45,114,101,99,101,105,118,101,100],[78,86]),
 ([99,97,110,99,101,108,45,114,101,113,117,101,115,116,101,100],[]),
 ([114,117,110,45,99,111,109,112,108,101,116,101,100],[86]),
 ([114,117,110,45,102,97,105,108,101,100],[78]),
 ([114,117,110,45,99,97,110,99,101,108,101,100],[]),
 ([114,117,110,45,116,101,114,109,105,110,97,116,101,100],[78]),
 ([114,117,110,45,116,105,109,101,100,45,111,117,116],[]),
 ([99,111,110,116,105,110,117,101,100,45,97,115,45,110,101,119],[66,86])]
def wl:List (List UInt8×List UInt8)→List UInt8
 |[]=>[]
 |(a,b)::r=>a++58::(b++32::wl r)
def restW (i:Nat):ByteArray:=⟨(wl (wds.drop i)).toArray⟩
def yl6 (i:Nat):ByteArray:=⟨(match wds[i]? with|some (a,b)=>a++58::b|none=>[]).toArray⟩
def yix (i:Nat):ByteArray:=⟨(wds[i]?.getD ([],[])).1.toArray⟩
def ycn (i:Nat):ByteArray:=⟨(wds[i]?.getD ([],[])).2.toArray⟩
theorem ykN (i:Fin 21):Lib.cut (restW i).data.toList [32]=((yl6 i).data.toList,(restW (i+1)).data.toList,true):=by revert i;decide+kernel
theorem yl3 (i:Fin 21):Lib.cut (yl6 i).data.toList [58]=((yix i).data.toList,(ycn i).data.toList,true):=by revert i;decide+kernel
theorem ycD (i:Fin 22):(restW i).size≤367∧(yl6 i).size≤367∧((restW i).size=0↔i.val=21):=by revert i;decide+kernel
theorem yfE (i:Fin 21):(yix i).size≠0∧(yix i).size≤64∧(ycn i).size≤8:=by revert i;decide+kernel
def hasF (s:ByteArray)(c:UInt8):Bool:=decide (0≤Lib.indexByte s.data.toList c)
def evN (k:Int):ByteArray:=if 1≤k∧k≤21 then yix (k.toNat - 1)else⟨#[]⟩
def evF (k:Int):ByteArray:=if 1≤k∧k≤21 then ycn (k.toNat - 1)else⟨#[]⟩
theorem ymo (i:Fin 21):ygO ((i.val:Int)+1)=some (hasF (ycn i) 65,hasF (ycn i) 66,hasF (ycn i) 78,hasF (ycn i) 84,hasF (ycn i) 86):=by revert i;decide+kernel
theorem yeL {k:Int}(h:1≤k∧k≤21):ygO k=some (hasF (evF k) 65,hasF (evF k) 66,hasF (evF k) 78,hasF (evF k) 84,hasF (evF k) 86)∧(evN k).size≠0∧(evF k).size≤8:=by
 obtain⟨i,rfl⟩:∃i:Nat,k=(i:Int)+1:=⟨k.toNat - 1,by omega⟩;have hi:i<21:=by omega
 have e:(((i:Int)+1).toNat - 1)=i:=by omega
 unfold evF evN;rw[if_pos h,if_pos h,e];exact⟨ymo ⟨i,hi⟩,(yfE ⟨i,hi⟩).1,(yfE ⟨i,hi⟩).2.2⟩
theorem ycY {k:Int}(h:¬(1≤k∧k≤21)):ygO k=none∧evN k=⟨#[]⟩∧evF k=⟨#[]⟩:=by
 refine⟨?_,if_neg h,if_neg h⟩;unfold ygO
 repeat' (rw[if_neg (by omega)])
end Go.Va
namespace Go.Proofs.YtpagmlndgblhhaaGreatDoor
open Go.RowKit Go.Own Go.Own.MapTy Go.Va Go.Sort
open Go.Own.Cells (sz enc)
theorem yhK {N:Nat}(s sep a r:ByteArray)(W:World)(G:Gl Tryz.prog N W)(hs:s.size≤400)(h:Lib.cut s.data.toList sep.data.toList=(a.data.toList,r.data.toList,true)):
  Calls Tryz.prog 90 #[.string s,.string sep] W (fun e w'=>e= .returned (.tuple #[.string a,.string r,.bool true])∧Below W.heap.size W w'):=by
 obtain⟨m,hm⟩:=G.m;exact(Any.strings_Cut Tryz.lays145 s sep m W (by omega) hm).mono fun e w' ⟨j1,n,j2⟩=>⟨by rw[j1,h],by rw[j2];exact⟨rfl,rfl,rfl,znc _,fun _ _=>rfl⟩⟩
def yiS (k:Int)(j:Nat):ByteArray:=if(j:Int)=k then evN k else⟨#[]⟩
def yiU (k:Int)(j:Nat):ByteArray:=if(j:Int)=k then evF k else⟨#[]⟩
theorem yjw (k:Int):yiS k 0=⟨#[]⟩∧yiU k 0=⟨#[]⟩:=by
 unfold yiS yiU evN evF;constructor
 ·split
  ·rw[if_neg (by omega)]
  ·rfl
 ·split
  ·rw[if_neg (by omega)]
  ·rfl
def yoL (w:World)(k:Int)(gk:Nat)(v2 v3 v4 v5:Value)(wr:World):Prop:=
 ∃j:Nat,v2= .string (yiS k j)∧v3= .string (yiU k j)∧v4= .string (restW j)∧v5= .int .i64 ((j:Int)+1)∧j≤21∧(j=0∨(j:Int)≤k)∧gk=21 - j∧Below w.heap.size w wr
theorem yjZ {N:Nat}(k:Int)(w:World)(G:Gl Tryz.prog N w):Calls Tryz.prog 53 #[.int .i64 k] w (fun e w'=>e= .returned (.tuple #[.string (evN k),.string (evF k)])∧Below w.heap.size w w'):=by
 have CA:=zhd (fun(i:Nat) (hi:i<21) W (B:Below w.heap.size w W)=>yhK (restW i) ⟨#[32]⟩ (yl6 i) (restW (i+1)) W (G.below B) (by have h:(restW i).size≤367:=(ycD ⟨i,by omega⟩).1;omega) (ykN ⟨i,hi⟩));have CB:=zhd (fun(i:Nat) (hi:i<21) W (B:Below w.heap.size w W)=>yhK (yl6 i) ⟨#[58]⟩ (yix i) (ycn i) W (G.below B) (by have h:(yl6 i).size≤367:=(ycD ⟨i,by omega⟩).2.1;omega) (yl3 ⟨i,hi⟩));have HG:=zhd G;clear G;go_enter Tryz.func53,Tryz.ntmps53;go_wp2_with fail;go_loopg [2,3,4,5] 21 (fun gk v2 v3 v4 v5 wr=>yoL w k gk v2 v3 v4 v5 wr)
 case atStart=>exact⟨0,by rw[(yjw k).1],by rw[(yjw k).2],congrArg Value.string (by kernel_rfl),rfl,znq _,.inl rfl,rfl,znv _ _⟩
 case round=>
  obtain⟨j,rfl,rfl,rfl,rfl,hj,hjk,hgk,hB⟩:=hrel;by_cases h1:(j:Int)+1≤k
  ·by_cases h2:j<21
   ·have hne:(restW j).size≠0:=fun e=>by have:=(ycD ⟨j,by omega⟩).2.2.1 e;simp at this;omega
    obtain⟨r,hr⟩:∃r,restW j=r:=⟨_,rfl⟩;obtain⟨r1,hr1⟩:∃r,restW (j+1)=r:=⟨_,rfl⟩;obtain⟨o,ho⟩:∃o,yl6 j=o:=⟨_,rfl⟩;have C1:=CA.o j h2;rw[hr,hr1,ho]at C1;have C1:=zhd C1;have hb:r.toList.isEmpty=false:=by
     rw[List.isEmpty_eq_false_iff,zml];intro e;rw[hr]at hne;exact hne (by have:=congrArg List.length e;simpa using this)
    have hW:=zhd (show wrap64 ((j:Int)+1+1)=(j:Int)+1+1 from by unfold wrap64;omega);have HJ:=zh5 hgk hB hr hr1 ho;rw[hr];have HM:=zhd (show 21 - (j+1)<gk from by omega);clear hne hr hr1 ho hgk hB;by_cases h3:(j:Int)+1=k
    ·have C2:=CB.o j h2
     rw[HJ.o.2.2.2.2]at C2;have C2:=zhd C2;have hk3:((j:Int)+1==k)=true:=by rw[beq_iff_eq];exact h3
     have hn:yix j=yiS k (j+1)∧ycn j=yiU k (j+1):=by
      unfold yiS yiU evN evF;rw[if_pos (by omega),if_pos (by omega),if_pos (by omega),if_pos (by omega)];have:k.toNat - 1=j:=by omega
      rw[this];exact⟨rfl,rfl⟩
     have HNN:=zhd hn;clear hn;go_wp2_with fail;refine(C1.o _ HJ.o.2.1).mono ?_;rintro e w5 ⟨rfl,hB5⟩;have H5:=zhd (HJ.o.2.1.trans (hB5.mono HJ.o.2.1.size));clear hB5;go_wp2_with fail;refine(C2.o _ H5.o).mono ?_;rintro e w6 ⟨rfl,hB6⟩;have H6:=zhd (H5.o.trans (hB6.mono H5.o.size));clear hB6;go_wp2_with fail;go_roundg (21 - (j+1))
     case measure=>exact HM.o
     case rel=>exact⟨j+1,by rw[HNN.o.1],by rw[HNN.o.2],by rw[HJ.o.2.2.2.1],congrArg (Value.int .i64) (by omega),by omega,.inr (by omega),rfl,H6.o⟩
    ·have hk3:((j:Int)+1==k)=false:=by rw[zna];exact h3
     have hn:yiS k j=yiS k (j+1)∧yiU k j=yiU k (j+1):=by
      unfold yiS yiU;rw[if_neg (by omega),if_neg (by omega),if_neg (by omega),if_neg (by omega)];exact⟨rfl,rfl⟩
     have HNN:=zhd hn;clear hn;go_wp2_with fail;refine(C1.o _ HJ.o.2.1).mono ?_;rintro e w5 ⟨rfl,hB5⟩;have H5:=zhd (HJ.o.2.1.trans (hB5.mono HJ.o.2.1.size));clear hB5;go_wp2_with fail;go_roundg (21 - (j+1))
     case measure=>exact HM.o
     case rel=>exact⟨j+1,by rw[HNN.o.1],by rw[HNN.o.2],by rw[HJ.o.2.2.2.1],congrArg (Value.int .i64) (by omega),by omega,.inr (by omega),rfl,H5.o⟩
   ·have hj1:j=21:=by omega
    have hz:(restW j).toList.isEmpty=true:=by
     have:(restW j).size=0:=by rw[hj1];exact(ycD ⟨21,by omega⟩).2.2.2 rfl
     rw[List.isEmpty_iff,zml];exact List.length_eq_zero_iff.1 (by simpa using this)
    have hE:yiS k j=evN k∧yiU k j=evF k:=by
     unfold yiS yiU evN evF;rw[if_neg (by omega),if_neg (by omega),if_neg (by omega),if_neg (by omega)];exact⟨rfl,rfl⟩
    rw[hE.1,hE.2];have HB:=zhd hB;generalize restW j=r at*;clear hE hB hgk hjk hj1;go_wp2_with fail
    go_ret2
    exact⟨rfl,HB.o⟩
  ·have hE:yiS k j=evN k∧yiU k j=evF k:=by
    unfold yiS yiU;by_cases e:(j:Int)=k
    ·rw[if_pos e,if_pos e];exact⟨rfl,rfl⟩
    ·rw[if_neg e,if_neg e]
     unfold evN evF;rw[if_neg (by omega),if_neg (by omega)];exact⟨rfl,rfl⟩
   rw[hE.1,hE.2];have HB:=zhd hB;clear hE hB hgk hjk;go_wp2_with fail
   go_ret2
   exact⟨rfl,HB.o⟩
theorem ydV (s:ByteArray)(c:UInt8)(w:World)(b:Bool)(hb:hasF s c=b):Calls Tryz.prog 54 #[.string s,.int .u8 (c.toNat:Int)] w (fun e w'=>e= .returned (.bool b)∧w=w'):=by
 have IB0:=Any.strings_IndexByte Tryz.lays137 s (c.toNat:Int) w;have hc:(c.toNat:Int).toNat.toUInt8=c:=by simp
 rw[hc]at IB0;have IB:=zhd (show Calls Tryz.prog 98 #[.string s,.int .u8 (c.toNat:Int)] w (fun e w'=>e= .returned (.int .i64 (Lib.indexByte s.data.toList c))∧w'=w)from IB0);clear IB0;unfold hasF at hb;generalize Lib.indexByte s.data.toList c=z at*;have HB:=zhd hb;clear hb hc;go_enter Tryz.func54,Tryz.ntmps54;go_wp2_with fail;refine IB.o.mono ?_;rintro e w1 ⟨rfl,hw⟩;rw[hw];clear hw w1;go_wp2_with fail;go_ret;exact⟨by rw[←HB.o];rfl,rfl⟩
theorem yba (id t k a b:Int)(nm tx:ByteArray)(vk vn:Int)(vs:ByteArray)(la:Option Addr)(ln lc:Nat)(w:World)(r:Bool)(hr:decide (16≤k∧k≤21)=r):
  Calls Tryz.prog 35 #[.agg #[.int .i64 id,.int .i64 t,.int .i64 k,.int .i64 a,.int .i64 b,.string nm,.string tx,.int .i64 vk,.int .i64 vn,.string vs,.slice la ln lc]] w (fun e w'=>e= .returned (.bool r)∧Below w.heap.size w w'):=by
 by_cases h1:16≤k
 ·by_cases h2:k≤21
  ·have hr:r=true:=by rw[←hr];exact zno ⟨h1,h2⟩
   subst hr;go_enter Tryz.func35,Tryz.ntmps35;go_wp2_with fail;go_ret;exact⟨rfl,zal⟩
  ·have hr:r=false:=by rw[←hr];exact znd (fun h=>h2 h.2)
   subst hr;go_enter Tryz.func35,Tryz.ntmps35;go_wp2_with fail;go_ret;exact⟨rfl,zal⟩
 ·have hr:r=false:=by rw[←hr];exact znd (fun h=>h1 h.1)
  subst hr;go_enter Tryz.func35,Tryz.ntmps35;go_wp2_with fail;go_ret;exact⟨rfl,zal⟩
end Go.Proofs.YtpagmlndgblhhaaGreatDoor
