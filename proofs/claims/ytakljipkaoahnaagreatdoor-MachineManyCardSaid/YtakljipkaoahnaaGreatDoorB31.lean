/- Parts of the proof: what the functions and the plain laws give that later parts lean on. Conditions: none beyond those that each theorem names. -/
import Derived.Test.YtakljipkaoahnaaGreatDoorB23
import Derived.Test.YtakljipkaoahnaaGreatDoorB30
set_option maxRecDepth 100000
set_option maxHeartbeats 8000000
namespace Go.Va
open Go.Own
theorem hsK_le (H:Nat→Int)(n:Nat){j k:Nat}(h:j≤k):(hsK H n k)[j]? =some (H j):=by
 unfold hsK
 rw[List.getElem?_append_left (by simp;omega),List.getElem?_map,List.getElem?_range (by omega)]
 rfl
theorem hsK_gt (H:Nat→Int){n j k:Nat}(h:k<j)(hn:j<n):(hsK H n k)[j]? =some (-1):=by
 unfold hsK
 rw[List.getElem?_append_right (by simp;omega),List.getElem?_replicate,if_pos (by simp;omega)]
theorem hsK_len (H:Nat→Int){n k:Nat}(h:k<n):(hsK H n k).length=n:=by
 unfold hsK
 simp
 omega
theorem hsK_set (H:Nat→Int){n k:Nat}(h:k+1<n):(hsK H n k).set (k+1) (H (k+1))=hsK H n (k+1):=by
 apply List.ext_getElem?
 intro j
 rw[List.getElem?_set]
 by_cases e:k+1=j
 ·subst e
  rw[if_pos rfl,if_pos (by rw[hsK_len H (by omega)];omega),hsK_le H n (Nat.le_refl _)]
 ·rw[if_neg e]
  by_cases h1:j≤k
  ·rw[hsK_le H n h1,hsK_le H n (by omega)]
  ·by_cases h2:j<n
   ·rw[hsK_gt H (by omega) h2,hsK_gt H (by omega) h2]
   ·rw[List.getElem?_eq_none (by rw[hsK_len H (by omega)];omega),List.getElem?_eq_none (by rw[hsK_len H (by omega)];omega)]
theorem bfs_nil (code:List In)(f:Nat)(hs:List Int)(mo:Int):bfsL code f ⟨hs,[],mo⟩=((-1,0),⟨hs,[],mo⟩):=by
 cases f<;>rfl
section
variable{code:List In} {H:Nat→Int} {n k f:Nat} {c:In} {mo:Int}
theorem bfs_one (hc:code[k]? =some c):bfsL code (f+1) ⟨hsK H n k,[k],mo⟩=bif (stepL code.length c k ⟨hsK H n k,[],mo⟩).1 !=0 then(((k:Int),(stepL code.length c k ⟨hsK H n k,[],mo⟩).1),(stepL code.length c k ⟨hsK H n k,[],mo⟩).2)else bfsL code f (stepL code.length c k ⟨hsK H n k,[],mo⟩).2:=by
 rw[bfsL]
 dsimp only
 rw[hc]
theorem step_at (h1:0≤H k - takesL c)(h2:H k - takesL c+(ofL c.op).1.o≤32):stepL n c k ⟨hsK H n k,[],mo⟩=comesL n (H k - takesL c+(ofL c.op).1.o) (followN c k) ⟨hsK H n k,[],max mo (H k - takesL c+(ofL c.op).1.o)⟩:=by
 unfold stepL
 dsimp only
 rw[List.getD_eq_getElem?_getD,hsK_le H n (Nat.le_refl k),Option.getD_some,decide_eq_false (by omega),decide_eq_false (by omega)]
 rfl
theorem bfs_next (hn:code.length=n)(hc:code[k]? =some c)(hf:followN c k=[k+1])(hk:k+1<n)(h1:0≤H k - takesL c)(h3:H k - takesL c+(ofL c.op).1.o=H (k+1))(h2:H (k+1)≤32):
  bfsL code (f+1) ⟨hsK H n k,[k],mo⟩=bfsL code f ⟨hsK H n (k+1),[k+1],max mo (H (k+1))⟩:=by
 rw[bfs_one hc,hn,step_at h1 (by omega),hf,h3,comesL]
 have e:comeL n (k+1) (H (k+1)) ⟨hsK H n k,[],max mo (H (k+1))⟩=(0,⟨hsK H n (k+1),[k+1],max mo (H (k+1))⟩):=by
  unfold comeL
  dsimp only
  rw[decide_eq_false (by omega),List.getD_eq_getElem?_getD,hsK_gt H (Nat.lt_succ_self k) hk,Option.getD_some,hsK_set H hk]
  rfl
 rw[e]
 rfl
theorem bfs_end (hn:code.length=n)(hc:code[k]? =some c)(hf:followN c k=[])(h1:0≤H k - takesL c)(h2:H k - takesL c+(ofL c.op).1.o≤32):
  bfsL code (f+1) ⟨hsK H n k,[k],mo⟩=((-1,0),⟨hsK H n k,[],max mo (H k - takesL c+(ofL c.op).1.o)⟩):=by
 rw[bfs_one hc,hn,step_at h1 h2,hf,comesL]
 exact bfs_nil ..
theorem bfs_run {M:Nat→Int}(hn:code.length=n):∀(m k:Nat),k+m<n→(∀j,k≤j→j<k+m→Straight code H j∧M (j+1)=max (M j) (H (j+1)))→bfsL code (f+m) ⟨hsK H n k,[k],M k⟩=bfsL code f ⟨hsK H n (k+m),[k+m],M (k+m)⟩
 |0,k,_,_=>rfl
 |m+1,k,hk,h=>by
  obtain⟨⟨c,h1,h2,h3,h4,h5⟩,h6⟩:=h k (Nat.le_refl _) (by omega)
  rw[show f+(m+1)=(f+m)+1 by omega,bfs_next hn h1 h2 (by omega) h3 h4 h5,←h6,bfs_run hn m (k+1) (by omega) (fun j hj hj2=>h j (by omega) (by omega))]
  rw[show k+1+m=k+(m+1) by omega]
theorem walk_start (hn:code.length=n)(h0:0<n)(hH:H 0=0):walkL code=bfsL code (n+1) ⟨hsK H n 0,[0],0⟩:=by
 unfold walkL
 dsimp only
 have e:comeL code.length 0 0 ⟨List.replicate code.length (-1),[],0⟩=(0,⟨hsK H n 0,[0],0⟩):=by
  unfold comeL
  dsimp only
  obtain⟨m,rfl⟩:∃m,n=m+1:=⟨n - 1,by omega⟩
  rw[hn,decide_eq_false (by omega)]
  have:(List.replicate (m+1) (-1:Int)).getD 0 0= -1:=by rw[List.replicate_succ];rfl
  rw[this]
  have hs:(List.replicate (m+1) (-1:Int)).set 0 0=hsK H (m+1) 0:=by
   unfold hsK
   simp[List.replicate_succ,List.range_succ,hH]
  rw[hs]
  rfl
 rw[e,hn]
 rfl
theorem walk_run {M:Nat→Int}(hn:code.length=n)(hH:H 0=0)(hM:M 0=0)(k:Nat)(hk:k<n)(h:∀j,j<k→Straight code H j∧M (j+1)=max (M j) (H (j+1))):walkL code=bfsL code (n - k+1) ⟨hsK H n k,[k],M k⟩:=by
 rw[walk_start hn (by omega) hH,←hM,show n+1=(n - k+1)+k by omega]
 have:=bfs_run (f:=n - k+1) (M:=M) (H:=H) (code:=code) hn k 0 (by omega) (fun j _ hj=>h j (by omega))
 rwa[Nat.zero_add]at this
end
theorem way_rank {code:List In}{φ:Nat→Nat}(h:∀k x,restsAt code k=false→x∈followAt code k→φ k<φ x){p x:Nat}(w:Way code p x):φ p<φ x:=by
 induction w with
 |one h1 h2=>exact h _ _ h1 h2
 |more _ h2 h3 ih=>have:=h _ _ h2 h3;omega
theorem round_rank {code:List In}{φ:Nat→Nat}(hcl:∀k x,x∈followAt code k→x<code.length)(h:∀k x,restsAt code k=false→x∈followAt code k→φ k<φ x)(k:Nat):roundL code k=false:=by
 rw[Bool.eq_false_iff]
 intro e
 have:=(roundL_law (fun k x _ hx=>hcl k x hx)).1 e
 have:=way_rank h this.2
 omega
theorem firstR_all {code:List In}:∀(l:List Int) (k:Nat),(∀j,roundL code j=false)→firstR code k l=none
 |[],_,_=>rfl
 |y::r,k,h=>by
  rw[firstR,h k,Bool.and_false]
  exact firstR_all r (k+1) h
end Go.Va
namespace Go.Proofs.YtakljipkaoahnaaGreatDoor
open Go.Va
theorem check_ok {p:Img}{st:KSt}(hi:imgL p=0)(h:walkL p.code=((-1,0),st))(hf:∀j,roundL p.code j=false):checkG p=(⟨st.heights,st.most,(spanM p.code 0 st.heights 0:Nat)⟩,-1,0):=by
 unfold checkG
 rw[hi,h]
 simp only[bne_self_eq_false,cond_false]
 rw[firstR_all _ _ hf]
end Go.Proofs.YtakljipkaoahnaaGreatDoor
namespace Go.Proofs.YtakljipkaoahnaaGreatDoor
open Go.RowKit Go.Own Go.Own.MapTy Go.Va Go.Sort
open Go.Own.Cells (sz enc)
theorem textB_len (ls:List (List UInt8))(b:Nat)(h:∀x∈ls,x.length+1≤b):(textB ls).length≤ls.length*b:=by
 induction ls with
 |nil=>simp[textB]
 |cons x r ih=>
  have h1:=h x (List.mem_cons_self ..)
  have h2:=ih (fun y hy=>h y (List.mem_cons_of_mem _ hy))
  unfold textB at h2⊢
  have h3:(x::r).length*b=r.length*b+b:=by rw[List.length_cons,Nat.add_mul,Nat.one_mul]
  rw[List.flatMap_cons,List.length_append,List.length_append,h3,List.length_singleton]
  omega
theorem textB_app (a b:List (List UInt8)):textB (a++b)=textB a++textB b:=List.flatMap_append
end Go.Proofs.YtakljipkaoahnaaGreatDoor
namespace Go.Va
open Go.Own Go.RowKit
open Go.Proofs.YtakljipkaoahnaaGreatDoor
theorem oper_const1 {s:ByteArray}{v:Val}(h:parseV s.data.toList=(v,0))(n:Int)(st:RSt){i:Nat}{c:List Val}(ha:addV v st.consts=(i,c)):operL 1 n s st=((i:Int),0,{st with consts:=c}):=by
 unfold operL
 rw[if_pos rfl,h]
 dsimp only
 rw[if_neg (by decide),ha]
theorem oper_name2 {s nm:ByteArray}(h:quotedL s.data.toList=some nm)(n:Int)(st:RSt){i:Nat}{c:List ByteArray}(ha:addN nm st.names=(i,c)):operL 2 n s st=((i:Int),0,{st with names:=c}):=by
 unfold operL
 rw[if_neg (by decide),if_pos rfl,h]
 dsimp only
 rw[ha]
theorem line_push7 (n:Int)(st:RSt){i:Nat}{c:List Val}(ha:addV (vInt 7) st.consts=(i,c)):lineL n ⟨push7B.toArray⟩ st=(0,{st with consts:=c,code:=st.code++[⟨1,i⟩]}):=lineL_arg (op:=1) (kd:=1) (by kernel_rfl) (by kernel_rfl) (by kernel_rfl) (by kernel_rfl) (by kernel_rfl) (by kernel_rfl) (oper_const1 (v:=vInt 7) (by kernel_rfl) n st ha)
theorem line_push0 (n:Int)(st:RSt){i:Nat}{c:List Val}(ha:addV (vInt 0) st.consts=(i,c)):lineL n ⟨push0B.toArray⟩ st=(0,{st with consts:=c,code:=st.code++[⟨1,i⟩]}):=lineL_arg (op:=1) (kd:=1) (by kernel_rfl) (by kernel_rfl) (by kernel_rfl) (by kernel_rfl) (by kernel_rfl) (by kernel_rfl) (oper_const1 (v:=vInt 0) (by kernel_rfl) n st ha)
theorem line_call (n:Int)(st:RSt){i:Nat}{c:List ByteArray}(ha:addN payN st.names=(i,c)):lineL n ⟨callB.toArray⟩ st=(0,{st with names:=c,code:=st.code++[⟨20,i⟩]}):=lineL_arg (op:=20) (kd:=2) (by kernel_rfl) (by kernel_rfl) (by kernel_rfl) (by kernel_rfl) (by kernel_rfl) (by kernel_rfl) (oper_name2 (nm:=payN) (by kernel_rfl) n st ha)
theorem line_timer (n:Int)(st:RSt):lineL n ⟨timerB.toArray⟩ st=(0,{st with code:=st.code++[⟨17,0⟩]}):=lineL_op (op:=17) (by kernel_rfl) (by kernel_rfl) (by kernel_rfl) (by kernel_rfl) (by kernel_rfl) n st
theorem line_return (n:Int)(st:RSt):lineL n ⟨returnB.toArray⟩ st=(0,{st with code:=st.code++[⟨25,0⟩]}):=lineL_op (op:=25) (by kernel_rfl) (by kernel_rfl) (by kernel_rfl) (by kernel_rfl) (by kernel_rfl) n st
theorem rep_flat {α:Type}(l:List α)(k:Nat):(List.replicate (k+1) l).flatten=(List.replicate k l).flatten++l:=by
 rw[List.replicate_succ',List.flatten_append]
 simp
theorem blk_lines (act:Bool)(k n:Nat):linesR ((blkT act).map mkB) n (manyS act k)=((0,0),manyS act (k+1)):=by
 have hk:(if k=0 then true else false)=true∨k≠0:=by by_cases h:k=0<;>simp[h]
 cases act with
 |false=>
  have ha:addV (vInt 7) (manyS false k).consts=(0,[vInt 7]):=by
   show addV (vInt 7) (manyK false k)=_
   unfold manyK
   by_cases h:k=0
   ·rw[if_pos h];kernel_rfl
   ·rw[if_neg h];kernel_rfl
  have e:linesR ((blkT false).map mkB) n (manyS false k)=linesR ([mkB push7B]++([mkB timerB]++[mkB popB])) n (manyS false k):=rfl
  rw[e,linesR_app (a:=[mkB push7B]) (linesR_one (line_push7 _ _ ha)),linesR_app (a:=[mkB timerB]) (linesR_one (line_timer _ _)),linesR_one (l:=mkB popB) (line_pop _ _)]
  unfold manyS
  rw[rep_flat]
  simp[manyK,manyN,blkI]
 |true=>
  have ha:addV (vInt 7) (manyS true k).consts=(0,bif decide (k=0)then[vInt 7]else[vInt 7,vInt 0]):=by
   show addV (vInt 7) (manyK true k)=_
   unfold manyK
   by_cases h:k=0
   ·rw[if_pos h,decide_eq_true h];kernel_rfl
   ·rw[if_neg h,decide_eq_false h];kernel_rfl
  have hb:addV (vInt 0) (bif decide (k=0)then[vInt 7]else[vInt 7,vInt 0])=(1,[vInt 7,vInt 0]):=by
   cases decide (k=0)<;>kernel_rfl
  have hc:addN payN (manyN true k)=(0,[payN]):=by
   unfold manyN
   by_cases h:k=0
   ·rw[if_pos h];kernel_rfl
   ·rw[if_neg h];kernel_rfl
  have e:linesR ((blkT true).map mkB) n (manyS true k)=linesR ([mkB push7B]++([mkB push0B]++([mkB callB]++[mkB popB]))) n (manyS true k):=rfl
  rw[e,linesR_app (a:=[mkB push7B]) (linesR_one (line_push7 _ _ ha)),linesR_app (a:=[mkB push0B]) (linesR_one (line_push0 _ _ hb)),linesR_app (a:=[mkB callB]) (linesR_one (line_call _ _ hc)),linesR_one (l:=mkB popB) (line_pop _ _)]
  unfold manyS
  rw[rep_flat]
  simp[manyK,manyN,blkI]
theorem blks_lines (act:Bool):∀k,linesR ((List.replicate k (blkT act)).flatten.map mkB) 0 st0=((0,0),manyS act k)
 |0=>rfl
 |k+1=>by
  rw[rep_flat,List.map_append,linesR_app (blks_lines act k)]
  exact blk_lines act k _
theorem blkI_len (act:Bool):(blkI act).length=bm act:=by cases act<;>rfl
theorem flat_len {α:Type}(l:List α):∀n,(List.replicate n l).flatten.length=n*l.length
 |0=>by simp
 |n+1=>by rw[rep_flat,List.length_append,flat_len l n,Nat.add_mul,Nat.one_mul]
theorem many_len (act:Bool)(n:Nat):(manyP act n).code.length=n*bm act+2:=by
 show((List.replicate n (blkI act)).flatten++[_,_]).length=_
 rw[List.length_append,flat_len,blkI_len]
 rfl
theorem flat_get {α:Type}(l t:List α):∀(n k i:Nat),k<n→i<l.length→((List.replicate n l).flatten++t)[k*l.length+i]? =l[i]?
 |0,_,_,h,_=>by omega
 |n+1,k,i,h,hi=>by
  rw[rep_flat]
  by_cases hk:k<n
  ·have:=flat_get l (l++t) n k i hk hi
   rwa[←List.append_assoc]at this
  ·obtain rfl:k=n:=by omega
   rw[List.append_assoc,List.getElem?_append_right (by rw[flat_len];omega),flat_len,Nat.add_sub_cancel_left,List.getElem?_append_left hi]
theorem many_blk (act:Bool){n k i:Nat}(h:k<n)(hi:i<bm act):(manyP act n).code[k*bm act+i]? =(blkI act)[i]? :=by
 rw[←blkI_len]at hi⊢
 exact flat_get _ _ n k i h hi
theorem many_now (act:Bool)(n:Nat):(manyP act n).code[n*bm act]? =some ⟨16,0⟩:=by
 show((List.replicate n (blkI act)).flatten++[_,_])[_]? =_
 rw[List.getElem?_append_right (by rw[flat_len,blkI_len];omega),flat_len,blkI_len,Nat.sub_self]
 rfl
theorem many_ret (act:Bool)(n:Nat):(manyP act n).code[n*bm act+1]? =some ⟨25,0⟩:=by
 show((List.replicate n (blkI act)).flatten++[_,_])[_]? =_
 rw[List.getElem?_append_right (by rw[flat_len,blkI_len];omega),flat_len,blkI_len,Nat.add_sub_cancel_left]
 rfl
theorem many_cases (act:Bool){n j:Nat}(h:j<n*bm act+2):(∃k i,k<n∧i<bm act∧j=k*bm act+i)∨j=n*bm act∨j=n*bm act+1:=by
 by_cases hj:j<n*bm act
 ·have hm:0<bm act:=by cases act<;>decide
  exact .inl ⟨j/bm act,j%bm act,Nat.div_lt_of_lt_mul (by rw[Nat.mul_comm];exact hj),Nat.mod_lt _ hm,by rw[Nat.mul_comm];exact(Nat.div_add_mod j (bm act)).symm⟩
 ·omega
theorem many_img (act:Bool){n:Nat}(hn:n≤70):imgL (manyP act n)=0:=by
 have hl:=many_len act n
 have hb:bm act≤4:=by cases act<;>decide
 have hle:n*bm act≤70*4:=Nat.mul_le_mul hn hb
 have hcode:codeErr (manyP act n) (manyP act n).code=0:=codeErr_all (fun c hc=>by
  have hc:c∈(List.replicate n (blkI act)).flatten++[(⟨16,0⟩:In),⟨25,0⟩]:=hc
  rcases List.mem_append.1 hc with hc|hc
  ·have h0:n≠0:=fun e=>by subst e;simp at hc
   have hcb:c∈blkI act:=by
    obtain⟨l,hl,hcl⟩:=List.mem_flatten.1 hc
    rw[List.eq_of_mem_replicate hl]at hcl
    exact hcl
   cases act with
   |false=>
    have hk:(manyP false n).consts=[vInt 7]:=by show manyK false n=_;unfold manyK;rw[if_neg h0];rfl
    simp only[blkI,cond_false,List.mem_cons,List.not_mem_nil,or_false]at hcb
    rcases hcb with rfl|rfl|rfl
    ·exact⟨by kernel_rfl,by decide,by show(0:Int)<mostL (manyP false n) 1;simp[mostL,hk]⟩
    ·exact⟨by kernel_rfl,by decide,by show(0:Int)<mostL (manyP false n) 0;simp[mostL]⟩
    ·exact⟨by kernel_rfl,by decide,by show(0:Int)<mostL (manyP false n) 0;simp[mostL]⟩
   |true=>
    have hk:(manyP true n).consts=[vInt 7,vInt 0]:=by show manyK true n=_;unfold manyK;rw[if_neg h0];rfl
    have hN:(manyP true n).names=[payN]:=by show manyN true n=_;unfold manyN;rw[if_neg h0];rfl
    simp only[blkI,cond_true,List.mem_cons,List.not_mem_nil,or_false]at hcb
    rcases hcb with rfl|rfl|rfl|rfl
    ·exact⟨by kernel_rfl,by decide,by show(0:Int)<mostL (manyP true n) 1;simp[mostL,hk]⟩
    ·exact⟨by kernel_rfl,by decide,by show(1:Int)<mostL (manyP true n) 1;simp[mostL,hk]⟩
    ·exact⟨by kernel_rfl,by decide,by show(0:Int)<mostL (manyP true n) 2;simp[mostL,hN]⟩
    ·exact⟨by kernel_rfl,by decide,by show(0:Int)<mostL (manyP true n) 0;simp[mostL]⟩
  ·simp only[List.mem_cons,List.not_mem_nil,or_false]at hc
   rcases hc with rfl|rfl
   ·exact⟨by kernel_rfl,by decide,by show(0:Int)<mostL (manyP act n) 0;simp[mostL]⟩
   ·exact⟨by kernel_rfl,by decide,by show(0:Int)<mostL (manyP act n) 0;simp[mostL]⟩)
 have hce:constErr (manyP act n).consts=0∧(manyP act n).consts.length≤2:=by
  show constErr (manyK act n)=0∧(manyK act n).length≤2
  unfold manyK
  by_cases h:n=0
  ·rw[if_pos h];exact⟨by kernel_rfl,by decide⟩
  ·rw[if_neg h];cases act<;>exact⟨by kernel_rfl,by decide⟩
 have hne:nameErr (manyP act n).names=0∧(manyP act n).names.length≤1:=by
  show nameErr (manyN act n)=0∧(manyN act n).length≤1
  unfold manyN
  by_cases h:n=0
  ·rw[if_pos h];exact⟨by kernel_rfl,by decide⟩
  ·rw[if_neg h];cases act<;>exact⟨by kernel_rfl,by decide⟩
 unfold imgL
 rw[decide_eq_false (show¬(manyP act n).code.length=0 by omega),hce.1,show(manyP act n).places=0 from rfl,hne.1,hcode,decide_eq_false (show¬512<(manyP act n).code.length by omega),decide_eq_false (show¬64<(manyP act n).consts.length by omega),decide_eq_false (show¬32<(manyP act n).names.length by omega)]
 rfl
theorem many_asm {s:ByteArray}(act:Bool){n:Nat}(hn:n≤70)(hs:s.data.toList=Go.Proofs.YtakljipkaoahnaaGreatDoor.textB (manyT act n)):asmL s=(manyP act n,0,0):=by
 have hq:linesR ((manyT act n).map mkB) 0 st0=((0,0),⟨(manyP act n).code,(manyP act n).consts,(manyP act n).names,0,[],[]⟩):=by
  unfold manyT
  rw[List.map_append,linesR_app (blks_lines act n)]
  have e:[nowB,returnB].map mkB=[mkB nowB]++[mkB returnB]:=rfl
  rw[e,linesR_app (a:=[mkB nowB]) (linesR_one (line_now _ _)),linesR_one (l:=mkB returnB) (line_return _ _)]
  simp[manyS,manyP]
 have hkind:∀x∈manyT act n,10∉x∧x.length+1≤16:=fun x hx=>by
  unfold manyT at hx
  rcases List.mem_append.1 hx with hx|hx
  ·obtain⟨l,hl,hxl⟩:=List.mem_flatten.1 hx
   rw[List.eq_of_mem_replicate hl]at hxl
   cases act with
   |false=>
    simp only[blkT,cond_false,List.mem_cons,List.not_mem_nil,or_false]at hxl
    rcases hxl with rfl|rfl|rfl<;>exact⟨by decide,by decide⟩
   |true=>
    simp only[blkT,cond_true,List.mem_cons,List.not_mem_nil,or_false]at hxl
    rcases hxl with rfl|rfl|rfl|rfl<;>exact⟨by decide,by decide⟩
  ·simp only[List.mem_cons,List.not_mem_nil,or_false]at hx
   rcases hx with rfl|rfl<;>exact⟨by decide,by decide⟩
 have hlen:(manyT act n).length=n*bm act+2:=by
  unfold manyT
  rw[List.length_append,flat_len]
  cases act<;>rfl
 have hb:bm act≤4:=by cases act<;>decide
 have hle:n*bm act≤70*4:=Nat.mul_le_mul hn hb
 have hsz:s.size≤65536:=by
  have h1:=textB_len (manyT act n) 16 (fun x hx=>(hkind x hx).2)
  have h2:s.size=(Go.Proofs.YtakljipkaoahnaaGreatDoor.textB (manyT act n)).length:=by rw[←hs];exact Lib.size_eq s
  omega
 obtain⟨l,r,hlr⟩:∃l r,manyT act n=l::r:=by
  cases h:manyT act n with
  |nil=>rw[h]at hlen;simp at hlen
  |cons l r=>exact⟨l,r,rfl⟩
 rw[hlr]at hs hq hkind
 exact asmL_text hs (fun x hx=>(hkind x hx).1) hsz hq rfl (many_img act hn)
theorem bm_pos (act:Bool):0<bm act:=by cases act<;>decide
theorem mH_blk (act:Bool){n k i:Nat}(hk:k<n)(hi:i<bm act):mH act n (k*bm act+i)=bH act i:=by
 have h:k*bm act+i<n*bm act:=by
  have:(k+1)*bm act≤n*bm act:=Nat.mul_le_mul_right _ hk
  rw[Nat.add_mul,Nat.one_mul]at this
  omega
 unfold mH
 rw[if_pos h,Nat.mul_comm,Nat.mul_add_mod,Nat.mod_eq_of_lt hi]
theorem mH_end (act:Bool)(n i:Nat):mH act n (n*bm act+i)=i:=by
 unfold mH
 rw[if_neg (by omega)]
 push_cast
 omega
theorem mH_next (act:Bool){n k i:Nat}(hk:k<n)(hi:i<bm act):mH act n (k*bm act+i+1)=if i+1=bm act then 0 else bH act (i+1):=by
 by_cases h:i+1=bm act
 ·rw[if_pos h]
  have e:k*bm act+i+1=(k+1)*bm act+0:=by rw[Nat.add_mul,Nat.one_mul];omega
  rw[e]
  by_cases hk2:k+1<n
  ·rw[mH_blk act hk2 (bm_pos act)]
   cases act<;>rfl
  ·obtain rfl:k+1=n:=by omega
   rw[mH_end]
   rfl
 ·rw[if_neg h,Nat.add_assoc]
  exact mH_blk act hk (by omega)
theorem blk_straight (act:Bool){i:Nat}(hi:i<bm act):∃c,(blkI act)[i]? =some c∧(∀k,followN c k=[k+1])∧restsL c=false∧0≤bH act i - takesL c∧bH act i - takesL c+(ofL c.op).1.o=(if i+1=bm act then 0 else bH act (i+1)):=by
 cases act with
 |false=>
  have hi:i<3:=hi
  rcases(by omega:i=0∨i=1∨i=2)with rfl|rfl|rfl
  ·exact⟨_,rfl,fun _=>rfl,rfl,by decide,by decide⟩
  ·exact⟨_,rfl,fun _=>rfl,rfl,by decide,by decide⟩
  ·exact⟨_,rfl,fun _=>rfl,rfl,by decide,by decide⟩
 |true=>
  have hi:i<4:=hi
  rcases(by omega:i=0∨i=1∨i=2∨i=3)with rfl|rfl|rfl|rfl
  ·exact⟨_,rfl,fun _=>rfl,rfl,by decide,by decide⟩
  ·exact⟨_,rfl,fun _=>rfl,rfl,by decide,by decide⟩
  ·exact⟨_,rfl,fun _=>rfl,rfl,by decide,by decide⟩
  ·exact⟨_,rfl,fun _=>rfl,rfl,by decide,by decide⟩
theorem bH_le (act:Bool)(i:Nat):0≤bH act i∧bH act i≤2:=by
 unfold bH
 cases act with
 |false=>simp only[cond_false];split<;>decide
 |true=>
  simp only[cond_true]
  split
  ·decide
  ·split<;>decide
theorem many_straight (act:Bool){n j:Nat}(hj:j<n*bm act+1):Straight (manyP act n).code (mH act n) j:=by
 rcases many_cases act (n:=n) (j:=j) (by omega)with⟨k,i,hk,hi,rfl⟩|rfl|rfl
 ·obtain⟨c,h1,h2,_,h3,h4⟩:=blk_straight act hi
  refine⟨c,by rw[many_blk act hk hi];exact h1,h2 _,?_,?_,?_⟩
  ·rw[mH_blk act hk hi];exact h3
  ·rw[mH_blk act hk hi,mH_next act hk hi];exact h4
  ·rw[mH_next act hk hi]
   split
   ·decide
   ·have:=bH_le act (i+1);omega
 ·refine⟨⟨16,0⟩,many_now act n,rfl,?_,?_,?_⟩
  ·have:=mH_end act n 0
   rw[Nat.add_zero]at this
   rw[this]
   decide
  ·have:=mH_end act n 0
   rw[Nat.add_zero]at this
   rw[this,mH_end act n 1]
   decide
  ·rw[mH_end act n 1];decide
 ·omega
theorem many_ok (act:Bool){n:Nat}(hn:n≤70):∃fa:Fa,checkG (manyP act n)=(fa,-1,0):=by
 have hl:=many_len act n
 have h0:mH act n 0=0:=by
  by_cases h:0<n
  ·have:=mH_blk act (k:=0) h (bm_pos act)
   rw[Nat.zero_mul,Nat.zero_add]at this
   rw[this]
   cases act<;>rfl
  ·obtain rfl:n=0:=by omega
   unfold mH
   rw[if_neg (by simp)]
   simp
 have hw:=walk_run (H:=mH act n) (M:=mM act n) hl h0 rfl (n*bm act+1) (by omega) (fun j hj=>⟨many_straight act hj,rfl⟩)
 have hr:=mH_end act n 1
 have h4:=bfs_end (H:=mH act n) (f:=n*bm act+2 - (n*bm act+1)) (mo:=mM act n (n*bm act+1)) hl (many_ret act n) rfl (by rw[hr];decide) (by rw[hr];decide)
 have hfo:∀j,(followAt (manyP act n).code j=[j+1]∧restsAt (manyP act n).code j=false∧j<n*bm act+1)∨(followAt (manyP act n).code j=[]∧restsAt (manyP act n).code j=true):=fun j=>by
  by_cases hj:j<n*bm act+2
  ·unfold followAt restsAt
   rcases many_cases act hj with⟨k,i,hk,hi,rfl⟩|rfl|rfl
   ·obtain⟨c,h1,h2,h3,_,_⟩:=blk_straight act hi
    have hlt:k*bm act+i<n*bm act:=by
     have:(k+1)*bm act≤n*bm act:=Nat.mul_le_mul_right _ hk
     rw[Nat.add_mul,Nat.one_mul]at this
     omega
    rw[many_blk act hk hi,h1]
    exact .inl ⟨h2 _,h3,by omega⟩
   ·rw[many_now]
    exact .inl ⟨rfl,rfl,by omega⟩
   ·rw[many_ret]
    exact .inr ⟨rfl,rfl⟩
  ·unfold followAt restsAt
   rw[List.getElem?_eq_none (by omega)]
   exact .inr ⟨rfl,rfl⟩
 have hro:=round_rank (code:=(manyP act n).code) (φ:=id) (fun k x hx=>by
  rcases hfo k with⟨e,_,h⟩|⟨e,_⟩
  ·rw[e]at hx
   have:=List.mem_singleton.1 hx
   omega
  ·rw[e]at hx;cases hx) (fun k x _ hx=>by
  rcases hfo k with⟨e,_,h⟩|⟨e,_⟩
  ·rw[e]at hx
   have:=List.mem_singleton.1 hx
   show k<x
   omega
  ·rw[e]at hx;cases hx)
 exact⟨_,check_ok (many_img act hn) (hw.trans h4) hro⟩
theorem run_one {p:Img}{s s':MS}(ho:s.over=false)(h:stepM p s=some s')(f:Nat):runM p (f+1) s=runM p f {s' with steps:=s'.steps+1}:=by rw[runM,ho,h];rfl
theorem many_const (act:Bool){n:Nat}(h:0<n):(manyP act n).consts=bif act then[vInt 7,vInt 0]else[vInt 7]:=by
 show manyK act n=_
 unfold manyK
 rw[if_neg (by omega)]
theorem run_over {p:Img}:∀(g:Nat) (X:MS),X.over=true→runM p g X=X
 |0,_,_=>rfl
 |g+1,X,hX=>by rw[runM,hX];rfl
theorem run_same {p:Img}{g h:Nat}{X Y:MS}(e:X=Y)(ho:X.over=true):runM p g X=runM p h Y:=by
 subst e
 rw[run_over _ _ ho,run_over _ _ ho]
theorem many_block (act:Bool){n k:Nat}(hk:k<n){s:MS}(S:Bk act n k s):∃s',(∀f,runM (manyP act n) (f+bm act) s=runM (manyP act n) f s')∧(k<64→Bk act n (k+1) s')∧(64≤k→s'.over=true∧s'.trap=⟨#[109,97,110,121]⟩∧s'.made.length=k+1):=by
 have hc:=many_const act (show 0<n by omega)
 have hcode:=fun i (hi:i<bm act)=>many_blk act hk hi
 cases act with
 |false=>
  have hc0:(manyP false n).code[k*3]? =some ⟨1,0⟩:=hcode 0 (by decide)
  have hc1:(manyP false n).code[k*3+1]? =some ⟨17,0⟩:=hcode 1 (by decide)
  have hc2:(manyP false n).code[k*3+2]? =some ⟨2,0⟩:=hcode 2 (by decide)
  have hat:s.at_=k*3:=S.at_
  have h1:stepM (manyP false n) s=some (s.nxt.push (vInt 7)):=by
   unfold stepM
   rw[hat,hc0]
   show some (s.nxt.push (cloneV ((manyP false n).consts[0]?.getD vNil0)))=_
   rw[hc]
   rfl
  obtain⟨s1,hs1⟩:∃s1:MS,s1={s.nxt.push (vInt 7)with steps:=s.steps+1}:=⟨_,rfl⟩
  have a1:s1.at_=k*3+1:=by rw[hs1];show s.at_+1=_;rw[hat]
  have t1:s1.stk=[vInt 7]:=by rw[hs1];show s.stk++[_]=_;rw[S.stk];rfl
  have h2:stepM (manyP false n) s1=some (s1.nxt.begin_ 17 ((manyP false n).names[0]?.getD ⟨#[]⟩)):=by
   unfold stepM
   rw[a1,hc1]
   rfl
  have hl1:s1.timers.list.length+s1.acts.list.length=k:=by rw[hs1];exact S.things
  have htop:s1.nxt.top=vInt 7:=by show s1.stk.getLast?.getD vNil0=_;rw[t1];rfl
  have hpop:s1.nxt.pop.stk=[]:=by show s1.stk.dropLast=_;rw[t1];rfl
  have hm1:s1.made.length=k:=by rw[hs1];exact S.made
  have ho1:s1.over=false:=by rw[hs1];exact S.over
  have hr1:∀f,runM (manyP false n) (f+3) s=runM (manyP false n) (f+2) s1:=fun f=>by rw[run_one S.over h1];rw[hs1];rfl
  by_cases h64:k<64
  ·have hb:s1.nxt.begin_ 17 ((manyP false n).names[0]?.getD ⟨#[]⟩)=(({s1.nxt.pop with timers:=beginT s1.timers}:MS).want ⟨1,0,s1.timers.next+1,7,⟨#[]⟩,vNil0⟩).push (vInt (s1.timers.next+1)):=by
    unfold MS.begin_
    dsimp only
    rw[if_neg (by decide),htop,if_neg (by decide),if_neg (by show¬64≤s1.timers.list.length+s1.acts.list.length;omega),if_neg (by decide)]
    rfl
   obtain⟨s2,hs2⟩:∃s2:MS,s2={s1.nxt.begin_ 17 ((manyP false n).names[0]?.getD ⟨#[]⟩)with steps:=(s1.nxt.begin_ 17 ((manyP false n).names[0]?.getD ⟨#[]⟩)).steps+1}:=⟨_,rfl⟩
   have hr2:∀f,runM (manyP false n) (f+2) s1=runM (manyP false n) (f+1) s2:=fun f=>by rw[run_one ho1 h2,hs2]
   rw[hb]at hs2
   have a2:s2.at_=k*3+2:=by rw[hs2];show s1.at_+1=_;rw[a1]
   have ho2:s2.over=false:=by rw[hs2];show(s1.over||_)=false;rw[ho1];rfl
   have h3:stepM (manyP false n) s2=some s2.nxt.pop:=by
    unfold stepM
    rw[a2,hc2]
    rfl
   refine⟨{s2.nxt.pop with steps:=s2.steps+1},fun f=> ?_,fun _=>⟨?_,?_,?_,ho2,?_,?_⟩,fun h=>by omega⟩
   ·show runM _ (f+3) s=_
    rw[hr1,hr2,run_one ho2 h3]
    rfl
   ·show s2.at_+1=(k+1)*3
    omega
   ·show s2.stk.dropLast=[]
    rw[hs2]
    show(s1.nxt.pop.stk++[_]).dropLast=[]
    rw[hpop]
    rfl
   ·show s2.timers.list.length+s2.acts.list.length=k+1
    rw[hs2]
    show(s1.timers.list++[_]).length+s1.acts.list.length=k+1
    rw[List.length_append,List.length_singleton]
    omega
   ·show s2.trap=_
    rw[hs2]
    show s1.trap=_
    rw[hs1]
    exact S.trap
   ·show s2.made.length=k+1
    rw[hs2]
    show(s1.made++[_]).length=k+1
    rw[List.length_append,List.length_singleton,hm1]
  ·have hb:s1.nxt.begin_ 17 ((manyP false n).names[0]?.getD ⟨#[]⟩)=s1.nxt.pop.tMany:=by
    unfold MS.begin_
    dsimp only
    rw[if_neg (by decide),htop,if_neg (by decide),if_pos (by show 64≤s1.timers.list.length+s1.acts.list.length;omega)]
   rw[hb]at h2
   have hov:(s1.nxt.pop.tMany).over=true:=fall_over _ _
   refine⟨{s1.nxt.pop.tMany with steps:=s1.steps+1},fun f=> ?_,fun h=>absurd h h64,fun _=>⟨hov,rfl,?_⟩⟩
   ·show runM _ (f+3) s=_
    rw[hr1,run_one ho1 h2]
    exact run_same rfl hov
   ·show(s1.made++[_]).length=k+1
    rw[List.length_append,List.length_singleton,hm1]
 |true=>
  have hc0:(manyP true n).code[k*4]? =some ⟨1,0⟩:=hcode 0 (by decide)
  have hc1:(manyP true n).code[k*4+1]? =some ⟨1,1⟩:=hcode 1 (by decide)
  have hc2:(manyP true n).code[k*4+2]? =some ⟨20,0⟩:=hcode 2 (by decide)
  have hc3:(manyP true n).code[k*4+3]? =some ⟨2,0⟩:=hcode 3 (by decide)
  have hat:s.at_=k*4:=S.at_
  have h0:stepM (manyP true n) s=some (s.nxt.push (vInt 7)):=by
   unfold stepM
   rw[hat,hc0]
   show some (s.nxt.push (cloneV ((manyP true n).consts[0]?.getD vNil0)))=_
   rw[hc]
   rfl
  obtain⟨s0,hs0⟩:∃s0:MS,s0={s.nxt.push (vInt 7)with steps:=s.steps+1}:=⟨_,rfl⟩
  have a0:s0.at_=k*4+1:=by rw[hs0];show s.at_+1=_;rw[hat]
  have t0:s0.stk=[vInt 7]:=by rw[hs0];show s.stk++[_]=_;rw[S.stk];rfl
  have ho0:s0.over=false:=by rw[hs0];exact S.over
  have h1:stepM (manyP true n) s0=some (s0.nxt.push (vInt 0)):=by
   unfold stepM
   rw[a0,hc1]
   show some (s0.nxt.push (cloneV ((manyP true n).consts[1]?.getD vNil0)))=_
   rw[hc]
   rfl
  obtain⟨s1,hs1⟩:∃s1:MS,s1={s0.nxt.push (vInt 0)with steps:=s0.steps+1}:=⟨_,rfl⟩
  have a1:s1.at_=k*4+2:=by rw[hs1];show s0.at_+1=_;rw[a0]
  have t1:s1.stk=[vInt 7,vInt 0]:=by rw[hs1];show s0.stk++[_]=_;rw[t0];rfl
  have h2:stepM (manyP true n) s1=some (s1.nxt.begin_ 20 ((manyP true n).names[0]?.getD ⟨#[]⟩)):=by
   unfold stepM
   rw[a1,hc2]
   rfl
  obtain⟨nm,hnm⟩:∃nm,(manyP true n).names[0]?.getD ⟨#[]⟩=nm:=⟨_,rfl⟩
  rw[hnm]at h2
  have hl1:s1.timers.list.length+s1.acts.list.length=k:=by rw[hs1];show s0.timers.list.length+s0.acts.list.length=k;rw[hs0];exact S.things
  have htop:s1.nxt.top=vInt 0:=by show s1.stk.getLast?.getD vNil0=_;rw[t1];rfl
  have hpop:s1.nxt.pop.pop.stk=[]:=by show s1.stk.dropLast.dropLast=_;rw[t1];rfl
  have hm1:s1.made.length=k:=by rw[hs1];show s0.made.length=k;rw[hs0];exact S.made
  have ho1:s1.over=false:=by rw[hs1];exact ho0
  have htr1:s1.trap=⟨#[]⟩:=by rw[hs1];show s0.trap=_;rw[hs0];exact S.trap
  have hr1:∀f,runM (manyP true n) (f+4) s=runM (manyP true n) (f+2) s1:=fun f=>by
   rw[run_one S.over h0,show({s.nxt.push (vInt 7)with steps:=(s.nxt.push (vInt 7)).steps+1}:MS)=s0 from hs0.symm,run_one ho0 h1,hs1]
   rfl
  by_cases h64:k<64
  ·have hb:s1.nxt.begin_ 20 nm=(({s1.nxt.pop.pop with acts:=beginT s1.acts}:MS).want ⟨3,0,s1.acts.next+1,0,nm,s1.nxt.pop.top⟩).push (vInt (s1.acts.next+1)):=by
    unfold MS.begin_
    dsimp only
    rw[if_neg (by decide),htop,if_neg (by decide),if_neg (by show¬64≤s1.timers.list.length+s1.acts.list.length;omega),if_pos rfl]
    rfl
   obtain⟨s2,hs2⟩:∃s2:MS,s2={s1.nxt.begin_ 20 nm with steps:=(s1.nxt.begin_ 20 nm).steps+1}:=⟨_,rfl⟩
   have hr2:∀f,runM (manyP true n) (f+2) s1=runM (manyP true n) (f+1) s2:=fun f=>by rw[run_one ho1 h2,hs2]
   rw[hb]at hs2
   have a2:s2.at_=k*4+3:=by rw[hs2];show s1.at_+1=_;rw[a1]
   have ho2:s2.over=false:=by rw[hs2];show(s1.over||_)=false;rw[ho1];rfl
   have h3:stepM (manyP true n) s2=some s2.nxt.pop:=by
    unfold stepM
    rw[a2,hc3]
    rfl
   refine⟨{s2.nxt.pop with steps:=s2.steps+1},fun f=> ?_,fun _=>⟨?_,?_,?_,ho2,?_,?_⟩,fun h=>by omega⟩
   ·show runM _ (f+4) s=_
    rw[hr1,hr2,run_one ho2 h3]
    rfl
   ·show s2.at_+1=(k+1)*4
    omega
   ·show s2.stk.dropLast=[]
    rw[hs2]
    show(s1.nxt.pop.pop.stk++[_]).dropLast=[]
    rw[hpop]
    rfl
   ·show s2.timers.list.length+s2.acts.list.length=k+1
    rw[hs2]
    show s1.timers.list.length+(s1.acts.list++[_]).length=k+1
    rw[List.length_append,List.length_singleton]
    omega
   ·show s2.trap=_
    rw[hs2]
    exact htr1
   ·show s2.made.length=k+1
    rw[hs2]
    show(s1.made++[_]).length=k+1
    rw[List.length_append,List.length_singleton,hm1]
  ·have hb:s1.nxt.begin_ 20 nm=s1.nxt.pop.tMany:=by
    unfold MS.begin_
    dsimp only
    rw[if_neg (by decide),htop,if_neg (by decide),if_pos (by show 64≤s1.timers.list.length+s1.acts.list.length;omega)]
   rw[hb]at h2
   have hov:(s1.nxt.pop.tMany).over=true:=fall_over _ _
   refine⟨{s1.nxt.pop.tMany with steps:=s1.steps+1},fun f=> ?_,fun h=>absurd h h64,fun _=>⟨hov,rfl,?_⟩⟩
   ·show runM _ (f+4) s=_
    rw[hr1,run_one ho1 h2]
    exact run_same rfl hov
   ·show(s1.made++[_]).length=k+1
    rw[List.length_append,List.length_singleton,hm1]
theorem many_blocks (act:Bool){n:Nat}:∀(m k:Nat),k+m=n→∀s,Bk act n k s→k≤64→(n≤64→∃s',(∀f,runM (manyP act n) (f+m*bm act) s=runM (manyP act n) f s')∧Bk act n n s')∧
  (64<n→∃s',(∀f,runM (manyP act n) (f+m*bm act) s=s')∧s'.trap=⟨#[109,97,110,121]⟩∧s'.made.length=65)
 |0,k,hk,s,S,_=>by
  obtain rfl:k=n:=by omega
  exact⟨fun _=>⟨s,fun f=>by rw[Nat.zero_mul];rfl,S⟩,fun h=>by omega⟩
 |m+1,k,hk,s,S,h64=>by
  obtain⟨s',h1,h2,h3⟩:=many_block act (n:=n) (k:=k) (by omega) S
  have e:∀f,f+(m+1)*bm act=(f+m*bm act)+bm act:=fun f=>by rw[Nat.add_mul,Nat.one_mul];omega
  by_cases hk64:k<64
  ·obtain⟨i1,i2⟩:=many_blocks act m (k+1) (by omega) s' (h2 hk64) (by omega)
   refine⟨fun h=> ?_,fun h=> ?_⟩
   ·obtain⟨t,g1,g2⟩:=i1 h
    exact⟨t,fun f=>by rw[e,h1,g1],g2⟩
   ·obtain⟨t,g1,g2⟩:=i2 h
    exact⟨t,fun f=>by rw[e,h1,g1],g2⟩
  ·obtain⟨g1,g2,g3⟩:=h3 (by omega)
   refine⟨fun h=>by omega,fun _=>⟨s',fun f=>by rw[e,h1,run_over _ _ g1],g2,by omega⟩⟩
theorem many_law (act:Bool)(n:Nat){s:MS}(S:Bk act n 0 s)(f:Nat)(hf:n*bm act+2≤f):(n≤64→(runM (manyP act n) f s).trap=⟨#[]⟩∧(runM (manyP act n) f s).made.length=n+1)∧(64<n→(runM (manyP act n) f s).trap=⟨#[109,97,110,121]⟩∧(runM (manyP act n) f s).made.length=65):=by
 obtain⟨i1,i2⟩:=many_blocks act n 0 (by omega) s S (by omega)
 obtain⟨g,rfl⟩:∃g,f=g+n*bm act:=⟨f - n*bm act,by omega⟩
 refine⟨fun h=> ?_,fun h=> ?_⟩
 ·obtain⟨t,h1,T⟩:=i1 h
  rw[h1]
  obtain⟨g,rfl⟩:∃g',g=g'+2:=⟨g - 2,by omega⟩
  have e1:stepM (manyP act n) t=some (t.nxt.push (vInt t.now)):=by
   unfold stepM
   rw[T.at_,many_now]
   rfl
  obtain⟨t1,ht1⟩:∃t1:MS,t1={t.nxt.push (vInt t.now)with steps:=(t.nxt.push (vInt t.now)).steps+1}:=⟨_,rfl⟩
  have a1:t1.at_=n*bm act+1:=by rw[ht1];show t.at_+1=_;rw[T.at_]
  have e2:stepM (manyP act n) t1=some (t1.pop.want ⟨4,0,0,0,⟨#[]⟩,t1.top⟩):=by
   unfold stepM
   rw[a1,many_ret]
   rfl
  have ho1:t1.over=false:=by rw[ht1];exact T.over
  have hov:(t1.pop.want ⟨4,0,0,0,⟨#[]⟩,t1.top⟩).over=true:=by simp[MS.want]
  have er:runM (manyP act n) (g+2) t={t1.pop.want ⟨4,0,0,0,⟨#[]⟩,t1.top⟩with steps:=t1.steps+1}:=by
   rw[run_one T.over e1,←ht1,run_one ho1 e2]
   exact run_over _ _ hov
  rw[er]
  refine⟨?_,?_⟩
  ·show t1.trap=_
   rw[ht1]
   exact T.trap
  ·show(t1.made++[_]).length=n+1
   rw[List.length_append,List.length_singleton,ht1]
   show t.made.length+1=n+1
   rw[T.made]
 ·obtain⟨t,h1,h2⟩:=i2 h
  rw[h1]
  exact h2
theorem many_clone (act:Bool)(n:Nat):cloneI (manyP act n)=manyP act n:=by
 unfold cloneI manyP manyK
 cases n with
 |zero=>rfl
 |succ n=>cases act<;>rfl
theorem many_apply (act:Bool){n:Nat}(_hn:n≤70):(applyM (manyP act n) (ms0 (manyP act n)) manyEv).1=0∧(n≤64→(applyM (manyP act n) (ms0 (manyP act n)) manyEv).2.trap=⟨#[]⟩∧(applyM (manyP act n) (ms0 (manyP act n)) manyEv).2.made.length=n+1)∧
  (64<n→(applyM (manyP act n) (ms0 (manyP act n)) manyEv).2.trap=⟨#[109,97,110,121]⟩∧(applyM (manyP act n) (ms0 (manyP act n)) manyEv).2.made.length=65):=by
 obtain⟨s1,hs1⟩:∃s1,hear {ms0 (manyP act n)with now:=3,steps:=0,events:=1} manyEv=s1:=⟨_,rfl⟩
 have e:applyM (manyP act n) (ms0 (manyP act n)) manyEv=(0,runF (manyP act n) s1):=by
  unfold applyM
  have h1:¬(evCheck manyEv≠0∨evOut manyEv.kind=false):=by
   have h2:evCheck manyEv=0:=by kernel_rfl
   have h3:evOut manyEv.kind=true:=by kernel_rfl
   rw[h2,h3]
   rintro(h|h)
   ·exact h rfl
   ·cases h
  rw[if_neg h1,if_neg (by show¬(false=true);decide),if_neg (by show¬(false=((1:Int)==1));decide),←hs1]
  rfl
 have B:Bk act n 0 s1:=by rw[←hs1];exact⟨by show 0=0*bm act;rw[Nat.zero_mul],rfl,rfl,rfl,rfl,rfl⟩
 have hf:n*bm act+2≤fuel (manyP act n) s1:=by
  unfold fuel
  rw[many_len]
  have:(n*bm act+2+1)*1≤(n*bm act+2+1)*(pot s1+1):=Nat.mul_le_mul_left _ (by omega)
  omega
 rw[e]
 exact⟨rfl,many_law act n B _ hf⟩
theorem blksT (act:Bool)(i:Nat):Go.Proofs.YtakljipkaoahnaaGreatDoor.textB (List.replicate (i+1) (blkT act)).flatten=Go.Proofs.YtakljipkaoahnaaGreatDoor.textB (List.replicate i (blkT act)).flatten++Go.Proofs.YtakljipkaoahnaaGreatDoor.textB (blkT act):=by
 rw[rep_flat,textB_app]
end Go.Va
namespace Go.Proofs.YtakljipkaoahnaaGreatDoor
open Go.RowKit Go.Own Go.Own.MapTy Go.Va Go.Sort
open Go.Own.Cells (sz enc)
theorem str_app (s:ByteArray)(x:List UInt8):(s++(⟨x.toArray⟩:ByteArray)).data.toList=s.data.toList++x:=by
 rw[ByteArray.data_append,Array.toList_append]
theorem many_walk {N:Nat}(pn:Int)(act:Bool)(W:World)(G:Gl Tryz.prog N W):Calls Tryz.prog 6 #[.int .i64 pn,.bool act] W fun en w'=>en= .returned (.bool true)∧Below W.heap.size W w':=by
 have HG:=zhd G
 clear G
 go_enter Tryz.func6,Tryz.ntmps6
 go_wp2_with fail
 refine(runs_true _ HG.out).mono ?_
 rintro e w1 ⟨rfl,hB1⟩
 have H1:=zhd hB1
 clear hB1
 by_cases h0:pn<0
 ·have _u:=trivial
  go_wp2_with fail
  go_ret
  exact⟨rfl,H1.out⟩
 ·by_cases h70:70<pn
  ·have _u:=trivial
   go_wp2_with fail
   go_ret
   exact⟨rfl,H1.out⟩
  ·obtain⟨n,rfl⟩:∃n:Nat,pn=n:=⟨pn.toNat,by omega⟩
   have hn:n≤70:=by omega
   go_wp2_with fail
   go_loopg [20,5] n (fun gk v20 v5 wr=>∃(i:Nat) (s:ByteArray),v20= .int .i64 i∧v5= .string s∧i≤n∧gk=n - i∧s.data.toList=Go.Proofs.YtakljipkaoahnaaGreatDoor.textB (List.replicate i (blkT act)).flatten∧s.size≤60*i∧wr=w1)
   case atStart=>exact⟨0,⟨#[]⟩,rfl,rfl,Nat.zero_le _,rfl,rfl,Nat.zero_le _,rfl⟩
   case round=>
    obtain⟨i,s,rfl,rfl,hi,hgk,hs,hsz,rfl⟩:=hrel
    by_cases hin:i<n
    ·have hin':(i:Int)<n:=by omega
     have hwi:wrap64 ((i:Int)+1)=(i:Int)+1:=by unfold wrap64;omega
     have HX:=zh3 hs hgk hsz
     have HWI:=zhd hwi
     clear hs hgk hwi
     cases act with
     |true=>
      go_wp2_with fail
      go_roundg (n - (i+1))
      case measure=>have:=HX.out.2.1;omega
      case rel=>exact⟨i+1,s++⟨#[32,32,112,117,115,104,32,55,10,32,32,112,117,115,104,32,48,10,32,32,99,97,108,108,32,34,112,97,121,34,10,32,32,112,111,112,10]⟩,by first|(simp;done)|(simp;exact HWI.out),rfl,by omega,rfl,by rw[blksT,←HX.out.1];exact str_app _ _,by rw[ByteArray.size_append];have:=HX.out.2.2;have:(⟨#[32,32,112,117,115,104,32,55,10,32,32,112,117,115,104,32,48,10,32,32,99,97,108,108,32,34,112,97,121,34,10,32,32,112,111,112,10]⟩:ByteArray).size=37:=rfl;omega,rfl⟩
     |false=>
      go_wp2_with fail
      go_roundg (n - (i+1))
      case measure=>have:=HX.out.2.1;omega
      case rel=>exact⟨i+1,s++⟨#[32,32,112,117,115,104,32,55,10,32,32,116,105,109,101,114,10,32,32,112,111,112,10]⟩,by first|(simp;done)|(simp;exact HWI.out),rfl,by omega,rfl,by rw[blksT,←HX.out.1];exact str_app _ _,by rw[ByteArray.size_append];have:=HX.out.2.2;have:(⟨#[32,32,112,117,115,104,32,55,10,32,32,116,105,109,101,114,10,32,32,112,111,112,10]⟩:ByteArray).size=23:=rfl;omega,rfl⟩
    ·obtain rfl:i=n:=by omega
     have hp:asmL (s++⟨#[32,32,110,111,119,10,32,32,114,101,116,117,114,110,10]⟩)=(manyP act i,0,0):=many_asm act hn (by unfold manyT;rw[textB_app,←hs];exact str_app _ _)
     have PA:=zhd (hp▸asm_any (s++(⟨#[32,32,110,111,119,10,32,32,114,101,116,117,114,110,10]⟩:ByteArray)) wr (HG.out.below H1.out))
     obtain⟨fa,hck⟩:=many_ok act hn
     have HC:=zh2 hck (many_apply act hn)
     clear hs hgk hp hck
     go_wp2_with fail
     refine PA.out.mono ?_
     rintro e w2 ⟨⟨ca,cn,cc,ka,kn,kc,na,nn,nc,pl⟩,rfl,hI2,hB2⟩
     dsimp only
     go_upto_region 13 with(fail)
     refine wp_named ?_
     intro w3 hw3
     have B3:Below w2.heap.size w2 w3:=by rw[hw3];exact(zal).alloc (by simp) _
     have b3:w3.heap[w2.heap.size]? =some (.cells #[.slice ca cn cc,.slice ka kn kc,.slice na nn nc,.int .i64 pl] 27 (0,0)):=by rw[hw3];exact heap_lt2
     have q0:=zca b3 0 rfl
     have q1:=zca b3 1 rfl
     have q2:=zca b3 2 rfl
     have q3:=zca b3 3 rfl
     have ql:=zlt b3
     have hcw:∀x∈(manyP act i).consts,x.wf:=fun x hx=>by
      have hx:x∈manyK act i:=hx
      unfold manyK at hx
      split at hx
      ·cases hx
      ·cases act
       ·rw[List.mem_singleton.1 hx];exact(ok_int (by decide)).2
       ·rcases List.mem_cons.1 hx with rfl|hx
        ·exact(ok_int (by decide)).2
        ·rw[List.mem_singleton.1 hx];exact(ok_int (by decide)).2
     have NW:=zhd (new_any _ w3 ⟨ca,cn,cc,ka,kn,kc,na,nn,nc,pl⟩ (manyP act i) (hI2.keep (S:=fun _=>False) (zkb B3) (fun _ _ f=>f)) hcw _ HC.out.1)
     have H3:=zhd (H1.out.trans ((hB2.trans (B3.mono hB2.size)).mono H1.out.size))
     clear hw3 B3 b3 hI2 hB2 PA hcw
     go_wp2_with fail
     refine NW.out.mono ?_
     rintro e w4 (⟨h,_⟩|⟨_,b,v,rfl,H4⟩)
     ·exact absurd rfl h
     have M4:=H4.out.1
     rw[many_clone]at M4
     have KN:=((checkG_law HC.out.1).2 rfl).2
     have hok:=imgL_ok KN.img
     have S0:St (manyP act i) fa (ms0 (manyP act i)):=St.zero KN hok.2.2.2.2.1
     have PK:Pk (manyP act i):=by
      rw[←many_clone]
      exact⟨fun x hx=>by
       obtain⟨y,hy,rfl⟩:=List.mem_map.1 hx
       have hy:y∈manyK act i:=hy
       unfold manyK at hy
       split at hy
       ·cases hy
       ·cases act
        ·rw[List.mem_singleton.1 hy];exact ok_int (by decide)
        ·rcases List.mem_cons.1 hy with rfl|hy
         ·exact ok_int (by decide)
         ·rw[List.mem_singleton.1 hy];exact ok_int (by decide),fun x hx=>names_ok (by rw[many_clone]at*;exact hok.2.2.2.2.2.2.2.1) x hx⟩
     have BW4:=H3.out.trans (H4.out.2.2.mono H3.out.size)
     obtain⟨st2,hst2⟩:∃st2,applyM (manyP act i) (ms0 (manyP act i)) manyEv=st2:=⟨_,rfl⟩
     have AP:=zhd (fun W' (B:Below w4.heap.size w4 W')=>apply_any b v (manyP act i) _ W' (M4.ext B) (HG.out.below (BW4.trans (B.mono BW4.size))) fa KN PK (span_le HC.out.1) S0 (Nat.zero_le _) (fun q hq=>by have h1:=B.size;have h2:=H4.out.2.2.size;omega) 1 3 1 0 0 ⟨#[]⟩ ⟨#[]⟩ vNil0 0 0 ⟨#[]⟩ none 0 0 (fun _=>False) (cf_nil0 _ _) wf_nil (fun _ f=>f.elim) _ hst2)
     obtain⟨SA,_⟩:=S0.apply KN PK (span_le HC.out.1) manyEv wf_nil (Nat.zero_le _)
     have hL:=HC.out.2
     rw[hst2]at SA hL
     have HL:=zh3 SA hL BW4
     clear q0 q1 q2 q3 ql NW M4 KN hok S0 PK BW4 SA hL hst2
     go_wp2_with fail
     refine(AP.out _ (Below.refl _ _)).mono ?_
     rintro e w5 ⟨v5,rfl,H5⟩
     have hsz:=mds_sz HL.out.1
     have hml:st2.2.made.length≤4294967296:=by
      by_cases h:i≤64
      ·have:=(HL.out.2.1.2.1 h).2;omega
      ·have:=(HL.out.2.1.2.2 (by omega)).2;omega
     have MD:=zhd (fun W' (B:Below w5.heap.size w5 W')=>made_any b v5 _ _ W' (H5.out.1.ext B) hsz hml)
     have BW5:Below W.heap.size W w5:=HL.out.2.2.trans (H5.out.2.keeps.below (by have:=H4.out.2.2.size;have:=H3.out.size;omega) (fun q hq e=>by have:=H4.out.2.1 q e;have:=H3.out.size;omega))
     have HB5:=zhd BW5
     clear AP hsz hml BW5
     go_wp2_with fail
     refine(MD.out _ (Below.refl _ _)).mono ?_
     rintro e w6 ⟨r6,rfl,H6⟩
     have BW6:=HB5.out.trans (H6.out.2.2.mono HB5.out.size)
     have H6B:=zhd BW6
     clear BW6
     have M6:=zhd (H5.out.1.ext H6.out.2.2)
     by_cases hbig:64<i
     ·obtain⟨ht,hlm⟩:=HL.out.2.1.2.2 hbig
      obtain⟨am,cm,rfl⟩:∃a c,r6= .slice a 65 c:=by
       obtain⟨a,c,h⟩:=H6.out.1.slice
       exact⟨a,c,by rw[h,List.length_map,hlm]⟩
      have TR:=zhd (show Calls Tryz.prog 25 #[.pointer (some ⟨b,0,none⟩)] w6 (fun e w'=>e= .returned (.string ⟨#[109,97,110,121]⟩)∧Below w6.heap.size w6 w')from by
       have h:=trap_any b v5 _ _ w6 M6.out
       rw[ht]at h
       exact h)
      have hbig':(64:Int)<i:=by omega
      clear ht hlm MD hbig
      go_wp2_with fail
      refine TR.out.mono ?_
      rintro e w7 ⟨rfl,hB7⟩
      have H7:=zhd (H6B.out.trans (hB7.mono H6B.out.size))
      clear hB7 TR
      go_wp2_with fail
      go_ret
      exact⟨rfl,H7.out⟩
     ·obtain⟨ht,hlm⟩:=HL.out.2.1.2.1 (by omega)
      obtain⟨am,cm,rfl⟩:∃a c,r6= .slice a (i+1) c:=by
       obtain⟨a,c,h⟩:=H6.out.1.slice
       exact⟨a,c,by rw[h,List.length_map,hlm]⟩
      have TR:=zhd (show Calls Tryz.prog 25 #[.pointer (some ⟨b,0,none⟩)] w6 (fun e w'=>e= .returned (.string ⟨#[]⟩)∧Below w6.heap.size w6 w')from by
       have h:=trap_any b v5 _ _ w6 M6.out
       rw[ht]at h
       exact h)
      have hbig':¬(64:Int)<i:=by omega
      have HWI:=zhd (show wrap64 ((i:Int)+1)=(i:Int)+1 by unfold wrap64;omega)
      clear ht hlm MD hbig
      go_wp2_with fail
      refine TR.out.mono ?_
      rintro e w7 ⟨rfl,hB7⟩
      have H7:=zhd (H6B.out.trans (hB7.mono H6B.out.size))
      have hwi:=HWI.out
      clear hB7 TR
      go_wp2_with fail
      go_ret
      exact⟨by simp,H7.out⟩
end Go.Proofs.YtakljipkaoahnaaGreatDoor
