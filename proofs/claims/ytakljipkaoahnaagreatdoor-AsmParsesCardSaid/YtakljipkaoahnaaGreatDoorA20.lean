/- Parts of the proof: what the functions and the plain laws give that later parts lean on. Conditions: none beyond those that each theorem names. -/
import Derived.Test.YtakljipkaoahnaaGreatDoorA15
set_option maxRecDepth 100000
set_option maxHeartbeats 8000000
namespace Go.Proofs.YtakljipkaoahnaaGreatDoor
open Go.RowKit Go.Own Go.Own.MapTy Go.Va Go.Sort
open Go.Own.Cells (sz enc)
def textB (ls:List (List UInt8)):List UInt8:=ls.flatMap (fun l=>l++[10])
theorem index_miss:∀{l:List UInt8},10∉l→Lib.index l [10]= -1
 |[],_=>rfl
 |b::l,h=>by
  have h1:¬(10:UInt8)=b:=fun e=>h (by rw[e];exact List.mem_cons_self ..)
  have ih:=index_miss (l:=l) (fun e=>h (List.mem_cons_of_mem _ e))
  rw[Lib.index,ih]
  have:([10]:List UInt8).isPrefixOf (b::l)=false:=by simp[List.isPrefixOf,h1]
  rw[this]
  rfl
theorem index_at:∀{l rest:List UInt8},10∉l→Lib.index (l++10::rest) [10]=l.length
 |[],rest,_=>by
  rw[List.nil_append,Lib.index]
  have:([10]:List UInt8).isPrefixOf (10::rest)=true:=by simp[List.isPrefixOf]
  rw[this]
  rfl
 |b::l,rest,h=>by
  have h1:¬(10:UInt8)=b:=fun e=>h (by rw[e];exact List.mem_cons_self ..)
  have ih:=index_at (l:=l) (rest:=rest) (fun e=>h (List.mem_cons_of_mem _ e))
  rw[List.cons_append,Lib.index,ih]
  have:([10]:List UInt8).isPrefixOf (b::(l++10::rest))=false:=by simp[List.isPrefixOf,h1]
  rw[this]
  have h2:((l.length:Int)== -1)=false:=by rw[beq_eq_false_iff_ne];omega
  simp only[h2,Bool.false_eq_true,if_false,List.length_cons]
  omega
def joinL:List UInt8→List (List UInt8)→List UInt8
 |l,[]=>l
 |l,m::r=>l++10::joinL m r
theorem textB_join:∀(r:List (List UInt8)) (l:List UInt8),textB (l::r)=joinL l r++[10]
 |[],l=>by simp[textB,joinL]
 |m::r,l=>by
  have:=textB_join r m
  unfold textB at this⊢
  rw[List.flatMap_cons,this,joinL]
  simp
theorem count_join:∀(r:List (List UInt8)) (l:List UInt8),(∀x∈l::r,10∉x)→Lib.count (joinL l r) [10]=r.length
 |[],l,h=>Lib.count_miss (index_miss (h l (List.mem_cons_self ..)))
 |m::r,l,h=>by
  have h1:=index_at (rest:=joinL m r) (h l (List.mem_cons_self ..))
  rw[joinL,Lib.count_hit (by simp) h1]
  have:(l++10::joinL m r).drop (l.length+([10]:List UInt8).length)=joinL m r:=by
   rw[List.drop_append]
   simp
  rw[this,count_join r m (fun x hx=>h x (List.mem_cons_of_mem _ hx)),List.length_cons]
  omega
theorem splitK_join:∀(r:List (List UInt8)) (l:List UInt8),(∀x∈l::r,10∉x)→Lib.splitK [10] 0 r.length (joinL l r)=l::r
 |[],l,_=>rfl
 |m::r,l,h=>by
  have h1:=index_at (rest:=joinL m r) (h l (List.mem_cons_self ..))
  rw[List.length_cons,Lib.splitK,joinL,h1]
  have h2:((l.length:Int)== -1)=false:=by rw[beq_eq_false_iff_ne];omega
  simp only[h2,Bool.false_eq_true,if_false,Int.toNat_natCast,Nat.add_zero]
  have:(l++10::joinL m r).drop (l.length+([10]:List UInt8).length)=joinL m r:=by
   rw[List.drop_append]
   simp
  rw[this,splitK_join r m (fun x hx=>h x (List.mem_cons_of_mem _ hx))]
  simp
theorem suffix_text (l:List UInt8)(r:List (List UInt8)):Lib.hasSuffix (textB (l::r)) [10]=true:=by
 unfold Lib.hasSuffix
 rw[List.isSuffixOf_iff_suffix,textB_join]
 exact⟨_,rfl⟩
theorem textL_eq {s:ByteArray}{l:List UInt8}{r:List (List UInt8)}(hs:s.data.toList=textB (l::r))(hn:∀x∈l::r,10∉x):textL s=(l::r).map (fun x=>⟨x.toArray⟩):=by
 have ht:Lib.trimSuffix s.data.toList [10]=joinL l r:=by
  unfold Lib.trimSuffix
  rw[hs,suffix_text,if_pos rfl,textB_join]
  simp
 have h1:=Lib.splitB_data ⟨#[10]⟩ 0 (Lib.countB ⟨(joinL l r).toArray⟩ ⟨#[10]⟩) ⟨(joinL l r).toArray⟩
 have hc:Lib.countB ⟨(joinL l r).toArray⟩ ⟨#[10]⟩=r.length:=count_join r l hn
 rw[hc]at h1
 have h2:Lib.splitK ([10]:List UInt8) 0 r.length (joinL l r)=l::r:=splitK_join r l hn
 unfold textL
 rw[ht,hc]
 have h3:(Lib.splitB ⟨#[10]⟩ 0 r.length ⟨(joinL l r).toArray⟩).map (·.data.toList)=l::r:=h1.trans h2
 have h4:=congrArg (List.map (fun x:List UInt8=>(⟨x.toArray⟩:ByteArray))) h3
 rw[List.map_map]at h4
 rw[←h4]
 exact(List.map_id' _).symm
def numS (n:Nat):ByteArray:=⟨(numB n).toArray⟩
theorem numS_size (n:Nat):(numS n).size≤11:=by
 have:=numB_len n
 show(numB n).toArray.size≤11
 simpa using this
def isByte:Option Value→Bool
 |some (.int .u8 _)=>true
 |_=>false
def byteU:Option Value→UInt8
 |some (.int .u8 n)=>UInt8.ofNat n.toNat
 |_=>0
@[go_sem] theorem one_size (x:UInt8):(⟨#[x]⟩:ByteArray).size=1:=rfl
@[go_sem] theorem isByte_some (n:Int):isByte (some (.int .u8 n))=true:=rfl
@[go_sem] theorem byteU_some (n:Int):byteU (some (.int .u8 n))=UInt8.ofNat n.toNat:=rfl
@[go_sem] theorem conv_one (W:World) (b off:Nat) (h:isByte (W.cell? ⟨b,off,none⟩)=true):(convert 140 9 (.slice (some ⟨b,off,none⟩) 1 1)).run Tryz.prog W= .ok (.string ⟨#[byteU (W.cell? ⟨b,off,none⟩)]⟩) W:=by
  obtain⟨n,hn⟩:∃n,W.cell? ⟨b,off,none⟩=some (.int .u8 n):=by
   revert h
   cases hc:W.cell? ⟨b,off,none⟩with
   |none=>intro h;cases h
   |some v=>
    intro h
    cases v with
    |int k n=>cases k<;>first|exact⟨n,rfl⟩|cases h
    |_=>cases h
  rw[hn]
  have:=run_convert_bytes_arg (P:=Tryz.prog) W 140 5 Tryz.underlying140 Tryz.underlying5 b off 1 1 [n] rfl (fun i hi=>by
   obtain rfl:i=0:=by omega
   exact hn) 9 Tryz.underlying9
  exact this
theorem numS_small {n:Nat}(h:n<128):numS n=⟨#[UInt8.ofNat n]⟩:=by unfold numS;rw[numB_small h]
theorem numS_big {n:Nat}(h:128≤n)(hn:n<18446744073709551616):(⟨#[UInt8.ofNat (n%128+128)]⟩++numS (n/128):ByteArray)=numS n:=by
 apply ByteArray.ext
 unfold numS
 rw[numB_big h hn,ByteArray.data_append]
 simp
theorem num_small (n:Nat)(hn:n<128)(w:World):Calls Tryz.prog 128 #[.int .u64 n] w fun e w'=>e= .returned (.string (numS n))∧Below w.heap.size w w':=by
 have h1:(n:Int)<128:=by omega
 have hc:IntKind.u8.wrap (n:Int)=n:=by simp[IntKind.wrap,IntKind.bits,IntKind.signed];omega
 have HN:=zhd (numS_small hn)
 go_enter Tryz.func128,Tryz.ntmps128
 go_wp2_with fail
 refine bodyPost_ret (v:=.string ⟨#[UInt8.ofNat n]⟩) (by simp only[results,Tryz.results128];go_simp) rfl ⟨by rw[HN.out],zal⟩
theorem num_big (n:Nat)(h:128≤n)(hn:n<18446744073709551616)(w:World)(IH:∀W,Calls Tryz.prog 128 #[.int .u64 (n/128:Nat)] W fun e w'=>e= .returned (.string (numS (n/128)))∧Below W.heap.size W w'):Calls Tryz.prog 128 #[.int .u64 n] w fun e w'=>e= .returned (.string (numS n))∧Below w.heap.size w w':=by
 have h1:decide ((n:Int)<128)=false:=decide_eq_false (by omega)
 have HN:=zhd (numS_big h hn)
 have hz:¬9223372036854775807<1+(numS (n/128)).size:=by have:=numS_size (n/128);omega
 have IH:=zhd (show∀W,Calls Tryz.prog 128 #[.int .u64 (IntKind.u64.wrap ((n:Int)/128))] W fun e w'=>e= .returned (.string (numS (n/128)))∧Below W.heap.size W w' from by
  have e3:IntKind.u64.wrap ((n:Int)/128)=((n/128:Nat):Int):=by simp[IntKind.wrap,IntKind.bits,IntKind.signed];omega
  rw[e3];exact IH)
 have ht:(n:Int).tmod 128=((n%128:Nat):Int):=rfl
 obtain⟨m,hm⟩:∃m,m=n%128+128:=⟨_,rfl⟩
 have hm2:m<256:=by omega
 rw[←hm]at HN
 have e1:IntKind.u64.wrap (((n:Int).tmod 128)+128)=(m:Int):=by rw[ht];simp[IntKind.wrap,IntKind.bits,IntKind.signed];omega
 have e2:IntKind.u8.wrap (m:Int)=m:=by simp[IntKind.wrap,IntKind.bits,IntKind.signed];omega
 clear hm hn h ht
 go_enter Tryz.func128,Tryz.ntmps128
 go_wp2_with fail
 go_region_law ((go_simp;go_at_call 128;refine(IH.out _).mono ?_;rintro e w5 ⟨rfl,hB5⟩;have C5:=bcell hB5;try simp only[go_sem]at C5))
 all_goals
  clear C5
  go_wp2_with fail
  refine bodyPost_ret (v:=.string (⟨#[UInt8.ofNat m]⟩++numS (n/128))) (by simp only[results,Tryz.results128];go_simp) rfl ⟨by rw[HN.out],?_⟩
  first
  |exact((zal).drew).trans (hB5.mono (by simp))
  |exact((Below.refl _ _).drew.trans (hB5.mono (by simp))).alloc hB5.size _
theorem num_any2:∀(n:Nat),n<18446744073709551616→∀w:World,Calls Tryz.prog 128 #[.int .u64 n] w fun e w'=>e= .returned (.string (numS n))∧Below w.heap.size w w':=fun n=>by
 induction n using Nat.strongRecOn with
 |_ n ih=>
  intro hn w
  by_cases h:n<128
  ·exact num_small n h w
  ·exact num_big n (by omega) hn w (fun W=>ih (n/128) (by omega) (by omega) W)
end Go.Proofs.YtakljipkaoahnaaGreatDoor
namespace Go.Va
open Go.Own Go.RowKit
structure ELs (F:Nat→Prop)(w:World)(la:Option Addr)(ln:Nat)(l:List Val)(g off:Nat):Prop where
 len:ln=l.length
 max:ln≤maxLen
 addr:la=some ⟨g,off,none⟩∨l=[]
 at_:∀(i:Nat) (z:Val),l[i]? =some z→F g∧g<w.heap.size∧∃c,CF F w c z∧
    w.cell? ⟨g,off+i*4,none⟩=some (.int .i64 c.kind)∧w.cell? ⟨g,off+i*4+1,none⟩=some (.int .i64 c.n)∧w.cell? ⟨g,off+i*4+2,none⟩=some (.string c.s)∧w.cell? ⟨g,off+i*4+3,none⟩=some (.slice c.la c.ln c.lc)
theorem VF.els {F:Nat→Prop}{w:World}{la:Option Addr}{ln lc:Nat}{l:List Val}(h:VF F w (.slice la ln lc) l):∃g off,ELs F w la ln l g off:=by
 obtain⟨h4,h5,h6⟩:=h.elems
 rcases h6 with h6|⟨g,off,hla,hFg,hg,h6⟩
 ·exact⟨0,0,h4,h5,.inr h6,fun i y hy=>by rw[h6]at hy;simp at hy⟩
 ·exact⟨g,off,h4,h5,.inl hla,fun i y hy=>⟨hFg,hg,h6 i y hy⟩⟩
theorem ELs.get {F:Nat→Prop}{w:World}{la:Option Addr}{ln:Nat}{l:List Val}{g off:Nat}(h:ELs F w la ln l g off){wr:World}(B:Below w.heap.size w wr){i:Nat}(hi:i<ln):
  ∃z c,l[i]? =some z∧la=some ⟨g,off,none⟩∧l.drop i=z::l.drop (i+1)∧g<wr.heap.size∧CF F wr c z∧
   wr.cell? ⟨g,off+i*4,none⟩=some (.int .i64 c.kind)∧wr.cell? ⟨g,off+i*4+1,none⟩=some (.int .i64 c.n)∧wr.cell? ⟨g,off+i*4+2,none⟩=some (.string c.s)∧wr.cell? ⟨g,off+i*4+3,none⟩=some (.slice c.la c.ln c.lc):=by
 obtain⟨z,hz⟩:=elem_at (l:=l) (k:=i) (by have:=h.len;omega)
 obtain⟨_,hg,c,hC,q0,q1,q2,q3⟩:=h.at_ i z hz
 rw[←B.cell (p:=⟨g,_,none⟩) hg]at q0 q1 q2 q3
 exact⟨z,c,hz,h.addr.resolve_right (fun e=>by rw[e]at hz;simp at hz),by
  rw[List.drop_eq_getElem_cons (zge hz).1,(zge hz).2],Nat.lt_of_lt_of_le hg B.size,hC.keep (S:=fun _=>False) (zkb B) (fun _ _ f=>f),q0,q1,q2,q3⟩
end Go.Va
namespace Go.Proofs.YtakljipkaoahnaaGreatDoor
open Go.RowKit Go.Own Go.Own.MapTy Go.Va Go.Sort
open Go.Own.Cells (sz enc)
def RWPost (w:World)(r:Nat×Int)(e:Ending)(w':World):Prop:=e= .returned (.tuple #[.int .i64 r.2,.int .i64 r.1])∧Below w.heap.size w w'
theorem rwalk_many (x:Val)
  (d p:Nat)(hd:d≤8)(hp:p≤256)(ck cn:Int)(cs:ByteArray)(la:Option Addr)(ln lc:Nat)(F:Nat→Prop)(w:World)(C:CF F w ⟨ck,cn,cs,la,ln,lc⟩ x)
  (h:256≤p)(r:Nat×Int)(hr:r=(p+1,2)):
  Calls Tryz.prog 90 #[.agg #[.int .i64 ck,.int .i64 cn,.string cs,.slice la ln lc],.int .i64 d,.int .i64 p] w (RWPost w r)
  :=by
 have hh:=zai hd C
 clear hh
 subst hr
 obtain rfl:p=256:=by omega
 clear C
 go_enter Tryz.func90,Tryz.ntmps90
 go_wp2_with fail
 refine bodyPost_ret (v:=.tuple #[.int .i64 2,.int .i64 257]) (by simp only[results,Tryz.results90];go_simp) rfl ⟨rfl,zal⟩
theorem rwalk_one (x:Val)
  (d p:Nat)(hd:d≤8)(hp:p≤256)(ck cn:Int)(cs:ByteArray)(la:Option Addr)(ln lc:Nat)(F:Nat→Prop)(w:World)(C:CF F w ⟨ck,cn,cs,la,ln,lc⟩ x)
  (h:¬256≤p)(hk:ck=0∨ck=1)(r:Nat×Int)(hr:r=(p+1,0)):
  Calls Tryz.prog 90 #[.agg #[.int .i64 ck,.int .i64 cn,.string cs,.slice la ln lc],.int .i64 d,.int .i64 p] w (RWPost w r)
  :=by
 have hh:=zai hd C
 clear hh
 subst hr
 clear C
 have h2:¬(256:Int)<(p:Int)+1:=by omega
 rcases hk with rfl|rfl
 ·go_enter Tryz.func90,Tryz.ntmps90
  go_wp2_with fail
  refine bodyPost_ret (v:=.tuple #[.int .i64 0,.int .i64 ((p:Int)+1)]) (by simp only[results,Tryz.results90];go_simp) rfl ⟨rfl,zal⟩
 ·go_enter Tryz.func90,Tryz.ntmps90
  go_wp2_with fail
  refine bodyPost_ret (v:=.tuple #[.int .i64 0,.int .i64 ((p:Int)+1)]) (by simp only[results,Tryz.results90];go_simp) rfl ⟨rfl,zal⟩
theorem rwalk_text (x:Val)
  (d p:Nat)(hd:d≤8)(hp:p≤256)(ck cn:Int)(cs:ByteArray)(la:Option Addr)(ln lc:Nat)(F:Nat→Prop)(w:World)(C:CF F w ⟨ck,cn,cs,la,ln,lc⟩ x)
  (h:¬256≤p)(hk:ck=2)(r:Nat×Int)(hr:r=(p+1,bif decide (256<cs.size)then 2 else 0)):
  Calls Tryz.prog 90 #[.agg #[.int .i64 ck,.int .i64 cn,.string cs,.slice la ln lc],.int .i64 d,.int .i64 p] w (RWPost w r)
  :=by
 have hh:=zai hd C
 clear hh
 subst hr
 subst hk
 clear C
 have h2:¬(256:Int)<(p:Int)+1:=by omega
 cases hc:decide (256<cs.size)with
 |true=>
  have h3:(256:Int)<(cs.size:Int):=by have:=of_decide_eq_true hc;omega
  clear hc
  go_enter Tryz.func90,Tryz.ntmps90
  go_wp2_with fail
  refine bodyPost_ret (v:=.tuple #[.int .i64 2,.int .i64 ((p:Int)+1)]) (by simp only[results,Tryz.results90];go_simp) rfl ⟨rfl,zal⟩
 |false=>
  have h3:¬(256:Int)<(cs.size:Int):=by have:=of_decide_eq_false hc;omega
  clear hc
  go_enter Tryz.func90,Tryz.ntmps90
  go_wp2_with fail
  refine bodyPost_ret (v:=.tuple #[.int .i64 0,.int .i64 ((p:Int)+1)]) (by simp only[results,Tryz.results90];go_simp) rfl ⟨rfl,zal⟩
theorem rwalk_kind (x:Val)
  (d p:Nat)(hd:d≤8)(hp:p≤256)(ck cn:Int)(cs:ByteArray)(la:Option Addr)(ln lc:Nat)(F:Nat→Prop)(w:World)(C:CF F w ⟨ck,cn,cs,la,ln,lc⟩ x)
  (h:¬256≤p)(k0:(ck==0)=false)(k1:(ck==1)=false)(k2:(ck==2)=false)(k3:(ck==3)=false)(r:Nat×Int)(hr:r=(p+1,9)):
  Calls Tryz.prog 90 #[.agg #[.int .i64 ck,.int .i64 cn,.string cs,.slice la ln lc],.int .i64 d,.int .i64 p] w (RWPost w r)
  :=by
 have hh:=zai hd C
 clear hh
 subst hr
 clear C
 have h2:¬(256:Int)<(p:Int)+1:=by omega
 go_enter Tryz.func90,Tryz.ntmps90
 go_wp2_with fail
 refine bodyPost_ret (v:=.tuple #[.int .i64 9,.int .i64 ((p:Int)+1)]) (by simp only[results,Tryz.results90];go_simp) rfl ⟨rfl,zal⟩
theorem rwalk_deep (x:Val)
  (d p:Nat)(hd:d≤8)(hp:p≤256)(ck cn:Int)(cs:ByteArray)(la:Option Addr)(ln lc:Nat)(F:Nat→Prop)(w:World)(C:CF F w ⟨ck,cn,cs,la,ln,lc⟩ x)
  (h:¬256≤p)(k3:ck=3)(h8:8≤d∨64<ln)(r:Nat×Int)(hr:r=(p+1,bif decide (8≤d)then 30 else 2)):
  Calls Tryz.prog 90 #[.agg #[.int .i64 ck,.int .i64 cn,.string cs,.slice la ln lc],.int .i64 d,.int .i64 p] w (RWPost w r)
  :=by
 have hh:=zai hd C
 clear hh
 subst hr
 subst k3
 clear C
 have h2:¬(256:Int)<(p:Int)+1:=by omega
 cases hc:decide (8≤d)with
 |true=>
  have h3:(8:Int)≤d:=by have:=of_decide_eq_true hc;omega
  clear hc
  go_enter Tryz.func90,Tryz.ntmps90
  go_wp2_with fail
  refine bodyPost_ret (v:=.tuple #[.int .i64 30,.int .i64 ((p:Int)+1)]) (by simp only[results,Tryz.results90];go_simp) rfl ⟨rfl,zal⟩
 |false=>
  have h3:¬(8:Int)≤d:=by have:=of_decide_eq_false hc;omega
  have h4:(64:Int)<ln:=by have:=of_decide_eq_false hc;omega
  clear hc
  go_enter Tryz.func90,Tryz.ntmps90
  go_wp2_with fail
  refine bodyPost_ret (v:=.tuple #[.int .i64 2,.int .i64 ((p:Int)+1)]) (by simp only[results,Tryz.results90];go_simp) rfl ⟨rfl,zal⟩
def RWIH (n:Nat):Prop:=∀(x:Val),x.parts≤n→∀(d p:Nat),d≤8→p≤256→∀(ck cn:Int) (cs:ByteArray) (la:Option Addr) (ln lc:Nat) (F:Nat→Prop) (w:World),CF F w ⟨ck,cn,cs,la,ln,lc⟩ x→
 Calls Tryz.prog 90 #[.agg #[.int .i64 ck,.int .i64 cn,.string cs,.slice la ln lc],.int .i64 d,.int .i64 p] w (RWPost w (walkV x d (p,0)))
theorem rwalk_list (n:Nat)(IH:RWIH n)(x:Val)(hx:x.parts≤n+1)
  (d p:Nat)(hd:d≤8)(hp:p≤256)(ck cn:Int)(cs:ByteArray)(la:Option Addr)(ln lc:Nat)(F:Nat→Prop)(w:World)(C:CF F w ⟨ck,cn,cs,la,ln,lc⟩ x)
  (h:¬256≤p)(k3:ck=3)(h8:¬8≤d)(h64:¬64<ln)(g off:Nat)(E:ELs F w la ln x.list g off)(r:Nat×Int)(hr:walkV.walkL x.list (d+1) (p+1,0)=r):
  Calls Tryz.prog 90 #[.agg #[.int .i64 ck,.int .i64 cn,.string cs,.slice la ln lc],.int .i64 d,.int .i64 p] w (RWPost w r)
  :=by
 have hh:=zai hd C
 clear hh
 subst k3
 have HE:=zhd E
 have HI:=zhd IH
 have HR:=zhd hr
 have HL:=zhd E.len
 clear C E IH hr
 have h2:¬(256:Int)<(p:Int)+1:=by omega
 have h3:¬(8:Int)≤d:=by omega
 have h4:¬(64:Int)<ln:=by omega
 have hdw:wrap64 ((d:Int)+1)=(d:Int)+1:=by unfold wrap64;omega
 go_enter Tryz.func90,Tryz.ntmps90
 go_wp2_with fail
 obtain⟨w1,hw1⟩:∃w1,w1=w.alloc (.cells #[.int .i64 3,.int .i64 cn,.string cs,.slice la ln lc] 39):=⟨_,rfl⟩
 have p3:=zha hw1
 have B1:=zba hw1
 rw[←hw1]
 have H1:=zh2 p3 B1
 clear hw1 p3 B1
 go_loopg [8,2] (x.list.length) (fun gk v8 v2 wr=>∃i q:Nat,v8= .int .i64 i∧v2= .int .i64 q∧i≤x.list.length∧q≤256∧gk=x.list.length - i∧Hid (walkV.walkL (x.list.drop i) (d+1) (q,0)=r∧Below w1.heap.size w1 wr))
 case atStart=>exact⟨0,p+1,rfl,by simp,Nat.zero_le _,by omega,rfl,zhd ⟨HR.out,Below.refl _ _⟩⟩
 case round=>
  obtain⟨i,q,rfl,rfl,hi,hq,hgk,HX⟩:=hrel
  have BW:=H1.out.2.trans (HX.out.2.mono H1.out.2.size)
  have b3:=(HX.out.2.block _ (zlt H1.out.1)).trans H1.out.1
  have p3:=zca b3 3 rfl
  have s0:=zlt b3
  clear b3
  by_cases hin:i<ln
  ·obtain⟨z,c',hz,hla,hdr,hgl,hC,q0,q1,q2,q3⟩:=HE.out.get BW hin
   have hin':(i:Int)<ln:=by omega
   have hw:=HX.out.1
   rw[hdr,walkL_cons]at hw
   have CA:=zhd (HI.out z (by have:=Val.parts_lt (v:=x) (zmg hz);omega) (d+1) q (by omega) hq c'.kind c'.n c'.s c'.la c'.ln c'.lc F wr hC)
   have hbd:=walkV_bd z (d+1) (q,0) (fun _=>hq)
   obtain⟨q1',e1,hv⟩:∃(a:Nat) (b:Int),walkV z (d+1) (q,0)=(a,b):=⟨_,_,rfl⟩
   rw[hv]at CA hbd hw
   have hw:walkV.walkL (x.list.drop (i+1)) (d+1) (q1',e1)=r:=hw
   have HH:=zh5 hbd hw BW hgk (zge hz).1
   subst hla
   clear hz hC hdr hbd hw BW hv hgk
   go_wp2_with fail
   refine CA.out.mono ?_
   rintro e w5 ⟨rfl,hB5⟩
   have H5:=zhd hB5
   clear hB5
   cases he:(e1==0)with
   |true=>
    obtain rfl:e1=0:=by simpa using he
    clear he
    go_wp2_with fail
    go_roundg (x.list.length - (i+1))
    case measure=>have:=HH.out.2.2.2.1;have:=HH.out.2.2.2.2;omega
    case rel=>exact⟨i+1,q1',by simp,rfl,HH.out.2.2.2.2,HH.out.1 (by trivial),rfl,zhd ⟨HH.out.2.1,HX.out.2.trans (H5.out.mono HX.out.2.size)⟩⟩
   |false=>
    go_wp2_with fail
    refine bodyPost_ret (v:=.tuple #[.int .i64 e1,.int .i64 q1']) (by simp only[results,Tryz.results90];go_simp) rfl ⟨?_,HH.out.2.2.1.trans (H5.out.mono HH.out.2.2.1.size)⟩
    have hw:=HH.out.2.1
    rw[walkL_err _ _ _ (by show(e1 !=0)=true;simpa using he)]at hw
    rw[←hw]
  ·obtain rfl:i=ln:=by have:=HL.out;omega
   have hxn:x.list.drop i=[]:=List.drop_eq_nil_of_le (by have:=HL.out;omega)
   have hw:=HX.out.1
   rw[hxn,walkL_nil]at hw
   have HH:=zh2 hw BW
   clear hw BW hgk hxn
   have e3:¬(i:Int)<i:=by omega
   go_wp2_with fail
   refine bodyPost_ret (v:=.tuple #[.int .i64 0,.int .i64 q]) (by simp only[results,Tryz.results90];go_simp) rfl ⟨?_,HH.out.2⟩
   rw[←HH.out.1]
theorem rwalk_any:∀n,RWIH n
 |0=>fun x h=>by have:=x.parts_pos;omega
 |n+1=>fun x hx d p hd hp ck cn cs la ln lc F w C=>by
  have h1:ck=x.kind:=C.kind
  have h3:cs=x.txt:=C.s
  obtain⟨g,off,E⟩:=C.l.els
  have hr:=walkV_eq x d p 0
  rw[←h1,←h3,←E.len]at hr
  have hr:walkV x d (p,0)=bif decide (256≤p)then(p+1,2)else bif ck==0||ck==1 then(p+1,0)else bif ck==2 then(p+1,bif decide (256<cs.size)then 2 else 0)else bif ck==3 then walkV.walkL x.list (d+1) (p+1,bif decide (8≤d)then 30 else bif decide (64<ln)then 2 else 0)else(p+1,9):=hr
  by_cases hp2:256≤p
  ·rw[decide_eq_true hp2]at hr
   exact rwalk_many x d p hd hp ck cn cs la ln lc F w C hp2 _ hr
  ·rw[decide_eq_false hp2,cond_false]at hr
   by_cases k0:ck=0∨ck=1
   ·rw[show(ck==0||ck==1)=true by simpa using k0]at hr
    exact rwalk_one x d p hd hp ck cn cs la ln lc F w C hp2 k0 _ hr
   ·rw[show(ck==0||ck==1)=false by simpa using k0,cond_false]at hr
    by_cases k2:ck=2
    ·rw[show(ck==2)=true by simpa using k2]at hr
     exact rwalk_text x d p hd hp ck cn cs la ln lc F w C hp2 k2 _ hr
    ·rw[show(ck==2)=false by simpa using k2,cond_false]at hr
     by_cases k3:ck=3
     ·rw[show(ck==3)=true by simpa using k3,cond_true]at hr
      by_cases h8:8≤d
      ·rw[decide_eq_true h8,cond_true,walkL_err _ _ _ rfl]at hr
       exact rwalk_deep x d p hd hp ck cn cs la ln lc F w C hp2 k3 (.inl h8) _ (by rw[decide_eq_true h8];exact hr)
      ·rw[decide_eq_false h8,cond_false]at hr
       by_cases h64:64<ln
       ·rw[decide_eq_true h64,cond_true,walkL_err _ _ _ rfl]at hr
        exact rwalk_deep x d p hd hp ck cn cs la ln lc F w C hp2 k3 (.inr h64) _ (by rw[decide_eq_false h8];exact hr)
       ·rw[decide_eq_false h64,cond_false]at hr
        exact rwalk_list n (rwalk_any n) x hx d p hd hp ck cn cs la ln lc F w C hp2 k3 h8 h64 g off E _ hr.symm
     ·rw[show(ck==3)=false by simpa using k3,cond_false]at hr
      exact rwalk_kind x d p hd hp ck cn cs la ln lc F w C hp2 (by simpa using fun e=>k0 (.inl e)) (by simpa using fun e=>k0 (.inr e)) (by simpa using k2) (by simpa using k3) _ hr
theorem rint_any (n:Int)(h0: -9223372036854775808≤n)(h1:n≤9223372036854775807)(w:World):Calls Tryz.prog 126 #[.int .i64 n] w fun e w'=>e= .returned (.string (numS (zigL n)))∧Below w.heap.size w w':=by
 have hz:=zigL_lt h0 h1
 by_cases hn:0≤n
 ·have hc:IntKind.u64.wrap n=n:=by simp[IntKind.wrap,IntKind.bits,IntKind.signed];omega
  have hd:n*2=((zigL n:Nat):Int):=by
   unfold zigL
   rw[if_pos hn]
   omega
  have NA:=zhd (fun W=>num_any2 (zigL n) hz W)
  generalize zigL n=z at*
  have HD:=zhd hd
  clear hd
  go_enter Tryz.func126,Tryz.ntmps126
  go_wp2_with fail
  rw[HD.out]
  refine(NA.out _).mono ?_
  rintro e w1 ⟨rfl,hB1⟩
  have H1:=zhd hB1
  clear hB1
  go_wp2_with fail
  go_ret
  exact⟨rfl,H1.out⟩
 ·have hw:wrap64 (n+1)=n+1:=by unfold wrap64;omega
  have hw2:wrap64 (-(n+1))= -(n+1):=by unfold wrap64;omega
  have hc:IntKind.u64.wrap (-(n+1))= -(n+1):=by simp[IntKind.wrap,IntKind.bits,IntKind.signed];omega
  have hm:IntKind.u64.wrap (-(n+1)*2)= -(n+1)*2:=by simp[IntKind.wrap,IntKind.bits,IntKind.signed];omega
  have hd: -(n+1)*2+1=((zigL n:Nat):Int):=by
   unfold zigL
   rw[if_neg hn]
   omega
  have NA:=zhd (fun W=>num_any2 (zigL n) hz W)
  generalize zigL n=z at*
  have HD:=zhd hd
  clear hd
  go_enter Tryz.func126,Tryz.ntmps126
  go_wp2_with fail
  rw[HD.out]
  refine(NA.out _).mono ?_
  rintro e w1 ⟨rfl,hB1⟩
  have H1:=zhd hB1
  clear hB1
  go_wp2_with fail
  go_ret
  exact⟨rfl,H1.out⟩
def textS (s:ByteArray):ByteArray:=⟨(Go.Va.textB s.data.toList).toArray⟩
theorem textS_eq (s:ByteArray):numS s.size++s=textS s:=by
 apply ByteArray.ext
 unfold numS textS Go.Va.textB
 rw[ByteArray.data_append]
 simp
theorem rtext_any (s:ByteArray)(hs:s.size≤1099511627776)(w:World):Calls Tryz.prog 127 #[.string s] w fun e w'=>e= .returned (.string (textS s))∧Below w.heap.size w w':=by
 have NA:=zhd (fun W=>num_any2 s.size (by omega) W)
 have hc:IntKind.u64.wrap (s.size:Int)=s.size:=by simp[IntKind.wrap,IntKind.bits,IntKind.signed];omega
 have HT:=zhd (textS_eq s)
 have hz:=numS_size s.size
 go_enter Tryz.func127,Tryz.ntmps127
 go_wp2_with fail
 refine(NA.out _).mono ?_
 rintro e w1 ⟨rfl,hB1⟩
 have H1:=zhd hB1
 clear hB1
 generalize numS s.size=ns at*
 go_wp2_with fail
 go_ret
 exact⟨by rw[HT.out];rfl,H1.out⟩
def bytesS (x:Val):ByteArray:=⟨(bytesV x).toArray⟩
theorem bytesS_size (x:Val):(bytesS x).size=(bytesV x).length:=by
 show(bytesV x).toArray.size=_
 simp
theorem kind_byte (k:Int):IntKind.u8.wrap k=k%256:=by simp[IntKind.wrap,IntKind.bits,IntKind.signed]
def BIH (n:Nat):Prop:=∀(x:Val),x.parts≤n→∀(ck cn:Int) (cs:ByteArray) (la:Option Addr) (ln lc:Nat) (F:Nat→Prop) (w:World),CF F w ⟨ck,cn,cs,la,ln,lc⟩ x→x.wf→(bytesV x).length≤1099511627776→
 Calls Tryz.prog 91 #[.agg #[.int .i64 ck,.int .i64 cn,.string cs,.slice la ln lc]] w fun e w'=>e= .returned (.string (bytesS x))∧Below w.heap.size w w'
theorem rbytes_other (x:Val)
  (ck cn:Int)(cs:ByteArray)(la:Option Addr)(ln lc:Nat)(F:Nat→Prop)(w:World)(C:CF F w ⟨ck,cn,cs,la,ln,lc⟩ x)(hw:x.wf)(hl:(bytesV x).length≤1099511627776)
  (k1:(ck==1)=false)(k2:(ck==2)=false)(k3:(ck==3)=false):
  Calls Tryz.prog 91 #[.agg #[.int .i64 ck,.int .i64 cn,.string cs,.slice la ln lc]] w fun e w'=>e= .returned (.string (bytesS x))∧Below w.heap.size w w'
  :=by
 have hh:=zai hw hl
 clear hh
 have h1:ck=x.kind:=C.kind
 have HB:Hid (bytesS x=⟨#[UInt8.ofNat (ck%256).toNat]⟩):=zhd (by
  unfold bytesS
  rw[bytesV_eq,←h1,k1,k2,k3]
  rfl)
 have kb:=kind_byte ck
 generalize ck%256=kb1 at*
 clear C hw hl h1
 go_enter Tryz.func91,Tryz.ntmps91
 go_wp2_with fail
 go_ret
 exact⟨by rw[HB.out];rfl,(zal).alloc (by simp) _⟩
theorem rbytes_int (x:Val)
  (ck cn:Int)(cs:ByteArray)(la:Option Addr)(ln lc:Nat)(F:Nat→Prop)(w:World)(C:CF F w ⟨ck,cn,cs,la,ln,lc⟩ x)(hw:x.wf)(hl:(bytesV x).length≤1099511627776)
  (k1:ck=1):
  Calls Tryz.prog 91 #[.agg #[.int .i64 ck,.int .i64 cn,.string cs,.slice la ln lc]] w fun e w'=>e= .returned (.string (bytesS x))∧Below w.heap.size w w'
  :=by
 have hh:=zai hw hl
 clear hh
 have h1:ck=x.kind:=C.kind
 have h2:cn=x.num:=C.n
 have hb:=((Val.wf_eq x).1 hw).2.1
 rw[←h2]at hb
 subst k1
 have HB:Hid ((⟨#[UInt8.ofNat 1]⟩++numS (zigL cn):ByteArray)=bytesS x):=zhd (by
  apply ByteArray.ext
  unfold bytesS numS
  rw[bytesV_eq,←h1,←h2,ByteArray.data_append]
  simp)
 have IA:=zhd (fun W=>rint_any cn hb.1 hb.2 W)
 have hz:=numS_size (zigL cn)
 generalize numS (zigL cn)=ns at*
 clear C hw hl h1 h2 hb
 go_enter Tryz.func91,Tryz.ntmps91
 go_wp2_with fail
 refine(IA.out _).mono ?_
 rintro e w5 ⟨rfl,hB5⟩
 have H5:=zhd (((Below.refl w.heap.size w).alloc (Nat.le_refl _) (.cells #[.int .i64 1,.int .i64 cn,.string cs,.slice la ln lc] 39)).trans (((Below.refl _ _).alloc (Nat.le_refl _) (.cells #[.int .u8 1] 5)).trans (hB5.mono (by simp))|>.mono (by simp)))
 clear hB5
 have zs:(⟨#[UInt8.ofNat 1]⟩:ByteArray).size=1:=rfl
 go_wp2_with fail
 go_ret
 exact⟨by rw[←HB.out];rfl,H5.out⟩
theorem rbytes_text (x:Val)
  (ck cn:Int)(cs:ByteArray)(la:Option Addr)(ln lc:Nat)(F:Nat→Prop)(w:World)(C:CF F w ⟨ck,cn,cs,la,ln,lc⟩ x)(hw:x.wf)(hl:(bytesV x).length≤1099511627776)
  (k2:ck=2):
  Calls Tryz.prog 91 #[.agg #[.int .i64 ck,.int .i64 cn,.string cs,.slice la ln lc]] w fun e w'=>e= .returned (.string (bytesS x))∧Below w.heap.size w w'
  :=by
 have h1:ck=x.kind:=C.kind
 have h3:cs=x.txt:=C.s
 subst k2
 have hz:cs.size≤140737488355328:=by have:=((Val.wf_eq x).1 hw).2.2.1;rw[←h3]at this;exact this
 have hl2:(Go.Va.textB cs.data.toList).length≤1099511627776:=by
  rw[bytesV_eq,←h1,←h3]at hl
  simp only[List.length_cons]at hl
  have e:(bif (2:Int)==1 then numB (zigL x.num)else bif (2:Int)==2 then Go.Va.textB cs.data.toList else bif (2:Int)==3 then numB x.list.length++bytesV.bytesL x.list else[])=Go.Va.textB cs.data.toList:=rfl
  rw[e]at hl
  omega
 have hs:(textS cs).size≤1099511627776:=by unfold textS;show(Go.Va.textB cs.data.toList).toArray.size≤_;simpa using hl2
 have hcs:cs.size≤1099511627776:=by
  have:cs.data.toList.length=cs.size:=by simp
  unfold Go.Va.textB at hl2
  rw[List.length_append]at hl2
  omega
 have HB:Hid ((⟨#[UInt8.ofNat 2]⟩++textS cs:ByteArray)=bytesS x):=zhd (by
  apply ByteArray.ext
  unfold bytesS textS
  rw[bytesV_eq,←h1,←h3,ByteArray.data_append]
  simp)
 have IA:=zhd (fun W=>rtext_any cs hcs W)
 generalize textS cs=ns at*
 clear C hw hl h1 h3 hl2 hcs
 go_enter Tryz.func91,Tryz.ntmps91
 go_wp2_with fail
 refine(IA.out _).mono ?_
 rintro e w5 ⟨rfl,hB5⟩
 have H5:=zhd (((Below.refl w.heap.size w).alloc (Nat.le_refl _) (.cells #[.int .i64 2,.int .i64 cn,.string cs,.slice la ln lc] 39)).trans (((Below.refl _ _).alloc (Nat.le_refl _) (.cells #[.int .u8 2] 5)).trans (hB5.mono (by simp))|>.mono (by simp)))
 clear hB5
 have zs:(⟨#[UInt8.ofNat 2]⟩:ByteArray).size=1:=rfl
 go_wp2_with fail
 go_ret
 exact⟨by rw[←HB.out];rfl,H5.out⟩
theorem rbytes_list (n:Nat)(IH:BIH n)(x:Val)(hx:x.parts≤n+1)
  (ck cn:Int)(cs:ByteArray)(la:Option Addr)(ln lc:Nat)(F:Nat→Prop)(w:World)(C:CF F w ⟨ck,cn,cs,la,ln,lc⟩ x)(hw:x.wf)(hl:(bytesV x).length≤1099511627776)
  (k3:ck=3)(g off:Nat)(E:ELs F w la ln x.list g off):
  Calls Tryz.prog 91 #[.agg #[.int .i64 ck,.int .i64 cn,.string cs,.slice la ln lc]] w fun e w'=>e= .returned (.string (bytesS x))∧Below w.heap.size w w'
  :=by
 have h1:ck=x.kind:=C.kind
 subst k3
 have hlm:=E.max
 unfold maxLen at hlm
 have HE:=zhd E
 have HI:=zhd IH
 have HL:=zhd E.len
 have HW:=zhd (Val.wfL_iff.1 ((Val.wf_eq x).1 hw).2.2.2)
 have hbv:bytesV x=(3:UInt8)::(numB ln++bytesV.bytesL x.list):=by
  rw[bytesV_eq,←h1,E.len]
  rfl
 have HB:=zh2 hbv hl
 have NA:=zhd (fun W=>num_any2 ln (by omega) W)
 have hz:=numS_size ln
 have hns:(numS ln).data.toList=numB ln:=by unfold numS;simp
 have HN:=zhd hns
 have hcw:IntKind.u64.wrap (ln:Int)=ln:=by simp[IntKind.wrap,IntKind.bits,IntKind.signed];omega
 generalize numS ln=ns at*
 clear C E IH hw hl h1 hbv hns
 go_enter Tryz.func91,Tryz.ntmps91
 go_wp2_with fail
 obtain⟨w1,hw1⟩:∃w1,w1=(w.alloc (.cells #[.int .i64 3,.int .i64 cn,.string cs,.slice la ln lc] 39)).alloc (.cells #[.int .u8 3] 5):=⟨_,rfl⟩
 have p3:w1.heap[w.heap.size]? =some (.cells #[.int .i64 3,.int .i64 cn,.string cs,.slice la ln lc] 39 (0,0)):=by rw[hw1];exact heap_lt2
 have B1:Below w.heap.size w w1:=by rw[hw1];exact(zal).alloc (by simp) _
 rw[←hw1]
 clear hw1
 refine(NA.out _).mono ?_
 rintro e w2 ⟨rfl,hB2⟩
 have p3:=(hB2.block _ (zlt p3)).trans p3
 have q3:=zca p3 3 rfl
 have s0:=zlt p3
 have H1:=zh2 p3 (B1.trans (hB2.mono B1.size))
 clear B1 hB2 p3 NA
 have zs:(⟨#[UInt8.ofNat 3]⟩:ByteArray).size=1:=rfl
 go_wp2_with fail
 go_loopg [4,3] (x.list.length) (fun gk v4 v3 wr=>∃(i:Nat) (S:ByteArray),v4= .int .i64 i∧v3= .string S∧i≤x.list.length∧gk=x.list.length - i∧Hid (S.data.toList++bytesV.bytesL (x.list.drop i)=bytesV x∧Below w2.heap.size w2 wr))
 case atStart=>
  refine⟨0,_,rfl,rfl,Nat.zero_le _,rfl,zhd ⟨?_,Below.refl _ _⟩⟩
  rw[HB.out.1,ByteArray.data_append,Array.toList_append,HN.out]
  rfl
 case round=>
  obtain⟨i,S,rfl,rfl,hi,hgk,HX⟩:=hrel
  have BW:=H1.out.2.trans (HX.out.2.mono H1.out.2.size)
  have b3:=(HX.out.2.block _ (zlt H1.out.1)).trans H1.out.1
  have p3:=zca b3 3 rfl
  have s0:=zlt b3
  clear b3
  have hSz:S.data.toList.length+(bytesV.bytesL (x.list.drop i)).length≤1099511627776:=by
   have:=congrArg List.length HX.out.1
   rw[List.length_append]at this
   have:=HB.out.2
   omega
  have hSs:S.data.toList.length=S.size:=by simp
  by_cases hin:i<ln
  ·obtain⟨z,c',hz,hla,hdr,hgl,hC,q0,q1,q2,q3⟩:=HE.out.get BW hin
   have hin':(i:Int)<ln:=by omega
   have hbs:=HX.out.1
   rw[hdr,bytesL_cons]at hbs hSz
   rw[List.length_append]at hSz
   have CA:=zhd (HI.out z (by have:=Val.parts_lt (v:=x) (zmg hz);omega) c'.kind c'.n c'.s c'.la c'.ln c'.lc F wr hC (HW.out z (zmg hz)) (by omega))
   have hzs:(bytesS z).size≤1099511627776:=by rw[bytesS_size];omega
   have hze:(bytesS z).data.toList=bytesV z:=by unfold bytesS;simp
   have hSb:S.size≤1099511627776:=by omega
   have HH:=zh5 hbs BW hgk hze (zge hz).1
   generalize bytesS z=bz at*
   subst hla
   clear hz hC hdr hbs BW hgk hze hSz hSs
   go_wp2_with fail
   refine CA.out.mono ?_
   rintro e w5 ⟨rfl,hB5⟩
   have H5:=zhd hB5
   clear hB5
   go_wp2_with fail
   go_roundg (x.list.length - (i+1))
   case measure=>have:=HH.out.2.2.1;have:=HH.out.2.2.2.2;omega
   case rel=>
    refine⟨i+1,_,by simp,rfl,HH.out.2.2.2.2,rfl,zhd ⟨?_,HX.out.2.trans (H5.out.mono HX.out.2.size)⟩⟩
    rw[ByteArray.data_append,Array.toList_append,HH.out.2.2.2.1,List.append_assoc]
    exact HH.out.1
  ·obtain rfl:i=ln:=by have:=HL.out;omega
   have hbs:=HX.out.1
   rw[List.drop_eq_nil_of_le (by have:=HL.out;omega),bytesL_nil,List.append_nil]at hbs
   have HH:=zh2 hbs BW
   have e3:¬(i:Int)<i:=by omega
   clear hbs BW hgk hSz hSs
   go_wp2_with fail
   go_ret
   refine⟨?_,HH.out.2⟩
   rw[show S=bytesS x from ByteArray.ext (by unfold bytesS;rw[←HH.out.1])]
   rfl
theorem rbytes_any:∀n,BIH n
 |0=>fun x h=>by have:=x.parts_pos;omega
 |n+1=>fun x hx ck cn cs la ln lc F w C hw hl=>by
  obtain⟨g,off,E⟩:=C.l.els
  by_cases k1:ck=1
  ·exact rbytes_int x ck cn cs la ln lc F w C hw hl k1
  ·by_cases k2:ck=2
   ·exact rbytes_text x ck cn cs la ln lc F w C hw hl k2
   ·by_cases k3:ck=3
    ·exact rbytes_list n (rbytes_any n) x hx ck cn cs la ln lc F w C hw hl k3 g off E
    ·exact rbytes_other x ck cn cs la ln lc F w C hw hl (by simpa using k1) (by simpa using k2) (by simpa using k3)
def RCPost (w:World)(r:Int)(e:Ending)(w':World):Prop:=∃n:Int,e= .returned (.tuple #[.int .i64 r,.int .i64 n])∧Below w.heap.size w w'
theorem rcheck_any (x:Val)(ck cn:Int)(cs:ByteArray)(la:Option Addr)(ln lc:Nat)(F:Nat→Prop)(w:World)(C:CF F w ⟨ck,cn,cs,la,ln,lc⟩ x)(hw:x.wf):
  Calls Tryz.prog 44 #[.agg #[.int .i64 ck,.int .i64 cn,.string cs,.slice la ln lc],.int .i64 0,.int .i64 0] w (RCPost w (checkL x)):=by
 have KA:=zhd (fun W (hW:Below w.heap.size w W)=>rwalk_any _ x (Nat.le_refl _) 0 0 (by decide) (by decide) ck cn cs la ln lc F W (C.keep (S:=fun _=>False) (zkb hW) (fun _ _ f=>f)))
 have KB:=zhd (fun(h:(bytesV x).length≤1099511627776) W (hW:Below w.heap.size w W)=>rbytes_any _ x (Nat.le_refl _) ck cn cs la ln lc F W (C.keep (S:=fun _=>False) (zkb hW) (fun _ _ f=>f)) hw h)
 have HS:=zhd (fun(h:(walkV x 0 (0,0)).2=0)=>bytes_small h)
 have hck:checkL x=bif (walkV x 0 (0,0)).2 !=0 then(walkV x 0 (0,0)).2 else bif decide (512<(bytesV x).length)then 2 else 0:=rfl
 obtain⟨⟨np,er⟩,hv⟩:∃r,walkV x 0 (0,0)=r:=⟨_,rfl⟩
 rw[hv]at KA HS hck
 dsimp only at HS hck
 have HC:=zhd hck
 clear C hw hv hck
 go_enter Tryz.func44,Tryz.ntmps44
 go_wp2_with fail
 obtain⟨w1,hw1⟩:∃w1,w1=w.alloc (.cells #[.int .i64 ck,.int .i64 cn,.string cs,.slice la ln lc] 39):=⟨_,rfl⟩
 have B1:=zba hw1
 have p1:=zha hw1
 rw[←hw1]
 clear hw1
 refine(KA.out _ B1).mono ?_
 rintro e w2 ⟨rfl,hB2⟩
 have p2:=(hB2.block _ (zlt p1)).trans p1
 have c0:=zca p2 0 rfl
 have c1:=zca p2 1 rfl
 have c2:=zca p2 2 rfl
 have c3:=zca p2 3 rfl
 have lt2:=zlt p2
 have H2:=zhd (B1.trans (hB2.mono B1.size))
 clear B1 hB2 p1 p2 KA
 cases he:(er==0)with
 |false=>
  have hr:=HC.out
  rw[show(er !=0)=true by simpa using he]at hr
  have HR:=zhd hr
  clear hr
  go_wp2_with fail
  refine bodyPost_ret (v:=.tuple #[.int .i64 er,.int .i64 np]) (by simp only[results,Tryz.results44];go_simp) rfl ⟨_,by rw[HR.out];rfl,H2.out⟩
 |true=>
  obtain rfl:er=0:=by simpa using he
  have hb:=HS.out rfl
  have CB:=zhd (KB.out (by omega) w2 H2.out)
  have hz:=bytesS_size x
  clear he KB
  cases hc:decide (512<(bytesV x).length)with
  |true=>
   have hr:=HC.out
   rw[hc]at hr
   have HR:=zhd hr
   have h5:(512:Int)<(bytesS x).size:=by have:=of_decide_eq_true hc;omega
   clear hr hc hz hb HC
   generalize bytesS x=bs at*
   go_wp2_with fail
   refine CB.out.mono ?_
   rintro e w5 ⟨rfl,hB5⟩
   have H5:=zhd (H2.out.trans (hB5.mono H2.out.size))
   clear hB5
   go_wp2_with fail
   refine bodyPost_ret (v:=.tuple #[.int .i64 2,.int .i64 np]) (by simp only[results,Tryz.results44];go_simp) rfl ⟨_,by rw[HR.out];rfl,H5.out⟩
  |false=>
   have hr:=HC.out
   rw[hc]at hr
   have HR:=zhd hr
   have h5:¬(512:Int)<(bytesS x).size:=by have:=of_decide_eq_false hc;omega
   clear hr hc hz hb HC
   generalize bytesS x=bs at*
   go_wp2_with fail
   refine CB.out.mono ?_
   rintro e w5 ⟨rfl,hB5⟩
   have H5:=zhd (H2.out.trans (hB5.mono H2.out.size))
   clear hB5
   go_wp2_with fail
   refine bodyPost_ret (v:=.tuple #[.int .i64 0,.int .i64 np]) (by simp only[results,Tryz.results44];go_simp) rfl ⟨_,by rw[HR.out];rfl,H5.out⟩
end Go.Proofs.YtakljipkaoahnaaGreatDoor
