/- TrieA, TrieB, TrieC, Bits, TrieD, TrieE: these texts in one. Conditions: each theorem names its own. -/
import Derived.Test.YtjflkifodfncmaaGreatDoorGRule
import Derived.Test.YtjflkifodfncmaaGreatDoorGPref
namespace Go.Proofs.YtjflkifodfncmaaGreatDoor
set_option maxHeartbeats 2000000
open Go.RowKit
theorem spanHolds_any(at0:BitVec 32)(n:Int)(a:BitVec 32)(w:World)(h:In64 n):
 Calls Tryz.prog 181 #[.agg #[U at0,I n],U a] w fun e w'=>e=.returned (.bool (holdsV at0 n a))/\Ext w w':=by
 go_enter Tryz.func181,Tryz.ntmps181
 go_wp2_with (first|(go_at_call 119;refine(holds_any _ _ _ _ h).mono ?_;rintro e w' ⟨rfl,rfl⟩))
 go_ret
 exact⟨rfl,by(repeat with_reducible first|exact eR _|assumption|refine eA ?_ _|refine eD ?_|refine eW ?_ _|(refine eS ?_ ?_;focus(first|(simp;done)|(simp;omega)|omega)))⟩
def meetN(a:BitVec 32)(m:Int)(b:BitVec 32)(n:Int):Int:=if commonV a b<(if n<m then n else m)then commonV a b else if n<m then n else m
theorem meetN_min(a:BitVec 32)(m:Int)(b:BitVec 32)(n:Int):meetN a m b n=min (min m n) (commonV a b):=by unfold meetN;omega
def meetA(a:BitVec 32)(m:Int)(b:BitVec 32)(n:Int):BitVec 32:=a&&&maskV (meetN a m b n)
theorem spanMeet_any(a b:BitVec 32)(m n:Int)(w:World)(hm:In64 m)(hn:In64 n):
 Calls Tryz.prog 200 #[.agg #[U a,I m],.agg #[U b,I n]] w fun e w'=>e=.returned (.agg #[U (meetA a m b n),I (meetN a m b n)])/\Ext w w':=by
 have hc:=common_bd a b
 have hN:In64 (meetN a m b n):=by rw[meetN_min];obtain⟨h1,h2⟩:=hm;obtain⟨h3,h4⟩:=hn;unfold In64;omega
 have HN:=Hd hN
 clear hN hc
 go_enter Tryz.func200,Tryz.ntmps200
 go_wp2_with fail
 refine wp_region_E 10 rfl (by kernel_rfl) (by kernel_rfl) ?_
 refine WEi_at 0 ?_
 iterate 9
  refine WEi_q rfl (by decide) (by kernel_rfl) rfl ?_;apply Exists.intro;refine⟨fun w1 hx1=>?_,?_⟩
  ·have hq1:=hx1.cells;go_simp;try go_bits
   first|with_reducible rfl|(refine(common_any _ _ _).mono ?_;rintro e w' ⟨rfl,rfl⟩;exact⟨rfl,eR _⟩)
  go_frame;try simp only[Nat.reduceAdd]
 refine WEi_out ?_
 refine WE_q 9 rfl (by decide) (by kernel_rfl) rfl ⟨I (meetN a m b n),fun w1 hx1=>?_,?_⟩
 ·have hq1:=hx1.cells;go_simp;try go_bits
  first|rfl
 go_frame
 refine WE_done (by kernel_rfl) (fun w2 hx2=>?_)
 (try simp only[List.drop_succ_cons,List.drop_zero])
 have c0:Blk w2 w.heap.size [U a,I m] 233:=Blk.later (by(repeat(first|with_reducible assumption|(with_reducible refine Blk.newAt _ ?_;focus(first|with_reducible rfl|(simp;done)))|with_reducible refine Blk.old ?_ _|with_reducible refine Blk.drew ?_))) hx2
 have c1:Blk w2 (w.heap.size+1) [U b,I n] 233:=Blk.later (by(repeat(first|with_reducible assumption|(with_reducible refine Blk.newAt _ ?_;focus(first|with_reducible rfl|(simp;done)))|with_reducible refine Blk.old ?_ _|with_reducible refine Blk.drew ?_))) hx2
 have c2:Blk w2 (w.heap.size+1+1) [.int .u32 0,I 0] 233:=Blk.later (by(repeat(first|with_reducible assumption|(with_reducible refine Blk.newAt _ ?_;focus(first|with_reducible rfl|(simp;done)))|with_reducible refine Blk.old ?_ _|with_reducible refine Blk.drew ?_))) hx2
 have hx:Ext w w2:=Ext.trans (by(repeat with_reducible first|exact eR _|assumption|refine eA ?_ _|refine eD ?_|refine eW ?_ _|(refine eS ?_ ?_;focus(first|(simp;done)|(simp;omega)|omega)))) hx2
 clear hx2
 have k0:=c0.keep
 have k1:=c1.keep
 have k2:=c2.keep
 go_wp2_with fail
 refine wp_region_E 7 rfl (by kernel_rfl) (by kernel_rfl) ?_
 refine WEi_at 0 ?_
 iterate 7
  refine WEi_q rfl (by decide) (by kernel_rfl) rfl ?_;apply Exists.intro;refine⟨fun w1 hx1=>?_,?_⟩
  ·have hq1:=hx1.cells;go_simp;try go_bits
   first|with_reducible rfl|(refine(mask_any _ _ HN.out).mono ?_;rintro e w' ⟨rfl,rfl⟩;exact⟨rfl,eR _⟩)
  go_frame;try simp only[Nat.reduceAdd]
 refine WEi_out ?_
 refine WE_done (by kernel_rfl) (fun w3 hx3=>?_)
 (try simp only[List.drop_succ_cons,List.drop_zero])
 have k3:=(c2.later hx3).cells
 have k4:=(c2.later hx3).frozen
 clear k0 k1 k2
 go_wp2
 refine bodyPost_ret (v:=.agg #[U (meetA a m b n),I (meetN a m b n)]) ?_ rfl ⟨rfl,?_⟩
 ·simp[results,Tryz.results200,go_sem,k3,meetA]
 ·have:=hx.trans hx3;(repeat with_reducible first|exact eR _|assumption|refine eA ?_ _|refine eD ?_|refine eW ?_ _|(refine eS ?_ ?_;focus(first|(simp;done)|(simp;omega)|omega)))
inductive T where
 |nil
 |node (pa:BitVec 32) (pn:Int) (r:Rul) (is:Bool) (l k:T)
def T.size:T->Nat
 | .nil=>0
 | .node _ _ _ _ l k=>1+l.size+k.size
def T.Ok:T->Prop
 | .nil=>True
 | .node pa n _ _ l k=>Valid pa n/\l.Ok/\k.Ok
abbrev forkC(pa:BitVec 32)(n:Int)(r:Rul)(is:Bool)(vl vk:Value):List Value:=[U pa,I n,U r.pa,I r.pl,I r.act,I r.nx,.bool is,vl,vk]
def TreeAt(w:World):T->Value->List Nat->Prop
 | .nil,v,bs=>v=.pointer none/\bs=[]
 | .node pa n r is l k,v,bs=>∃b bl bk vl vk,v=.pointer (some ⟨b,0,none⟩)/\bs=b::(bl++bk)/\Blk w b (forkC pa n r is vl vk) 236/\TreeAt w l vl bl/\TreeAt w k vk bk
theorem TreeAt.same{w w':World}:∀{t:T} {v:Value} {bs:List Nat},TreeAt w t v bs->(∀b∈bs,w'.heap[b]?=w.heap[b]?)->TreeAt w' t v bs
 | .nil,_,_,h,_=>h
 | .node ..,v,bs,⟨b,bl,bk,vl,vk,h1,h2,h3,h4,h5⟩,hs=>by
   subst h2
   refine⟨b,bl,bk,vl,vk,h1,rfl,?_,h4.same fun q hq=>hs q (by simp[hq]),h5.same fun q hq=>hs q (by simp[hq])⟩
   unfold Blk at*
   rw[hs b (by simp)];exact h3
theorem TreeAt.lt{w:World}:∀{t:T} {v:Value} {bs:List Nat},TreeAt w t v bs->∀b∈bs,b<w.heap.size
 | .nil,_,_,⟨_,h⟩,b,hb=>by subst h;cases hb
 | .node ..,v,bs,⟨b,bl,bk,vl,vk,h1,h2,h3,h4,h5⟩,q,hq=>by
   subst h2
   simp only[List.mem_cons,List.mem_append]at hq
   rcases hq with rfl|hq|hq
   ·exact h3.lt
   ·exact h4.lt q hq
   ·exact h5.lt q hq
theorem TreeAt.later{w w':World}{t:T}{v:Value}{bs:List Nat}(h:TreeAt w t v bs)(hx:Ext w w'):TreeAt w' t v bs:=
 h.same fun b hb=>Below.block hx b (h.lt b hb)
theorem TreeAt.len{w:World}:∀{t:T} {v:Value} {bs:List Nat},TreeAt w t v bs->bs.length=t.size
 | .nil,_,_,⟨_,h⟩=>by subst h;rfl
 | .node ..,v,bs,⟨b,bl,bk,vl,vk,h1,h2,h3,h4,h5⟩=>by
   subst h2
   simp only[List.length_cons,List.length_append,T.size,h4.len,h5.len];omega
def kidV(a:BitVec 32)(n:Int)(vl vk:Value):Value:=if bitV a n=0 then vl else vk
theorem below_any(w:World)(b:Nat)(pa:BitVec 32)(n:Int)(r:Rul)(is:Bool)(vl vk:Value)(a:BitVec 32)(hb:Blk w b (forkC pa n r is vl vk) 236)(hn:In64 n):
 Calls Tryz.prog 182 #[.pointer (some ⟨b,0,none⟩),U a] w fun e w'=>e=.returned (kidV a n vl vk)/\Ext w w':=by
 have k0:=hb.keep
 rcases bit01 a n with g|g
 ·have H:=Hd (show kidV a n vl vk=vl by unfold kidV;rw[if_pos g])
  go_enter Tryz.func182,Tryz.ntmps182
  go_wp2_with fail
  refine wp_region_E 12 rfl (by kernel_rfl) (by kernel_rfl) ?_
  refine WEi_at 0 ?_
  iterate 12
   refine WEi_q rfl (by decide) (by kernel_rfl) rfl ?_;apply Exists.intro;refine⟨fun w1 hx1=>?_,?_⟩
   ·have hq1:=hx1.cells;go_simp;try go_bits
    first|with_reducible rfl|(refine(bit_any _ _ _ hn).mono ?_;rintro e w' ⟨rfl,rfl⟩;exact⟨by rw[g],eR _⟩)
   go_frame;try simp only[Nat.reduceAdd]
  refine WEi_out ?_
  refine WE_done (by kernel_rfl) (fun w3 hx3=>?_)
  (try simp only[List.drop_succ_cons,List.drop_zero])
  go_wp2
  go_ret
  exact⟨by rw[H.out];rfl,hx3⟩
 ·have H:=Hd (show kidV a n vl vk=vk by unfold kidV;rw[if_neg (by omega)])
  go_enter Tryz.func182,Tryz.ntmps182
  go_wp2_with fail
  refine wp_region_E 12 rfl (by kernel_rfl) (by kernel_rfl) ?_
  refine WEi_at 0 ?_
  iterate 12
   refine WEi_q rfl (by decide) (by kernel_rfl) rfl ?_;apply Exists.intro;refine⟨fun w1 hx1=>?_,?_⟩
   ·have hq1:=hx1.cells;go_simp;try go_bits
    first|with_reducible rfl|(refine(bit_any _ _ _ hn).mono ?_;rintro e w' ⟨rfl,rfl⟩;exact⟨by rw[g],eR _⟩)
   go_frame;try simp only[Nat.reduceAdd]
  refine WEi_out ?_
  refine WE_done (by kernel_rfl) (fun w3 hx3=>?_)
  (try simp only[List.drop_succ_cons,List.drop_zero])
  go_wp2
  go_ret
  exact⟨by rw[H.out];rfl,hx3⟩
def T.find(a:BitVec 32):T->Option Rul->Option Rul
 | .nil,best=>best
 | .node pa n r is l k,best=>if holdsV pa n a then(if bitV a n=0 then l.find a (if is then some r else best)else k.find a (if is then some r else best))else best
def T.depth(a:BitVec 32):T->Nat
 | .nil=>0
 | .node pa n _ _ l k=>if holdsV pa n a then 1+(if bitV a n=0 then l.depth a else k.depth a)else 0
structure TrieAt(w:World)(B tb:Nat)(t:T)(v:Value)(bs:List Nat):Prop where
 blk:Blk w tb [v,I t.size] 229
 tree:TreeAt w t v bs
 nodup:(tb::bs).Nodup
 low:∀q∈tb::bs,B<=q
 ok:t.Ok
theorem TrieAt.later{w w':World}{B tb:Nat}{t:T}{v:Value}{bs:List Nat}(h:TrieAt w B tb t v bs)(hx:Ext w w'):TrieAt w' B tb t v bs:=
 ⟨h.blk.later hx,h.tree.later hx,h.nodup,h.low,h.ok⟩
theorem trieFind_any(w:World)(B tb:Nat)(t:T)(v:Value)(bs:List Nat)(a:BitVec 32)(h:TrieAt w B tb t v bs):
 Calls Tryz.prog 137 #[.pointer (some ⟨tb,0,none⟩),U a] w fun e w'=>e=.returned (foundV (t.find a none))/\Ext w w':=by
 have k0:=h.blk.cells
 have htb:=h.blk.lt
 go_enter Tryz.func137,Tryz.ntmps137
 go_wp2_with fail
 go_loopg [7,8] t.size (fun g d f wr=>∃(sub:T) (v2:Value) (bs2:List Nat) (best:Option Rul),f=v2/\d=.bool best.isSome/\TreeAt w sub v2 bs2/\sub.Ok/\sub.size<=g/\Hid (sub.find a best=t.find a none)/\
  Blk wr w.heap.size zeroR.cells 39/\Blk wr (w.heap.size+1) (resR best).cells 39/\Ext w wr)
 case atStart=>exact⟨t,v,bs,none,rfl,rfl,h.tree,h.ok,Nat.le_refl _,rfl,(Blk.newAt zeroR.cells rfl).old _,Blk.newAt zeroR.cells (by simp),by(repeat with_reducible first|exact eR _|assumption|refine eA ?_ _|refine eD ?_|refine eW ?_ _|(refine eS ?_ ?_;focus(first|(simp;done)|(simp;omega)|omega)))⟩
 case round=>
  obtain⟨sub,v2,bs2,best,rfl,rfl,ht,hok,hg,hc,hz,hbb,hx⟩:=hrel
  cases sub with
  |nil=>
   obtain⟨rfl,rfl⟩:=ht
   have hzc:=hz.cells
   have hzf:=hz.frozen
   have hbc:=hbb.cells
   have HC:=Hd (show best=t.find a none from hc.out)
   go_wp2
   refine bodyPost_ret (v:=foundV best) ?_ rfl ⟨by rw[HC.out],by(repeat with_reducible first|exact eR _|assumption|refine eA ?_ _|refine eD ?_|refine eW ?_ _|(refine eS ?_ ?_;focus(first|(simp;done)|(simp;omega)|omega)))⟩
   simp[results,Tryz.results137,go_sem,hzc]
  |node pa n r is l k=>
   obtain⟨b,bl,bk,vl,vk,rfl,rfl,hb,hl,hk⟩:=ht
   obtain⟨hn0,okl,okk⟩:=hok
   have hn:=hn0.in64
   clear hn0
   have HG:=Hd hg
   clear hg
   have k1:=(hb.later hx).keep
   have hb2:=hb.later hx
   have hblt:=hb.lt
   have hzk:=hz.keep
   have hzf:=hz.keepF
   have hbk2:=hbb.keep
   have hbf:=hbb.keepF
   by_cases hh:holdsV pa n a=true
   ·have hc2:=Hd (show(if bitV a n=0 then l.find a (if is then some r else best)else k.find a (if is then some r else best))=t.find a none by
     have:=hc.out;simp only[T.find,hh,if_true]at this;exact this)
    clear hc
    cases is with
    |false=>
     go_wp2_with (first
      |(go_at_call 181;refine(spanHolds_any _ _ _ _ hn).mono ?_;rintro e w2 ⟨rfl,hx2⟩;have k2:=(hb2.later hx2).keep)
      |(go_at_call 182;refine(below_any _ _ _ _ _ _ _ _ _ (hb2.later hx2) hn).mono ?_;rintro e w3 ⟨rfl,hx3⟩))
     have hs1:1+l.size+k.size<=gk:=HG.out
     go_roundg (gk-1)
     case measure=>omega
     case rel=>
      have hx23:=hx2.trans hx3
      by_cases g:bitV a n=0
      ·exact⟨l,vl,bl,best,by unfold kidV;rw[if_pos g],rfl,hl,okl,by omega,by have:=hc2.out;rw[if_pos g]at this;exact this,hz.later hx23,hbb.later hx23,hx.trans hx23⟩
      ·exact⟨k,vk,bk,best,by unfold kidV;rw[if_neg g],rfl,hk,okk,by omega,by have:=hc2.out;rw[if_neg g]at this;exact this,hz.later hx23,hbb.later hx23,hx.trans hx23⟩
    |true=>
     go_wp2_with (first
      |(go_at_call 181;refine(spanHolds_any _ _ _ _ hn).mono ?_;rintro e w2 ⟨rfl,hx2⟩;have hb3:=hb2.later hx2;have hz3:=hz.later hx2;have hbb3:=hbb.later hx2;have k2:=hb3.cells;have z2:=hbb3.cells;have z3:=hbb3.frozen)
      |(go_at_call 182;refine(below_any _ _ pa n r true vl vk _ (by(repeat(first|with_reducible assumption|with_reducible refine Blk.old ?_ _|with_reducible refine Blk.drew ?_|(with_reducible refine Blk.otherP ?_ ?_;focus(first|(simp;done)|(simp;omega)))))) hn).mono ?_;rintro e w3 ⟨rfl,hx3⟩))
     have hs1:1+l.size+k.size<=gk:=HG.out
     go_roundg (gk-1)
     case measure=>omega
     case rel=>
      have y1:Ext w w3:=Ext.trans (by have:=hx.trans hx2;(repeat with_reducible first|exact eR _|assumption|refine eA ?_ _|refine eD ?_|refine eW ?_ _|(refine eS ?_ ?_;focus(first|(simp;done)|(simp;omega)|omega)))) hx3
      have y2:Blk w3 w.heap.size zeroR.cells 39:=Blk.later (by(repeat(first|with_reducible assumption|with_reducible refine Blk.old ?_ _|with_reducible refine Blk.drew ?_|(with_reducible refine Blk.otherP ?_ ?_;focus(first|(simp;done)|(simp;omega)))))) hx3
      have y3:Blk w3 (w.heap.size+1) (resR (some r)).cells 39:=Blk.later (by(repeat(first|with_reducible assumption|with_reducible refine Blk.old ?_ _|with_reducible refine Blk.drew ?_|(with_reducible refine Blk.otherP ?_ ?_;focus(first|(simp;done)|(simp;omega)))|with_reducible exact Row4.of (by with_reducible assumption)|refine Blk.set4 ?_|with_reducible refine Row4.old ?_ _))) hx3
      by_cases g:bitV a n=0
      ·exact⟨l,vl,bl,some r,by unfold kidV;rw[if_pos g],rfl,hl,okl,by omega,by have:=hc2.out;rw[if_pos g]at this;exact this,y2,y3,y1⟩
      ·exact⟨k,vk,bk,some r,by unfold kidV;rw[if_neg g],rfl,hk,okk,by omega,by have:=hc2.out;rw[if_neg g]at this;exact this,y2,y3,y1⟩
   ·have hh2:holdsV pa n a=false:=by simpa using hh
    have HC:=Hd (show best=t.find a none by have:=hc.out;simpa[T.find,hh2]using this)
    go_wp2_with (first
     |(go_at_call 181;refine(spanHolds_any _ _ _ _ hn).mono ?_;rintro e w2 ⟨rfl,hx2⟩;have k2:=(hb2.later hx2).keep;have z2:=(hz.later hx2).cells;have z3:=(hz.later hx2).frozen;have z4:=(hbb.later hx2).cells))
    refine bodyPost_ret (v:=foundV best) ?_ rfl ⟨by rw[HC.out],?_⟩
    ·simp[results,Tryz.results137,go_sem,z2]
    ·have:=hx.trans hx2;(repeat with_reducible first|exact eR _|assumption|refine eA ?_ _|refine eD ?_|refine eW ?_ _|(refine eS ?_ ?_;focus(first|(simp;done)|(simp;omega)|omega)))
theorem meetN_comm(a:BitVec 32)(m:Int)(b:BitVec 32)(n:Int):meetN a m b n=meetN b n a m:=by
 rw[meetN_min,meetN_min,common_comm];omega
theorem meetA_comm(a:BitVec 32)(m:Int)(b:BitVec 32)(n:Int):meetA a m b n=meetA b n a m:=by
 unfold meetA
 rw[meetN_comm b n a m,and_mask_eq]
 intro i hi
 refine(common_msb a b).1 i ?_
 have:(clamp (meetN a m b n):Int)<=commonV a b:=by
  have hb:=common_bd a b
  have h2:meetN a m b n<=commonV a b:=by rw[meetN_min];omega
  unfold clamp
  split
  ·omega
  ·split<;>omega
 omega
theorem meet_valid{a:BitVec 32}{m:Int}{b:BitVec 32}{n:Int}(h1:Valid a m)(h2:Valid b n):Valid (meetA a m b n) (meetN a m b n):=by
 have hc:=common_bd a b
 obtain⟨x0,x1,_⟩:=h1
 obtain⟨y0,y1,_⟩:=h2
 refine⟨by rw[meetN_min];omega,by rw[meetN_min];omega,?_⟩
 unfold meetA
 rw[BitVec.and_assoc,BitVec.and_self]
theorem meet_bits{pa:BitVec 32}{n:Int}{qa:BitVec 32}{qn:Int}(h1:Valid pa n)(h2:Valid qa qn)(hp:¬(meetA pa n qa qn=pa/\meetN pa n qa qn=n))
 (hq:¬(meetA qa qn pa n=qa/\meetN qa qn pa n=qn)):bitV pa (meetN pa n qa qn)≠bitV qa (meetN pa n qa qn):=by
 have hc:=common_bd pa qa
 obtain⟨x0,x1,x2⟩:=h1
 obtain⟨y0,y1,y2⟩:=h2
 have e1:meetN pa n qa qn≠n:=fun e=>hp ⟨by unfold meetA;rw[e,x2],e⟩
 have e2:meetN qa qn pa n≠qn:=fun e=>hq ⟨by unfold meetA;rw[e,y2],e⟩
 rw[meetN_comm qa qn pa n]at e2
 rw[meetN_min]at e1 e2 ⊢
 have e3:min (min n qn) (commonV pa qa)=commonV pa qa:=by omega
 rw[e3]
 exact common_bits pa qa (by omega)
@[go_sem high] theorem span_neq(a b:BitVec 32)(m n:Int)(w:World):(binOp .neq 233 (.agg #[U a,I m]) (.agg #[U b,I n])).run Tryz.prog w=.ok (.bool (!decide (a=b/\m=n))) w:=by
  go_simp
  repeat' split<;>simp_all
@[go_sem high] theorem span_eql(a b:BitVec 32)(m n:Int)(w:World):(binOp .eql 233 (.agg #[U a,I m]) (.agg #[U b,I n])).run Tryz.prog w=.ok (.bool (decide (a=b/\m=n))) w:=by
  go_simp
  repeat' split<;>simp_all
def hangT(pa:BitVec 32)(n:Int)(r:Rul):T->T
 | .nil=>.node pa n r true .nil .nil
 | .node qa qn qr qi ql qk=>
   let bN:=meetN pa n qa qn
   let bA:=meetA pa n qa qn
   if bA=pa/\bN=n then(if bitV qa bN=0 then .node pa n r true (.node qa qn qr qi ql qk) .nil else .node pa n r true .nil (.node qa qn qr qi ql qk))
   else(if bitV qa bN=0 then .node bA bN zeroR false (.node qa qn qr qi ql qk) (.node pa n r true .nil .nil)else .node bA bN zeroR false (.node pa n r true .nil .nil) (.node qa qn qr qi ql qk))
def hangK(pa:BitVec 32)(n:Int):T->Int
 | .nil=>1
 | .node qa qn _ _ _ _=>if meetA pa n qa qn=pa/\meetN pa n qa qn=n then 1 else 2
theorem hang_size(pa:BitVec 32)(n:Int)(r:Rul)(t:T):((hangT pa n r t).size:Int)=t.size+hangK pa n t:=by
 cases t with
 |nil=>rfl
 |node qa qn qr qi ql qk=>
  unfold hangT hangK
  simp only
  split
  ·split<;>simp only[T.size]<;>omega
  ·split<;>simp only[T.size]<;>omega
theorem heap_set(w:World)(a:Addr)(v:Value)(q:Nat):(w.setCell a v).heap[q]?=if a.block=q then(w.heap[q]?).map (fun o=>match o with
 | .cells c elem frozen=>.cells (if a.spot.isSome then c else c.setIfInBounds a.off v) elem frozen
 |o=>o)else w.heap[q]?:=by
 simp only[World.setCell,Array.getElem?_modify]
 rfl
theorem set_again(c:Array Value)(i j:Nat)(a b a' b':Value):(((c.setIfInBounds i a).setIfInBounds j b).setIfInBounds i a').setIfInBounds j b'=(c.setIfInBounds i a').setIfInBounds j b':=by
 apply Array.ext_getElem?
 intro k
 simp only[Array.getElem?_setIfInBounds,Array.size_setIfInBounds]
 repeat' split<;>simp_all
theorem upd_again{w x:World}{pb po tb q:Nat}{a a' b b':Value}(h:x.heap[q]?=((w.setCell ⟨pb,po,none⟩ a).setCell ⟨tb,1,none⟩ b).heap[q]?):
 ((x.setCell ⟨pb,po,none⟩ a').setCell ⟨tb,1,none⟩ b').heap[q]?=((w.setCell ⟨pb,po,none⟩ a').setCell ⟨tb,1,none⟩ b').heap[q]?:=by
 simp only[heap_set]at h ⊢
 rw[h]
 cases w.heap[q]? with
 |none=>by_cases h1:tb=q<;>by_cases h2:pb=q<;>simp[h1,h2]
 |some o=>
  cases o<;>by_cases h1:tb=q<;>by_cases h2:pb=q<;>simp[h1,h2,set_again]
  all_goals(apply Array.ext_getElem?;intro k;simp only[Array.getElem?_setIfInBounds,Array.size_setIfInBounds];repeat' split<;>simp_all)
structure Upd(w w':World)(p:Addr)(x:Value)(tb:Nat)(s:Int)(f:Nat):Prop where
 size:w.heap.size<=w'.heap.size
 blk:∀q,q<w.heap.size->q≠f->w'.heap[q]?=((w.setCell p x).setCell ⟨tb,1,none⟩ (I s)).heap[q]?
theorem Upd.later{w w1 w2:World}{p:Addr}{x:Value}{tb:Nat}{s:Int}{f:Nat}(h:Upd w w1 p x tb s f)(hx:∀q,q<w1.heap.size->q≠f->w2.heap[q]?=w1.heap[q]?)(hs:w1.heap.size<=w2.heap.size):Upd w w2 p x tb s f:=
 ⟨Nat.le_trans h.size hs,fun q h1 h2=>(hx q (Nat.lt_of_lt_of_le h1 h.size) h2).trans (h.blk q h1 h2)⟩
structure HangPre(w:World)(B tb:Nat)(vt:Value)(sz:Int)(pb po:Nat)(pcs:List Value)(PT:TypeId)(fb:Nat)(pa:BitVec 32)(n:Int)(r:Rul)(old:T)(v:Value)(bs:List Nat):Prop where
 blkT:Blk w tb [vt,I sz] 229
 blkP:Blk w pb pcs PT
 get:pcs[po]?=some v
 alias:pb=tb->po=0
 blkF:Blk w fb (forkC pa n r true (.pointer none) (.pointer none)) 236
 tree:TreeAt w old v bs
 neT:fb≠tb
 neP:fb≠pb
 apart:∀q∈bs,q≠fb/\q≠pb/\q≠tb
 nodup:bs.Nodup
 lowT:B<=tb
 lowP:B<=pb
 lowF:B<=fb
 size0:0<=sz
 size1:sz<=1000000000000000
 valid:Valid pa n
 ok:old.Ok
structure HangPost(w w':World)(B tb pb po fb:Nat)(sz:Int)(pa:BitVec 32)(n:Int)(r:Rul)(old:T)(bs:List Nat)(v':Value)(bs':List Nat):Prop where
 tree:TreeAt w' (hangT pa n r old) v' bs'
 from':∀q∈bs',q∈bs\/q=fb\/w.heap.size<=q
 nodup:bs'.Nodup
 upd:Upd w w' ⟨pb,po,none⟩ v' tb (sz+hangK pa n old) fb
 below:Below B w w'
theorem hang_nil(w:World)(B tb:Nat)(vt:Value)(sz:Int)(pb po:Nat)(pcs:List Value)(PT:TypeId)(fb:Nat)(pa:BitVec 32)(n:Int)(r:Rul)(v:Value)(bs:List Nat)
 (h:HangPre w B tb vt sz pb po pcs PT fb pa n r .nil v bs):
 Calls Tryz.prog 202 #[.pointer (some ⟨tb,0,none⟩),.pointer (some ⟨pb,po,none⟩),.pointer (some ⟨fb,0,none⟩)] w fun e w'=>
  e=.returned (.tuple #[])/\∃v' bs',HangPost w w' B tb pb po fb sz pa n r .nil bs v' bs':=by
 have kT:=h.blkT.cells
 have kTf:=h.blkT.frozen
 have kP:w.cell? ⟨pb,po,none⟩=some v:=by rw[h.blkP.cells,h.get]
 have kPf:=h.blkP.frozen
 obtain⟨rfl,rfl⟩:=h.tree
 have s0:=h.size0
 have s1:=h.size1
 have fin:∀w',w'=((w.setCell ⟨pb,po,none⟩ (.pointer (some ⟨fb,0,none⟩))).setCell ⟨tb,1,none⟩ (I (sz+1)))->∃v' bs',HangPost w w' B tb pb po fb sz pa n r .nil [] v' bs':=by
  rintro w' rfl
  refine⟨_,[fb],⟨fb,[],[],_,_,rfl,rfl,(h.blkF.other (by exact fun e=>h.neP e.symm) _).other (by exact fun e=>h.neT e.symm) _,⟨rfl,rfl⟩,⟨rfl,rfl⟩⟩,fun q hq=>.inr (.inl (by simpa using hq)),by simp,
   ⟨by simp[World.setCell],fun q _ _=>rfl⟩,((Below.refl _ _).setCell h.lowP _).setCell h.lowT _⟩
 by_cases al:pb=tb
 ·have:=h.alias al
  subst al this
  clear kT
  have kT1:w.cell? ⟨pb,1,none⟩=some (I sz):=by rw[h.blkT.cells];rfl
  go_enter Tryz.func202,Tryz.ntmps202
  go_wp2
  exact bodyPost_ret (v:=.tuple #[]) (results_none Tryz.results202 _ _ _) rfl ⟨rfl,fin _ rfl⟩
 ·have al':tb≠pb:=fun e=>al e.symm
  have kT1:w.cell? ⟨tb,1,none⟩=some (I sz):=by rw[h.blkT.cells];rfl
  clear kT
  go_enter Tryz.func202,Tryz.ntmps202
  go_wp2
  exact bodyPost_ret (v:=.tuple #[]) (results_none Tryz.results202 _ _ _) rfl ⟨rfl,fin _ rfl⟩
structure HangMid(w W:World)(B tb pb po fb ob:Nat)(sz:Int)(pa:BitVec 32)(n:Int)(r:Rul)(qa:BitVec 32)(qn:Int)(qr:Rul)(qi:Bool)(vl vk:Value):Prop where
 upd:Upd w W ⟨pb,po,none⟩ (.pointer (some ⟨fb,0,none⟩)) tb (sz+1) fb
 below:Below B w W
 size:w.heap.size=W.heap.size
 cF:Blk W fb (forkC pa n r true (.pointer none) (.pointer none)) 236
 cO:Blk W ob (forkC qa qn qr qi vl vk) 236
 rest:∃vt' pcs' PT',Blk W tb [vt',I (sz+1)] 229/\Blk W pb pcs' PT'/\pcs'[po]?=some (.pointer (some ⟨fb,0,none⟩))
theorem bit_bd(a:BitVec 32)(i:Int):0<=bitV a i/\bitV a i<2:=by rcases bit01 a i with h|h<;>omega
theorem old_tree{w w':World}{B tb:Nat}{vt:Value}{sz:Int}{pb po:Nat}{pcs:List Value}{PT:TypeId}{fb:Nat}{pa:BitVec 32}{n:Int}{r:Rul}{old:T}{v:Value}{bs:List Nat}
 (h:HangPre w B tb vt sz pb po pcs PT fb pa n r old v bs) {x:Value} {s:Int} (hU:Upd w w' ⟨pb,po,none⟩ x tb s fb):TreeAt w' old v bs:=by
 refine h.tree.same fun q hq=>?_
 obtain⟨a1,a2,a3⟩:=h.apart q hq
 rw[hU.blk q (h.tree.lt q hq) a1,Below.heap_setCell _ _ _ _ (by exact a3),Below.heap_setCell _ _ _ _ (by exact a2)]
theorem hang_doneA{w W1 w6:World}{B tb:Nat}{vt:Value}{sz:Int}{pb po:Nat}{pcs:List Value}{PT:TypeId}{fb:Nat}{pa:BitVec 32}{n:Int}{r:Rul}{bs:List Nat}{qa:BitVec 32}{qn:Int}{qr:Rul}{qi:Bool}{ql qk:T}{ob:Nat}{vl vk:Value}
 (h:HangPre w B tb vt sz pb po pcs PT fb pa n r (.node qa qn qr qi ql qk) (.pointer (some ⟨ob,0,none⟩)) bs) (hM:HangMid w W1 B tb pb po fb ob sz pa n r qa qn qr qi vl vk) (hx:Ext W1 w6)
 (hsp:meetA pa n qa qn=pa/\meetN pa n qa qn=n) (i:Nat) (hi:i=if bitV qa (meetN pa n qa qn)=0 then 7 else 8):
 ∃v' bs',HangPost w (w6.setCell ⟨fb,i,none⟩ (.pointer (some ⟨ob,0,none⟩))) B tb pb po fb sz pa n r (.node qa qn qr qi ql qk) bs v' bs':=by
 have hU:Upd w (w6.setCell ⟨fb,i,none⟩ (.pointer (some ⟨ob,0,none⟩))) ⟨pb,po,none⟩ (.pointer (some ⟨fb,0,none⟩)) tb (sz+1) fb:=
  hM.upd.later (fun q h1 h2=>by rw[Below.heap_setCell _ _ _ _ (by exact h2),Below.block hx q h1]) (by have:=hx.size;simp[World.setCell];exact this)
 have hT:=old_tree h hU
 have hB:Below B w (w6.setCell ⟨fb,i,none⟩ (.pointer (some ⟨ob,0,none⟩))):=
  (hM.below.trans (Below.mono hx (Nat.le_trans (Nat.le_of_lt (Nat.lt_of_le_of_lt h.lowF h.blkF.lt)) (by rw[hM.size];exact Nat.le_refl _)))).setCell h.lowF _
 have hF:=(hM.cF.later hx).set i (.pointer (some ⟨ob,0,none⟩))
 have hK:hangK pa n (.node qa qn qr qi ql qk)=1:=if_pos hsp
 have hfb:fb∉bs:=fun hq=>(h.apart fb hq).1 rfl
 by_cases g:bitV qa (meetN pa n qa qn)=0
 ·rw[if_pos g]at hi
  subst hi
  refine⟨.pointer (some ⟨fb,0,none⟩),fb::(bs++[]),⟨?_,?_,?_,?_,hB⟩⟩
  ·simp only[hangT,hsp,and_self,if_true]
   rw[hsp.2]at g
   simp only[g,if_true]
   exact⟨fb,bs,[],_,_,rfl,rfl,hF,hT,rfl,rfl⟩
  ·intro q hq
   simp only[List.append_nil,List.mem_cons]at hq
   rcases hq with rfl|hq
   ·exact .inr (.inl rfl)
   ·exact .inl hq
  ·simp[hfb,h.nodup]
  ·rw[hK];exact hU
 ·rw[if_neg g]at hi
  subst hi
  refine⟨.pointer (some ⟨fb,0,none⟩),fb::([]++bs),⟨?_,?_,?_,?_,hB⟩⟩
  ·simp only[hangT,hsp,and_self,if_true]
   rw[hsp.2]at g
   simp only[g,if_false]
   exact⟨fb,[],bs,_,_,rfl,rfl,hF,⟨rfl,rfl⟩,hT⟩
  ·intro q hq
   simp only[List.nil_append,List.mem_cons]at hq
   rcases hq with rfl|hq
   ·exact .inr (.inl rfl)
   ·exact .inl hq
  ·simp[hfb,h.nodup]
  ·rw[hK];exact hU
structure HangJ(w W:World)(B tb pb po fb ob sb jb i:Nat)(sz:Int)(pa:BitVec 32)(n:Int)(r:Rul)(qa:BitVec 32)(qn:Int)(qr:Rul)(qi:Bool)(vl vk:Value):Prop where
 upd:Upd w W ⟨pb,po,none⟩ (.pointer (some ⟨jb,0,none⟩)) tb (sz+2) fb
 below:Below B w W
 cF:Blk W fb (forkC pa n r true (.pointer none) (.pointer none)) 236
 cO:Blk W ob (forkC qa qn qr qi vl vk) 236
 cJ:Blk W jb ((forkC (meetA pa n qa qn) (meetN pa n qa qn) zeroR false (.pointer none) (.pointer none)).set i (.pointer (some ⟨fb,0,none⟩))) 236
 cS:Blk W sb [U (meetA pa n qa qn),I (meetN pa n qa qn)] 233
 cP:W.cell? ⟨pb,po,none⟩=some (.pointer (some ⟨jb,0,none⟩))
theorem hang_join{w W1 w7:World}{B tb:Nat}{vt:Value}{sz:Int}{pb po:Nat}{pcs:List Value}{PT:TypeId}{fb:Nat}{pa:BitVec 32}{n:Int}{r:Rul}{bs:List Nat}{qa:BitVec 32}{qn:Int}{qr:Rul}{qi:Bool}{ql qk:T}{ob sb jb i:Nat}{vl vk:Value}
 (h:HangPre w B tb vt sz pb po pcs PT fb pa n r (.node qa qn qr qi ql qk) (.pointer (some ⟨ob,0,none⟩)) bs) (hM:HangMid w W1 B tb pb po fb ob sz pa n r qa qn qr qi vl vk) (hx:Ext W1 w7)
 (hj:Blk w7 jb (forkC (meetA pa n qa qn) (meetN pa n qa qn) zeroR false (.pointer none) (.pointer none)) 236) (hjl:W1.heap.size<=jb) (hS:Blk w7 sb [U (meetA pa n qa qn),I (meetN pa n qa qn)] 233) (hsl:W1.heap.size<=sb) (hsj:sb<jb)
 (hob:ob<W1.heap.size) (o2:ob≠pb) (o3:ob≠tb) {W:World}
 (hW:W=(((w7.setCell ⟨jb,i,none⟩ (.pointer (some ⟨fb,0,none⟩))).setCell ⟨pb,po,none⟩ (.pointer (some ⟨jb,0,none⟩))).setCell ⟨tb,1,none⟩ (I (sz+2)))):
 HangJ w W B tb pb po fb ob sb jb i sz pa n r qa qn qr qi vl vk:=by
 subst hW
 have lt:=h.blkT.lt
 have lp:=h.blkP.lt
 have lf:=h.blkF.lt
 have hz:=hM.size
 obtain⟨vt',pcs',PT',cT,cP,cg⟩:=hM.rest
 have hpo:po<pcs'.length:=(List.getElem?_eq_some_iff.1 cg).1
 refine⟨⟨?_,fun q h1 h2=>?_⟩,?_,?_,?_,?_,?_,?_⟩
 ·have:=hx.size;simp[World.setCell];omega
 ·refine upd_again (a:=.pointer (some ⟨fb,0,none⟩)) (b:=I (sz+1)) ?_
  rw[Below.heap_setCell _ _ _ _ (by simp only;omega),Below.block hx q (by omega)]
  exact hM.upd.blk q h1 h2
 ·exact(((hM.below.trans (Below.mono hx (by have:=h.lowF;omega))).setCell (by have:=h.lowF;simp only;omega) _).setCell h.lowP _).setCell h.lowT _
 ·exact(((hM.cF.later hx).other (by simp only;omega) _).other (by exact fun e=>h.neP e.symm) _).other (by exact fun e=>h.neT e.symm) _
 ·exact(((hM.cO.later hx).other (by simp only;omega) _).other (by exact fun e=>o2 e.symm) _).other (by exact fun e=>o3 e.symm) _
 ·exact((hj.set i _).other (by simp only;omega) _).other (by simp only;omega) _
 ·exact((hS.other (by simp only;omega) _).other (by simp only;omega) _).other (by simp only;omega) _
 ·have b1:=((cP.later hx).other (p:=⟨jb,i,none⟩) (by simp only;omega) (.pointer (some ⟨fb,0,none⟩))).set po (.pointer (some ⟨jb,0,none⟩))
  by_cases al:pb=tb
  ·have:=h.alias al
   subst al this
   rw[(b1.set 1 _).cells];simp[hpo]
  ·rw[(b1.other (by exact fun e=>al e.symm) _).cells];simp[hpo]
theorem hang_doneB{w W8 w9:World}{B tb:Nat}{vt:Value}{sz:Int}{pb po:Nat}{pcs:List Value}{PT:TypeId}{fb:Nat}{pa:BitVec 32}{n:Int}{r:Rul}{bs:List Nat}{qa:BitVec 32}{qn:Int}{qr:Rul}{qi:Bool}{ql qk:T}{ob sb jb i j:Nat}{vl vk:Value}
 (h:HangPre w B tb vt sz pb po pcs PT fb pa n r (.node qa qn qr qi ql qk) (.pointer (some ⟨ob,0,none⟩)) bs) (hJ:HangJ w W8 B tb pb po fb ob sb jb i sz pa n r qa qn qr qi vl vk) (hx:Ext W8 w9) (hjl:w.heap.size<=jb)
 (hsp:¬(meetA pa n qa qn=pa/\meetN pa n qa qn=n)) (hij:i=7/\j=8/\bitV qa (meetN pa n qa qn)=1\/i=8/\j=7/\bitV qa (meetN pa n qa qn)=0):
 ∃v' bs',HangPost w (w9.setCell ⟨jb,j,none⟩ (.pointer (some ⟨ob,0,none⟩))) B tb pb po fb sz pa n r (.node qa qn qr qi ql qk) bs v' bs':=by
 have lj:=hJ.cJ.lt
 have hU:Upd w (w9.setCell ⟨jb,j,none⟩ (.pointer (some ⟨ob,0,none⟩))) ⟨pb,po,none⟩ (.pointer (some ⟨jb,0,none⟩)) tb (sz+2) fb:=
  ⟨by have h1:=hJ.upd.size;have h2:=hx.size;simp[World.setCell];omega,fun q h1 h2=>by
    rw[Below.heap_setCell _ _ _ _ (by simp only;omega),Below.block hx q (by omega)];exact hJ.upd.blk q h1 h2⟩
 have hT:=old_tree h hU
 have lf:=h.blkF.lt
 have hB:Below B w (w9.setCell ⟨jb,j,none⟩ (.pointer (some ⟨ob,0,none⟩))):=
  (hJ.below.trans (Below.mono hx (by have:=h.lowF;omega))).setCell (by have:=h.lowF;simp only;omega) _
 have hF:=(hJ.cF.later hx).other (p:=⟨jb,j,none⟩) (by simp only;omega) (.pointer (some ⟨ob,0,none⟩))
 have hJJ:=(hJ.cJ.later hx).set j (.pointer (some ⟨ob,0,none⟩))
 have hK:hangK pa n (.node qa qn qr qi ql qk)=2:=if_neg hsp
 have hfb:fb∉bs:=fun hq=>(h.apart fb hq).1 rfl
 have hjb:jb∉bs:=fun hq=>by have:=h.tree.lt jb hq;omega
 have hfj:fb≠jb:=by omega
 rcases hij with⟨rfl,rfl,g⟩|⟨rfl,rfl,g⟩
 ·refine⟨.pointer (some ⟨jb,0,none⟩),jb::([fb]++bs),⟨?_,?_,?_,?_,hB⟩⟩
  ·simp only[hangT,hsp,if_false,g,Int.one_ne_zero]
   exact⟨jb,[fb],bs,_,_,rfl,rfl,hJJ,⟨fb,[],[],_,_,rfl,rfl,hF,⟨rfl,rfl⟩,⟨rfl,rfl⟩⟩,hT⟩
  ·intro q hq
   simp only[List.cons_append,List.nil_append,List.mem_cons]at hq
   rcases hq with rfl|rfl|hq
   ·exact .inr (.inr hjl)
   ·exact .inr (.inl rfl)
   ·exact .inl hq
  ·simp[hfb,hjb,h.nodup,hfj.symm]
  ·rw[hK];exact hU
 ·refine⟨.pointer (some ⟨jb,0,none⟩),jb::(bs++[fb]),⟨?_,?_,?_,?_,hB⟩⟩
  ·simp only[hangT,hsp,if_false,g,if_true]
   exact⟨jb,bs,[fb],_,_,rfl,rfl,hJJ,hT,⟨fb,[],[],_,_,rfl,rfl,hF,⟨rfl,rfl⟩,⟨rfl,rfl⟩⟩⟩
  ·intro q hq
   simp only[List.mem_cons,List.mem_append,List.not_mem_nil,or_false]at hq
   rcases hq with rfl|hq|rfl
   ·exact .inr (.inr hjl)
   ·exact .inl hq
   ·exact .inr (.inl rfl)
  ·refine List.nodup_cons.2 ⟨by simp[hjb,hfj.symm],List.nodup_append.2 ⟨h.nodup,by simp,fun a ha b hb=>?_⟩⟩
   simp at hb;subst hb;exact fun e=>hfb (e▸ha)
  ·rw[hK];exact hU
theorem hang_node(w:World)(B tb:Nat)(vt:Value)(sz:Int)(pb po:Nat)(pcs:List Value)(PT:TypeId)(fb:Nat)(pa:BitVec 32)(n:Int)(r:Rul)(v:Value)(bs:List Nat)
 (qa:BitVec 32) (qn:Int) (qr:Rul) (qi:Bool) (ql qk:T)
 (h:HangPre w B tb vt sz pb po pcs PT fb pa n r (.node qa qn qr qi ql qk) v bs)
 (hbit:¬(meetA pa n qa qn=pa/\meetN pa n qa qn=n)->bitV pa (meetN pa n qa qn)≠bitV qa (meetN pa n qa qn)):
 Calls Tryz.prog 202 #[.pointer (some ⟨tb,0,none⟩),.pointer (some ⟨pb,po,none⟩),.pointer (some ⟨fb,0,none⟩)] w fun e w'=>
  e=.returned (.tuple #[])/\∃v' bs',HangPost w w' B tb pb po fb sz pa n r (.node qa qn qr qi ql qk) bs v' bs':=by
 have kTf:=h.blkT.frozen
 have kP:w.cell? ⟨pb,po,none⟩=some v:=by rw[h.blkP.cells,h.get]
 have kPf:=h.blkP.frozen
 obtain⟨ob,bl,bk,vl,vk,rfl,rfl,hob,hl,hk⟩:=h.tree
 have s0:=h.size0
 have s1:=h.size1
 have hm64:=h.valid.in64
 have hq64:=h.ok.1.in64
 obtain⟨ap1,ap2,ap3⟩:=h.apart ob (by simp)
 have F1:∀W,W=((w.setCell ⟨pb,po,none⟩ (.pointer (some ⟨fb,0,none⟩))).setCell ⟨tb,1,none⟩ (I (sz+1)))->HangMid w W B tb pb po fb ob sz pa n r qa qn qr qi vl vk:=by
  rintro W rfl
  have b1:Blk (w.setCell ⟨pb,po,none⟩ (.pointer (some ⟨fb,0,none⟩))) pb (pcs.set po (.pointer (some ⟨fb,0,none⟩))) PT:=h.blkP.set po _
  have hpo:po<pcs.length:=(List.getElem?_eq_some_iff.1 h.get).1
  refine⟨⟨by simp[World.setCell],fun q _ _=>rfl⟩,((Below.refl _ _).setCell h.lowP _).setCell h.lowT _,by simp[World.setCell],(h.blkF.other (by exact fun e=>h.neP e.symm) _).other (by exact fun e=>h.neT e.symm) _,
   (hob.other (by exact fun e=>ap2 e.symm) _).other (by exact fun e=>ap3 e.symm) _,?_⟩
  by_cases al:pb=tb
  ·have:=h.alias al
   subst al this
   have b2:=(h.blkT.set 0 (.pointer (some ⟨fb,0,none⟩))).set 1 (I (sz+1))
   exact⟨_,_,_,b2,b2,rfl⟩
  ·exact⟨_,_,_,(h.blkT.other (p:=⟨pb,po,none⟩) (by exact al) (.pointer (some ⟨fb,0,none⟩))).set 1 (I (sz+1)),b1.other (by exact fun e=>al e.symm) _,by simp[hpo]⟩
 have kT1:w.cell? ⟨tb,1,none⟩=some (I sz):=by rw[h.blkT.cells];rfl
 have HP:=Hd h
 have hN:In64 (meetN pa n qa qn):=by
  have:=common_bd pa qa
  rw[meetN_min];obtain⟨e1,e2⟩:=hm64;obtain⟨e3,e4⟩:=hq64;unfold In64;omega
 have HN:=Hd hN
 have g1:=bit_bd pa (meetN pa n qa qn)
 have g2:=bit_bd qa (meetN pa n qa qn)
 have HM:=Hd hm64
 have HQ:=Hd hq64
 have HBIT:=Hd hbit
 have HL:=Hd hl
 have HK:=Hd hk
 have HF1:=Hd F1
 have HAP:=Hd h.apart
 have ltb:=h.blkT.lt
 have lpb:=h.blkP.lt
 have lfb:=h.blkF.lt
 have lob:=hob.lt
 have al2:pb=tb/\po=0\/tb≠pb:=by
  by_cases al:pb=tb
  ·exact .inl ⟨al,h.alias al⟩
  ·exact .inr fun e=>al e.symm
 clear h hN hm64 hq64 hbit hl hk F1 hob
 rcases al2 with⟨rfl,rfl⟩|al
 all_goals
  go_enter Tryz.func202,Tryz.ntmps202
  go_wp2_with fail
  refine hWp (fun W=>HangMid w W B _ _ _ fb ob sz pa n r qa qn qr qi vl vk) (HF1.out _ rfl) (fun W1 hW=>?_)
  have HMid:=Hd hW
  obtain⟨hU,hB,hsz,cF,cO,vt',pcs',PT',cT,cP,cg⟩:=hW
  have HZ:=Hd hsz
  clear hsz
  have kF:=cF.keep
  have kO:=cO.keep
  refine wp_region_E 10 rfl (by kernel_rfl) (by kernel_rfl) ?_
  refine WEi_at 0 ?_
  iterate 9
   refine WEi_q rfl (by decide) (by kernel_rfl) rfl ?_;apply Exists.intro;refine⟨fun w1 hx1=>?_,?_⟩
   ·have hq1:=hx1.cells;go_simp;try go_bits
    first|with_reducible rfl|(refine(spanMeet_any _ _ _ _ _ HM.out HQ.out).mono ?_;rintro e w' ⟨rfl,hx'⟩;exact⟨rfl,hx'⟩)
   go_frame;try simp only[Nat.reduceAdd]
  refine WEi_out ?_
  refine WE_do 9 rfl (by decide) (by kernel_rfl) rfl (fun wa hxa K hK=>?_)
  go_simp
  refine hK _ _ ((eR _).alloc _) ?_
  clear hK K
  refine WE_done (by kernel_rfl) (fun wb hxb=>?_)
  (try simp only[List.drop_succ_cons,List.drop_zero])
  have hsa:W1.heap.size<=wa.heap.size:=hxa.size
  have hx1b:Ext W1 wb:=hxa.trans (((eR wa).alloc _).trans hxb)
  have cS:Blk wb wa.heap.size [.int .u32 0,.int .i64 0] 233:=Blk.later (by(repeat(first|with_reducible assumption|(with_reducible refine Blk.newAt _ ?_;focus(first|with_reducible rfl|(simp;done)))|with_reducible refine Blk.old ?_ _|with_reducible refine Blk.drew ?_))) hxb
  have kS:=cS.cells
  have kSf:=cS.frozen
  clear hxa hxb
  go_wp2_with fail
  refine hWp (fun W=>Ext W1 W/\Blk W wa.heap.size [U (meetA pa n qa qn),I (meetN pa n qa qn)] 233) ⟨?_,(cS.set 0 _).set 1 _⟩ (fun W4 hW4=>?_)
  ·exact Ext.setCellP hsa (Ext.setCellP hsa hx1b)
  obtain⟨hx4,cS4⟩:=hW4
  clear cS kS kSf hx1b
  generalize wa.heap.size=sb at*
  clear wa wb
  have kS:=cS4.keep
  have kF:=(cF.later hx4).keep
  have kO:=(cO.later hx4).keep
  by_cases hsp:meetA pa n qa qn=pa/\meetN pa n qa qn=n
  ·have hspd:decide (meetA pa n qa qn=pa/\meetN pa n qa qn=n)=true:=dT hsp
   refine wp_region_E 5 rfl (by kernel_rfl) (by kernel_rfl) ?_
   refine WEi_at 0 ?_
   iterate 5
    refine WEi_q rfl (by decide) (by kernel_rfl) rfl ?_;apply Exists.intro;refine⟨fun w1 hx1=>?_,?_⟩
    ·have hq1:=hx1.cells;go_simp;try go_bits
     first|with_reducible rfl
    go_frame;try simp only[Nat.reduceAdd]
   refine WEi_out ?_
   refine WE_done (by kernel_rfl) (fun w5 hx5=>?_)
   (try simp only[List.drop_succ_cons,List.drop_zero])
   have HSP:=Hd hsp
   clear hsp
   go_wp2_with fail
   have kS:=(cS4.later hx5).keep
   have kF:=(cF.later (hx4.trans hx5)).keep
   have kO:=(cO.later (hx4.trans hx5)).keep
   have kP:=Ext.keep (show w5.cell? ⟨_,_,none⟩=some (.pointer (some ⟨fb,0,none⟩))by rw[(cP.later (hx4.trans hx5)).cells];exact cg)
   refine wp_region_E 15 rfl (by kernel_rfl) (by kernel_rfl) ?_
   refine WEi_at 0 ?_
   iterate 15
    refine WEi_q rfl (by decide) (by kernel_rfl) rfl ?_;apply Exists.intro;refine⟨fun w1 hx1=>?_,?_⟩
    ·have hq1:=hx1.cells;go_simp;try go_bits
     first|with_reducible rfl|(refine(bit_any _ _ _ HN.out).mono ?_;rintro e w' ⟨rfl,rfl⟩;exact⟨rfl,eR _⟩)
    go_frame;try simp only[Nat.reduceAdd]
   refine WEi_out ?_
   refine WE_done (by kernel_rfl) (fun w6 hx6=>?_)
   (try simp only[List.drop_succ_cons,List.drop_zero])
   have hx16:Ext W1 w6:=hx4.trans (hx5.trans hx6)
   have cF6:=cF.later hx16
   have kF:=cF6.cells
   have kFf:=cF6.frozen
   clear g1 g2
   rcases bit01 qa (meetN pa n qa qn)with g|g
   ·have HG:=Hd g
    go_wp2
    go_end0
    exact⟨rfl,hang_doneA HP.out HMid.out hx16 HSP.out 7 (by rw[if_pos HG.out])⟩
   ·have HG:=Hd g
    go_wp2
    go_end0
    exact⟨rfl,hang_doneA HP.out HMid.out hx16 HSP.out 8 (by rw[if_neg (by rw[HG.out];omega)])⟩
  ·have hspd:decide (meetA pa n qa qn=pa/\meetN pa n qa qn=n)=false:=dF hsp
   refine wp_region_E 5 rfl (by kernel_rfl) (by kernel_rfl) ?_
   refine WEi_at 0 ?_
   iterate 5
    refine WEi_q rfl (by decide) (by kernel_rfl) rfl ?_;apply Exists.intro;refine⟨fun w1 hx1=>?_,?_⟩
    ·have hq1:=hx1.cells;go_simp;try go_bits
     first|with_reducible rfl
    go_frame;try simp only[Nat.reduceAdd]
   refine WEi_out ?_
   refine WE_done (by kernel_rfl) (fun w5 hx5=>?_)
   (try simp only[List.drop_succ_cons,List.drop_zero])
   have HSP:=Hd hsp
   clear hsp
   go_wp2_with fail
   refine hWp (fun W=>Ext w5 W/\Blk W w5.heap.size (forkC (meetA pa n qa qn) (meetN pa n qa qn) zeroR false (.pointer none) (.pointer none)) 236) ⟨(eR _).alloc _,Blk.newAt (forkC (meetA pa n qa qn) (meetN pa n qa qn) zeroR false (.pointer none) (.pointer none)) rfl⟩ (fun W6 hW6=>?_)
   obtain⟨hx56,cJ⟩:=hW6
   have hx16:Ext W1 W6:=hx4.trans (hx5.trans hx56)
   have hjl:W1.heap.size<=w5.heap.size:=(hx4.trans hx5).size
   have hsj:sb<w5.heap.size:=(cS4.later hx5).lt
   have cS6:=cS4.later (hx5.trans hx56)
   generalize w5.heap.size=jb at*
   clear hx4 hx5 hx56 cS4
   have kS:=cS6.keep
   have kF:=(cF.later hx16).keep
   have kO:=(cO.later hx16).keep
   refine wp_region_E 13 rfl (by kernel_rfl) (by kernel_rfl) ?_
   refine WEi_at 0 ?_
   iterate 13
    refine WEi_q rfl (by decide) (by kernel_rfl) rfl ?_;apply Exists.intro;refine⟨fun w1 hx1=>?_,?_⟩
    ·have hq1:=hx1.cells;go_simp;try go_bits
     first|with_reducible rfl|(refine(bit_any _ _ _ HN.out).mono ?_;rintro e w' ⟨rfl,rfl⟩;exact⟨rfl,eR _⟩)
    go_frame;try simp only[Nat.reduceAdd]
   refine WEi_out ?_
   refine WE_done (by kernel_rfl) (fun w7 hx7=>?_)
   (try simp only[List.drop_succ_cons,List.drop_zero])
   have hx17:=hx16.trans hx7
   have cJ7:=cJ.later hx7
   have cS7:=cS6.later hx7
   have kJ:=cJ7.cells
   have kJf:=cJ7.frozen
   have cP7:=cP.later hx17
   have kPf':=cP7.frozen
   have cT7:=cT.later hx17
   have kTf':=cT7.frozen
   have hz1:=HZ.out
   have hp2:pb<jb:=by omega
   have ht2:=Nat.lt_of_lt_of_le ltb (show w.heap.size<=jb by omega)
   have kcg:w7.cell? ⟨pb,_,none⟩=some (.pointer (some ⟨fb,0,none⟩)):=(cP7.cells _).trans cg
   have kt1:=cT7.cells 1
   have HO:=Hd (show ob<W1.heap.size by omega)
   simp only[List.getElem?_cons_succ,List.getElem?_cons_zero]at kt1
   have hwj:=Hd (show w.heap.size<=jb by omega)
   clear cg hz1 kF kO kS kTf kPf
   have hgg:bitV pa (meetN pa n qa qn)=0/\bitV qa (meetN pa n qa qn)=1\/bitV pa (meetN pa n qa qn)=1/\bitV qa (meetN pa n qa qn)=0:=by
    have:=HBIT.out HSP.out
    rcases bit01 pa (meetN pa n qa qn)with e1|e1<;>rcases bit01 qa (meetN pa n qa qn)with e2|e2<;>omega
   clear g1 g2
   rcases hgg with⟨ga,gb⟩|⟨ga,gb⟩
   ·have GB:=Hd gb
    clear gb
    go_wp2_with fail
    refine hWp (fun W=>HangJ w W B _ _ _ fb ob sb jb 7 sz pa n r qa qn qr qi vl vk) (hang_join HP.out HMid.out hx17 cJ7 hjl cS7 (by have:=HZ.out;have:=cS7.lt;omega) hsj HO.out ap2 ap3 ?_) (fun W8 hW8=>?_)
    ·rw[show sz+2=sz+1+1 by omega]
    have HJ:=Hd hW8
    have kF:=hW8.cF.keep
    have kO:=hW8.cO.keep
    have kS:=hW8.cS.keep
    have kP8:=Ext.keep hW8.cP
    clear hW8
    refine wp_region_E 15 rfl (by kernel_rfl) (by kernel_rfl) ?_
    refine WEi_at 0 ?_
    iterate 15
     refine WEi_q rfl (by decide) (by kernel_rfl) rfl ?_;apply Exists.intro;refine⟨fun w1 hx1=>?_,?_⟩
     ·have hq1:=hx1.cells;go_simp;try go_bits
      first|with_reducible rfl|(refine(bit_any _ _ _ HN.out).mono ?_;rintro e w' ⟨rfl,rfl⟩;exact⟨by rw[GB.out],eR _⟩)
     go_frame;try simp only[Nat.reduceAdd]
    refine WEi_out ?_
    refine WE_done (by kernel_rfl) (fun w9 hx9=>?_)
    (try simp only[List.drop_succ_cons,List.drop_zero])
    have cJ9:=HJ.out.cJ.later hx9
    have kJ9:=cJ9.cells
    have kJ9f:=cJ9.frozen
    go_wp2
    go_end0
    exact⟨rfl,hang_doneB HP.out HJ.out hx9 hwj.out HSP.out (.inl ⟨rfl,rfl,GB.out⟩)⟩
   ·have GB:=Hd gb
    clear gb
    go_wp2_with fail
    refine hWp (fun W=>HangJ w W B _ _ _ fb ob sb jb 8 sz pa n r qa qn qr qi vl vk) (hang_join HP.out HMid.out hx17 cJ7 hjl cS7 (by have:=HZ.out;have:=cS7.lt;omega) hsj HO.out ap2 ap3 ?_) (fun W8 hW8=>?_)
    ·rw[show sz+2=sz+1+1 by omega]
    have HJ:=Hd hW8
    have kF:=hW8.cF.keep
    have kO:=hW8.cO.keep
    have kS:=hW8.cS.keep
    have kP8:=Ext.keep hW8.cP
    clear hW8
    refine wp_region_E 15 rfl (by kernel_rfl) (by kernel_rfl) ?_
    refine WEi_at 0 ?_
    iterate 15
     refine WEi_q rfl (by decide) (by kernel_rfl) rfl ?_;apply Exists.intro;refine⟨fun w1 hx1=>?_,?_⟩
     ·have hq1:=hx1.cells;go_simp;try go_bits
      first|with_reducible rfl|(refine(bit_any _ _ _ HN.out).mono ?_;rintro e w' ⟨rfl,rfl⟩;exact⟨by rw[GB.out],eR _⟩)
     go_frame;try simp only[Nat.reduceAdd]
    refine WEi_out ?_
    refine WE_done (by kernel_rfl) (fun w9 hx9=>?_)
    (try simp only[List.drop_succ_cons,List.drop_zero])
    have cJ9:=HJ.out.cJ.later hx9
    have kJ9:=cJ9.cells
    have kJ9f:=cJ9.frozen
    go_wp2
    go_end0
    exact⟨rfl,hang_doneB HP.out HJ.out hx9 hwj.out HSP.out (.inr ⟨rfl,rfl,GB.out⟩)⟩
def putT(pa:BitVec 32)(n:Int)(r:Rul):T->T
 | .nil=>hangT pa n r .nil
 | .node qa qn qr qi l k=>
   if meetA qa qn pa n=qa/\meetN qa qn pa n=qn then
    (if pa=qa/\n=qn then(if qi then .node qa qn qr qi l k else .node qa qn r true l k)
     else if bitV pa qn=0 then .node qa qn qr qi (putT pa n r l) k else .node qa qn qr qi l (putT pa n r k))
   else hangT pa n r (.node qa qn qr qi l k)
theorem hang_ok{pa:BitVec 32}{n:Int}(r:Rul)(hv:Valid pa n):∀{t:T},t.Ok->(hangT pa n r t).Ok
 | .nil,_=>⟨hv,trivial,trivial⟩
 | .node qa qn qr qi ql qk,h=>by
   have hm:=meet_valid hv h.1
   unfold hangT
   simp only
   split
   ·split
    ·exact⟨hv,h,trivial⟩
    ·exact⟨hv,trivial,h⟩
   ·split
    ·exact⟨hm,h,hv,trivial,trivial⟩
    ·exact⟨hm,⟨hv,trivial,trivial⟩,h⟩
theorem put_ok{pa:BitVec 32}{n:Int}(r:Rul)(hv:Valid pa n):∀{t:T},t.Ok->(putT pa n r t).Ok
 | .nil,h=>hang_ok r hv h
 | .node qa qn qr qi l k,h=>by
   unfold putT
   split
   ·split
    ·split
     ·exact h
     ·exact h
    ·split
     ·exact⟨h.1,put_ok r hv h.2.1,h.2.2⟩
     ·exact⟨h.1,h.2.1,put_ok r hv h.2.2⟩
   ·exact hang_ok r hv h
theorem set_same{w:World}{pb po:Nat}{pcs:List Value}{PT:TypeId}{v:Value}(h:Blk w pb pcs PT)(hv:pcs[po]?=some v)(q:Nat):(w.setCell ⟨pb,po,none⟩ v).heap[q]?=w.heap[q]?:=by
 rw[heap_set]
 split
 ·rename_i e
  simp only at e
  subst e
  unfold Blk at h
  rw[h]
  simp only[Option.map_some,Option.isSome_none,Bool.false_eq_true,if_false]
  congr 2
  apply Array.ext_getElem?
  intro k
  rw[Array.getElem?_setIfInBounds]
  split
  ·rename_i e;subst e
   obtain⟨h1,h2⟩:=List.getElem?_eq_some_iff.1 hv
   simp[h1,h2]
  ·rfl
 ·rfl
def Turned(w w':World)(pb po:Nat)(x:Value)(tb:Nat)(s:Int)(bs:List Nat):Prop:=
 ∀q,q<w.heap.size->q∉bs->w'.heap[q]?=((w.setCell ⟨pb,po,none⟩ x).setCell ⟨tb,1,none⟩ (I s)).heap[q]?
structure Hole(w:World)(B tb:Nat)(t:T)(pa:BitVec 32)(n:Int)(r:Rul)(pb po:Nat)(sub:T)(v2:Value)(bs2:List Nat):Prop where
 tree:TreeAt w sub v2 bs2
 ok:sub.Ok
 place:∃pcs PT,Blk w pb pcs PT/\pcs[po]?=some v2
 alias:pb=tb->po=0
 low:B<=pb
 apart:∀q∈bs2,q≠pb/\q≠tb
 nodup:bs2.Nodup
 lows:∀q∈bs2,B<=q
 back:∀(w':World) (v':Value) (bs':List Nat) (s:Int),w.heap.size<=w'.heap.size->Turned w w' pb po v' tb s bs2->TreeAt w' (putT pa n r sub) v' bs'->bs'.Nodup->(∀q∈bs',q∈bs2\/w.heap.size<=q)->
  ((putT pa n r sub).size:Int)-sub.size=s-t.size->∃root bsAll,TrieAt w' B tb (putT pa n r t) root bsAll
theorem Hole.top{w:World}{B tb:Nat}{t:T}{v:Value}{bs:List Nat}(pa:BitVec 32)(n:Int)(r:Rul)(hv:Valid pa n)(h:TrieAt w B tb t v bs):Hole w B tb t pa n r tb 0 t v bs where
 tree:=h.tree
 ok:=h.ok
 place:=⟨_,_,h.blk,rfl⟩
 alias:=fun _=>rfl
 low:=h.low tb (by simp)
 apart:=fun q hq=>by
  have:q≠tb:=fun e=>(List.nodup_cons.1 h.nodup).1 (e▸hq)
  exact⟨this,this⟩
 nodup:=(List.nodup_cons.1 h.nodup).2
 lows:=fun q hq=>h.low q (by simp[hq])
 back:=fun w' v' bs' s hs hT ht hn hf hz=>by
  have hlt:=h.blk.lt
  have htb:tb∉bs:=(List.nodup_cons.1 h.nodup).1
  have hb:Blk w' tb [v',I s] 229:=by
   have h1:=(h.blk.set 0 v').set 1 (I s)
   unfold Blk at*
   rw[hT tb hlt htb];exact h1
  refine⟨v',bs',⟨?_,ht,List.nodup_cons.2 ⟨fun hq=>?_,hn⟩,fun q hq=>?_,put_ok r hv h.ok⟩⟩
  ·rw[show((putT pa n r t).size:Int)=s by omega];exact hb
  ·rcases hf tb hq with h2|h2
   ·exact htb h2
   ·omega
  ·have hB:=h.low tb (by simp)
   rcases List.mem_cons.1 hq with rfl|hq
   ·exact hB
   ·rcases hf q hq with h2|h2
    ·exact h.low q (by simp[h2])
    ·omega
theorem turned_up{w w':World}{pb po b i tb:Nat}{pcs:List Value}{PT:TypeId}{v2 v':Value}{s:Int}{bs2 bs3:List Nat}(hp:Blk w pb pcs PT)(hv:pcs[po]?=some v2)(hb:b∈bs2)(hs:∀q∈bs3,q∈bs2)
 (h:Turned w w' b i v' tb s bs3):Turned w w' pb po v2 tb s bs2:=fun q hq hn=>by
 have hqb:b≠q:=fun e=>hn (e▸hb)
 rw[h q hq fun h3=>hn (hs q h3)]
 have e1:((w.setCell ⟨b,i,none⟩ v').setCell ⟨tb,1,none⟩ (I s)).heap[q]?=(w.setCell ⟨tb,1,none⟩ (I s)).heap[q]?:=by
  rw[heap_set (w.setCell ⟨b,i,none⟩ v'),heap_set w ⟨b,i,none⟩,heap_set w ⟨tb,1,none⟩]
  simp only[hqb,if_false]
 have e2:((w.setCell ⟨pb,po,none⟩ v2).setCell ⟨tb,1,none⟩ (I s)).heap[q]?=(w.setCell ⟨tb,1,none⟩ (I s)).heap[q]?:=by
  rw[heap_set (w.setCell ⟨pb,po,none⟩ v2),set_same hp hv,heap_set w ⟨tb,1,none⟩]
 rw[e1,e2]
theorem Hole.kid{w:World}{B tb:Nat}{t:T}{pa:BitVec 32}{n:Int}{r:Rul}{pb po:Nat}{qa:BitVec 32}{qn:Int}{qr:Rul}{qi:Bool}{l k:T}{b:Nat}{bs2:List Nat}
 (h:Hole w B tb t pa n r pb po (.node qa qn qr qi l k) (.pointer (some ⟨b,0,none⟩)) bs2)
 (hm:meetA qa qn pa n=qa/\meetN qa qn pa n=qn) (hne:¬(pa=qa/\n=qn)):
 ∃vl vk bl bk,Blk w b (forkC qa qn qr qi vl vk) 236/\
  (bitV pa qn=0->Hole w B tb t pa n r b 7 l vl bl)/\(bitV pa qn=1->Hole w B tb t pa n r b 8 k vk bk):=by
 obtain⟨b',bl,bk,vl,vk,hb',rfl,hblk,hl,hk⟩:=h.tree
 simp only[Value.pointer.injEq,Option.some.injEq,Addr.mk.injEq,and_true]at hb'
 subst hb'
 obtain⟨pcs,PT,hp,hg⟩:=h.place
 obtain⟨n1,n2⟩:=List.nodup_cons.1 h.nodup
 obtain⟨n3,n4,n5⟩:=List.nodup_append.1 n2
 have hbt:b≠tb:=(h.apart b (by simp)).2
 have nl:b∉bl:=fun hq=>n1 (by simp[hq])
 have nk:b∉bk:=fun hq=>n1 (by simp[hq])
 have lb:=hblk.lt
 refine⟨vl,vk,bl,bk,hblk,fun g=>?_,fun g=>?_⟩
 ·have hput:putT pa n r (.node qa qn qr qi l k)=.node qa qn qr qi (putT pa n r l) k:=by
   rw[putT,if_pos hm,if_neg hne,if_pos g]
  refine⟨hl,h.ok.2.1,⟨_,_,hblk,rfl⟩,fun e=>absurd e hbt,h.lows b (by simp),fun q hq=>⟨fun e=>nl (e▸hq),(h.apart q (by simp[hq])).2⟩,n3,fun q hq=>h.lows q (by simp[hq]),?_⟩
  intro w' v' bs' s hs hT ht hn hf hz
  refine h.back w' _ (b::(bs'++bk)) s hs (turned_up hp hg (by simp) (fun q hq=>by simp[hq]) hT) ?_ ?_ ?_ ?_
  ·rw[hput]
   refine⟨b,bs',bk,v',vk,rfl,rfl,?_,ht,hk.same fun q hq=>?_⟩
   ·have h1:=(hblk.set 7 v').other (p:=⟨tb,1,none⟩) (by exact fun e=>hbt e.symm) (I s)
    unfold Blk at h1 ⊢
    rw[hT b lb nl];exact h1
   ·have q1:q∉bl:=fun h2=>n5 q h2 q hq rfl
    have q2:tb≠q:=fun e=>(h.apart q (by simp[hq])).2 e.symm
    have q3:b≠q:=fun e=>nk (e▸hq)
    rw[hT q (hk.lt q hq) q1,heap_set,heap_set]
    simp only[q2,q3,if_false]
  ·refine List.nodup_cons.2 ⟨fun hq=>?_,List.nodup_append.2 ⟨hn,n4,fun x hx y hy e=>?_⟩⟩
   ·rcases List.mem_append.1 hq with h2|h2
    ·rcases hf b h2 with h3|h3
     ·exact nl h3
     ·omega
    ·exact nk h2
   ·subst e
    rcases hf x hx with h3|h3
    ·exact n5 x h3 x hy rfl
    ·have:=hk.lt x hy;omega
  ·intro q hq
   simp only[List.mem_cons,List.mem_append]at hq ⊢
   rcases hq with rfl|h2|h2
   ·exact .inl (.inl rfl)
   ·rcases hf q h2 with h3|h3
    ·exact .inl (.inr (.inl h3))
    ·exact .inr h3
   ·exact .inl (.inr (.inr h2))
  ·rw[hput];simp only[T.size];omega
 ·have hput:putT pa n r (.node qa qn qr qi l k)=.node qa qn qr qi l (putT pa n r k):=by
   rw[putT,if_pos hm,if_neg hne,if_neg (by omega)]
  refine⟨hk,h.ok.2.2,⟨_,_,hblk,rfl⟩,fun e=>absurd e hbt,h.lows b (by simp),fun q hq=>⟨fun e=>nk (e▸hq),(h.apart q (by simp[hq])).2⟩,n4,fun q hq=>h.lows q (by simp[hq]),?_⟩
  intro w' v' bs' s hs hT ht hn hf hz
  refine h.back w' _ (b::(bl++bs')) s hs (turned_up hp hg (by simp) (fun q hq=>by simp[hq]) hT) ?_ ?_ ?_ ?_
  ·rw[hput]
   refine⟨b,bl,bs',vl,v',rfl,rfl,?_,hl.same fun q hq=>?_,ht⟩
   ·have h1:=(hblk.set 8 v').other (p:=⟨tb,1,none⟩) (by exact fun e=>hbt e.symm) (I s)
    unfold Blk at h1 ⊢
    rw[hT b lb nk];exact h1
   ·have q1:q∉bk:=fun h2=>n5 q hq q h2 rfl
    have q2:tb≠q:=fun e=>(h.apart q (by simp[hq])).2 e.symm
    have q3:b≠q:=fun e=>nl (e▸hq)
    rw[hT q (hl.lt q hq) q1,heap_set,heap_set]
    simp only[q2,q3,if_false]
  ·refine List.nodup_cons.2 ⟨fun hq=>?_,List.nodup_append.2 ⟨n3,hn,fun x hx y hy e=>?_⟩⟩
   ·rcases List.mem_append.1 hq with h2|h2
    ·exact nl h2
    ·rcases hf b h2 with h3|h3
     ·exact nk h3
     ·omega
   ·subst e
    rcases hf x hy with h3|h3
    ·exact n5 x hx x h3 rfl
    ·have:=hl.lt x hx;omega
  ·intro q hq
   simp only[List.mem_cons,List.mem_append]at hq ⊢
   rcases hq with rfl|h2|h2
   ·exact .inl (.inl rfl)
   ·exact .inl (.inr (.inl h2))
   ·rcases hf q h2 with h3|h3
    ·exact .inl (.inr (.inr h3))
    ·exact .inr h3
  ·rw[hput];simp only[T.size];omega
def Stop(pa:BitVec 32)(n:Int):T->Prop
 | .nil=>True
 | .node qa qn _ _ _ _=>¬(meetA qa qn pa n=qa/\meetN qa qn pa n=qn)
theorem stop_put{pa:BitVec 32}{n:Int}{r:Rul}{t:T}(h:Stop pa n t):putT pa n r t=hangT pa n r t:=by
 cases t with
 |nil=>rfl
 |node=>exact if_neg h
end Go.Proofs.YtjflkifodfncmaaGreatDoor
