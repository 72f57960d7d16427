/- TrieF, TrieG, TrieL, TrieM, FitLaw, TrieN, TrieO: these texts in one. Conditions: each theorem names its own. -/
import Derived.Test.YtjflkifodfncmaaGreatDoorGTrie
namespace Go.Proofs.YtjflkifodfncmaaGreatDoor
set_option maxHeartbeats 4000000
open Go.RowKit
theorem turned_same{w w':World}{tb:Nat}{vt v2:Value}{s:Int}{pb po:Nat}{pcs:List Value}{PT:TypeId}{bs2:List Nat}(hT:Blk w tb [vt,I s] 229)(hp:Blk w pb pcs PT)(hv:pcs[po]?=some v2)
 (h:∀q,q<w.heap.size->q∉bs2->w'.heap[q]?=w.heap[q]?):Turned w w' pb po v2 tb s bs2:=fun q hq hn=>by
 have h1:=set_same hp hv
 have hT2:Blk (w.setCell ⟨pb,po,none⟩ v2) tb [vt,I s] 229:=by unfold Blk at hT ⊢;rw[h1];exact hT
 rw[h q hq hn,set_same hT2 rfl,h1]
theorem hang_stop(w:World)(B tb:Nat)(vt:Value)(sz:Int)(pb po:Nat)(pcs:List Value)(PT:TypeId)(fb:Nat)(pa:BitVec 32)(n:Int)(r:Rul)(old:T)(v:Value)(bs:List Nat)
 (h:HangPre w B tb vt sz pb po pcs PT fb pa n r old v bs) (hs:Stop pa n old):
 Calls Tryz.prog 202 #[.pointer (some ⟨tb,0,none⟩),.pointer (some ⟨pb,po,none⟩),.pointer (some ⟨fb,0,none⟩)] w fun e w'=>
  e=.returned (.tuple #[])/\∃v' bs',HangPost w w' B tb pb po fb sz pa n r old bs v' bs':=by
 cases old with
 |nil=>exact hang_nil w B tb vt sz pb po pcs PT fb pa n r v bs h
 |node qa qn qr qi ql qk=>exact hang_node w B tb vt sz pb po pcs PT fb pa n r v bs qa qn qr qi ql qk h fun e=>meet_bits h.valid h.ok.1 e hs
theorem hole_pre{w wc:World}{B tb:Nat}{t:T}{v0:Value}{bs:List Nat}{pa:BitVec 32}{n:Int}{r:Rul}{pb po:Nat}{sub:T}{v2:Value}{bs2:List Nat}(hT:TrieAt w B tb t v0 bs)(h:Hole w B tb t pa n r pb po sub v2 bs2)(hr:Valid pa n)(hs:t.size<=1000000000000000)
 (hx:Ext w wc):∃pcs PT,HangPre (wc.alloc (.cells (forkC pa n r true (.pointer none) (.pointer none)).toArray 236)) B tb v0 t.size pb po pcs PT wc.heap.size pa n r sub v2 bs2:=by
 obtain⟨pcs,PT,hp,hg⟩:=h.place
 have hl:=hx.size
 have l1:=hT.blk.lt
 have l2:=hp.lt
 have hB:=hT.low tb (by simp)
 refine⟨pcs,PT,(hT.blk.later hx).old _,(hp.later hx).old _,hg,h.alias,Blk.newAt _ rfl,(h.tree.later hx).later ((eR _).alloc _),?_,?_,fun q hq=>⟨?_,h.apart q hq⟩,h.nodup,hB,h.low,?_,?_,?_,hr,h.ok⟩
 ·omega
 ·omega
 ·have:=h.tree.lt q hq;omega
 ·omega
 ·omega
 ·omega
theorem and_out{α β:Type}{P:α->β->Prop}{Q:Prop}(hq:Q)(h:∃a b,P a b):∃a b,P a b/\Q:=let⟨a,b,h⟩:=h;⟨a,b,h,hq⟩
theorem put_set{w w':World}{B tb:Nat}{t:T}{v0:Value}{bs:List Nat}{pa:BitVec 32}{n:Int}{r:Rul}{pb po:Nat}{bs2:List Nat}{qa:BitVec 32}{qn:Int}{qr r2:Rul}{qi i2:Bool}{l k:T}{b:Nat}
 (hT:TrieAt w B tb t v0 bs) (h:Hole w B tb t pa n r pb po (.node qa qn qr qi l k) (.pointer (some ⟨b,0,none⟩)) bs2) (hput:putT pa n r (.node qa qn qr qi l k)=.node qa qn r2 i2 l k)
 (hz:w.heap.size<=w'.heap.size) (hx:∀q,q<w.heap.size->q≠b->w'.heap[q]?=w.heap[q]?) (hb:∀vl vk,Blk w b (forkC qa qn qr qi vl vk) 236->Blk w' b (forkC qa qn r2 i2 vl vk) 236):
 ∃root bsAll,TrieAt w' B tb (putT pa n r t) root bsAll:=by
 obtain⟨pcs,PT,hp,hg⟩:=h.place
 obtain⟨b',bl,bk,vl,vk,hb',rfl,hblk,hl,hk⟩:=h.tree
 simp only[Value.pointer.injEq,Option.some.injEq,Addr.mk.injEq,and_true]at hb'
 subst hb'
 obtain⟨n1,n2⟩:=List.nodup_cons.1 h.nodup
 have nl:b∉bl:=fun hq=>n1 (by simp[hq])
 have nk:b∉bk:=fun hq=>n1 (by simp[hq])
 refine h.back w' _ _ t.size hz (turned_same hT.blk hp hg fun q hq hn=>hx q hq fun e=>hn (by simp[e])) ?_ h.nodup (fun q hq=>.inl hq) (by rw[hput];simp only[T.size];omega)
 rw[hput]
 exact⟨b,bl,bk,vl,vk,rfl,rfl,hb _ _ hblk,hl.same fun q hq=>hx q (hl.lt q hq) fun e=>nl (e▸hq),hk.same fun q hq=>hx q (hk.lt q hq) fun e=>nk (e▸hq)⟩
theorem put_hung{w wc w':World}{B tb:Nat}{t:T}{v0:Value}{bs:List Nat}{pa:BitVec 32}{n:Int}{r:Rul}{pb po:Nat}{sub:T}{v2:Value}{bs2:List Nat}(hT:TrieAt w B tb t v0 bs)(h:Hole w B tb t pa n r pb po sub v2 bs2)(hst:Stop pa n sub)(hx:Ext w wc){o:Obj}{v':Value}{bs':List Nat}
 (hp:HangPost (wc.alloc o) w' B tb pb po wc.heap.size t.size pa n r sub bs2 v' bs'):(∃root bsAll,TrieAt w' B tb (putT pa n r t) root bsAll)/\Below B w w':=by
 have hsz:=hp.upd.size
 have hl:=hx.size
 have hal:(wc.alloc o).heap.size=wc.heap.size+1:=by simp
 have hB:=hT.low tb (by simp)
 have htb:=hT.blk.lt
 have e1:=stop_put (r:=r) hst
 refine⟨h.back w' v' bs' (t.size+hangK pa n sub) (by omega) (fun q hq hn=>?_) (by rw[e1];exact hp.tree) hp.nodup (fun q hq=>?_) (by rw[e1,hang_size];omega),?_⟩
 ·rw[hp.upd.blk q (by omega) (by omega),heap_set,heap_set,heap_set,heap_set]
  rw[Below.block ((eR wc).alloc o) q (by omega),Below.block hx q hq]
 ·rcases hp.from' q hq with h2|h2|h2
  ·exact .inl h2
  ·exact .inr (by omega)
  ·exact .inr (by omega)
 ·exact Below.trans (Below.mono (hx.alloc o) (by omega)) hp.below
theorem triePut_any(w:World)(B tb:Nat)(t:T)(v:Value)(bs:List Nat)(r:Rul)(h:TrieAt w B tb t v bs)(hr:Valid r.pa r.pl)(hs:t.size<=1000000000000000):
 Calls Tryz.prog 180 #[.pointer (some ⟨tb,0,none⟩),r.val] w fun e w'=>e=.returned (.tuple #[])/\∃v' bs',TrieAt w' B tb (putT r.pa r.pl r t) v' bs'/\Below B w w':=by
 have HT:=Hd h
 have hB:=h.low tb (by simp)
 have htb:=h.blk.lt
 have HV:=Hd hr
 have HI:=Hd hr.in64
 clear h hr
 go_enter Tryz.func180,Tryz.ntmps180
 go_upto_block 0 with(fail)
 refine hWp (fun W=>Ext w W/\Blk W w.heap.size r.cells 39/\Blk W (w.heap.size+1) [U r.pa,I r.pl] 233) ⟨?_,?_,?_⟩ (fun W0 hW0=>?_)
 ·(repeat with_reducible first|exact eR _|assumption|refine eA ?_ _|refine eD ?_|refine eW ?_ _|(refine eS ?_ ?_;focus(first|(simp;done)|(simp;omega)|omega)))
 ·(repeat(first|with_reducible assumption|(with_reducible refine Blk.newAt _ ?_;focus(first|with_reducible rfl|(simp;done)))|with_reducible refine Blk.old ?_ _|with_reducible refine Blk.drew ?_))
 ·(repeat(first|with_reducible assumption|(with_reducible refine Blk.newAt _ ?_;focus(first|with_reducible rfl|(simp;done)))|with_reducible refine Blk.old ?_ _|with_reducible refine Blk.drew ?_))
 obtain⟨hx0,cR,cS⟩:=hW0
 have hT0:=HT.out.later hx0
 have hH:=Hole.top r.pa r.pl r HV.out hT0
 have kR:=cR.keep
 have kS:=cS.keep
 have hz0:=hx0.size
 go_cut[5] (fun place wc=>∃pb po sub v2 bs2,place=.pointer (some ⟨pb,po,none⟩)/\Ext W0 wc/\Hole W0 B tb t r.pa r.pl r pb po sub v2 bs2/\Stop r.pa r.pl sub)
 case first=>
  go_wp2_with fail
  go_loopg [5] t.size (fun g place wr=>∃(pb po:Nat) (sub:T) (v2:Value) (bs2:List Nat),place=.pointer (some ⟨pb,po,none⟩)/\sub.size<=g/\Hid (Hole W0 B tb t r.pa r.pl r pb po sub v2 bs2)/\Ext W0 wr)
  case atStart=>exact⟨tb,0,t,v,bs,rfl,Nat.le_refl _,hH,eR _⟩
  case round=>
   obtain⟨pb,po,sub,v2,bs2,rfl,hg,HH,hx⟩:=hrel
   obtain⟨pcs,PT,hp,hgt⟩:=HH.out.place
   have kP:=Ext.keep (show wr.cell? ⟨pb,po,none⟩=some v2 by rw[(hp.later hx).cells,hgt])
   have HG:=Hd hg
   clear hgt hg hH kR kS
   cases sub with
   |nil=>
    obtain⟨rfl,rfl⟩:=HH.out.tree
    go_wp2_with fail
    go_meet
    exact⟨pb,po,.nil,_,_,rfl,hx,HH.out,trivial⟩
   |node qa qn qr qi l k=>
    have HT2:=Hd HH.out.tree
    have HQ:=Hd HH.out.ok.1.in64
    obtain⟨b,bl,bk,vl,vk,rfl,rfl,hb,hl,hk⟩:=HT2.out
    clear HT2 hl hk
    have hb1:=hb.later hx
    have cR1:=cR.later hx
    have cS1:=cS.later hx
    have kF:=hb1.keep
    have kR:=cR1.keep
    have kS:=cS1.keep
    go_wp2_with fail
    refine wp_region_E 7 rfl (by kernel_rfl) (by kernel_rfl) ?_
    refine WEi_at 0 ?_
    iterate 6
     refine WEi_q rfl (by decide) (by kernel_rfl) rfl ?_;apply Exists.intro;refine⟨fun w1 hx1=>?_,?_⟩
     ·have hq1:=hx1.cells;go_simp;try go_bits
      first|with_reducible rfl|(refine(spanMeet_any _ _ _ _ _ HQ.out HI.out).mono ?_;rintro e w' ⟨rfl,hx'⟩;exact⟨rfl,hx'⟩)
     go_frame;try simp only[Nat.reduceAdd]
    refine WEi_out ?_
    refine WE_do 6 rfl (by decide) (by kernel_rfl) rfl (fun wa hxa K hK=>?_)
    go_simp
    refine hK _ _ ((eR _).alloc _) ?_
    clear hK K
    refine WE_done (by kernel_rfl) (fun wb hxb=>?_)
    (try simp only[List.drop_succ_cons,List.drop_zero])
    have hsa:wr.heap.size<=wa.heap.size:=hxa.size
    have hx1b:Ext wr wb:=hxa.trans (((eR wa).alloc _).trans hxb)
    have cM:Blk wb wa.heap.size [.int .u32 0,.int .i64 0] 233:=Blk.later (by(repeat(first|with_reducible assumption|(with_reducible refine Blk.newAt _ ?_;focus(first|with_reducible rfl|(simp;done)))|with_reducible refine Blk.old ?_ _|with_reducible refine Blk.drew ?_))) hxb
    have kM:=cM.cells
    have kMf:=cM.frozen
    clear hxa hxb
    go_wp2_with fail
    refine hWp (fun W=>Ext wr W/\Blk W wa.heap.size [U (meetA qa qn r.pa r.pl),I (meetN qa qn r.pa r.pl)] 233) ⟨?_,(cM.set 0 _).set 1 _⟩ (fun W4 hW4=>?_)
    ·exact Ext.setCellP hsa (Ext.setCellP hsa hx1b)
    obtain⟨hx4,cM4⟩:=hW4
    clear cM kM kMf hx1b
    generalize wa.heap.size=sb at*
    clear wa wb
    have kM:=cM4.keep
    have kF:=(hb1.later hx4).keep
    have kR:=(cR1.later hx4).keep
    have kS:=(cS1.later hx4).keep
    by_cases hsp:meetA qa qn r.pa r.pl=qa/\meetN qa qn r.pa r.pl=qn
    ·have hspd:decide (meetA qa qn r.pa r.pl=qa/\meetN qa qn r.pa r.pl=qn)=true:=dT hsp
     refine wp_region_E 5 rfl (by kernel_rfl) (by kernel_rfl) ?_
     refine WEi_at 0 ?_
     iterate 5
      refine WEi_q rfl (by decide) (by kernel_rfl) rfl ?_;apply Exists.intro;refine⟨fun w1 hx1=>?_,?_⟩
      ·have hq1:=hx1.cells;go_simp;try go_bits
       first|with_reducible rfl
      go_frame;try simp only[Nat.reduceAdd]
     refine WEi_out ?_
     refine WE_done (by kernel_rfl) (fun w5 hx5=>?_)
     (try simp only[List.drop_succ_cons,List.drop_zero])
     have HSP:=Hd hsp
     clear hsp
     go_wp2_with fail
     have hx15:=hx4.trans hx5
     have kF:=(hb1.later hx15).keep
     have kS:=(cS1.later hx15).keep
     by_cases hne:r.pa=qa/\r.pl=qn
     ·have hned:decide (r.pa=qa/\r.pl=qn)=true:=dT hne
      refine wp_region_E 5 rfl (by kernel_rfl) (by kernel_rfl) ?_
      refine WEi_at 0 ?_
      iterate 5
       refine WEi_q rfl (by decide) (by kernel_rfl) rfl ?_;apply Exists.intro;refine⟨fun w1 hx1=>?_,?_⟩
       ·have hq1:=hx1.cells;go_simp;try go_bits
        first|with_reducible rfl
       go_frame;try simp only[Nat.reduceAdd]
      refine WEi_out ?_
      refine WE_done (by kernel_rfl) (fun w6 hx6=>?_)
      (try simp only[List.drop_succ_cons,List.drop_zero])
      have HNE:=Hd hne
      clear hne
      have hx16:=hx.trans (hx15.trans hx6)
      have hb6:=hb.later hx16
      have kF:=hb6.cells
      have kFf:=hb6.frozen
      have kR:=(cR.later hx16).cells
      cases qi with
      |true=>
       go_wp2
       refine bodyPost_ret (v:=.tuple #[]) (results_none Tryz.results180 _ _ _) rfl ⟨rfl,?_⟩
       obtain⟨root,all,hF⟩:=put_set (w':=w6) hT0 HH.out (r2:=qr) (i2:=true) (by rw[putT,if_pos HSP.out,if_pos HNE.out];rfl) hx16.size (fun q hq _=>Below.block hx16 q hq) (fun vl vk h=>h.later hx16)
       exact⟨root,all,hF,Below.mono (hx0.trans hx16) (by omega)⟩
      |false=>
       go_wp2
       refine bodyPost_ret (v:=.tuple #[]) (results_none Tryz.results180 _ _ _) rfl ⟨rfl,?_⟩
       have hbB:=HH.out.lows b (by simp)
       refine and_out ?_ (put_set hT0 HH.out (r2:=r) (i2:=true) (by rw[putT,if_pos HSP.out,if_pos HNE.out];rfl) ?_ ?_ ?_)
       ·exact(((((Below.mono (hx0.trans hx16) (by omega)).setCell hbB _).setCell hbB _).setCell hbB _).setCell hbB _).setCell hbB _
       ·simp[World.setCell];exact hx16.size
       ·intro q hq hne
        rw[Below.heap_setCell _ _ _ _ hne,Below.heap_setCell _ _ _ _ hne,Below.heap_setCell _ _ _ _ hne,Below.heap_setCell _ _ _ _ hne,Below.heap_setCell _ _ _ _ hne]
        exact Below.block hx16 q hq
       ·intro vl vk h
        exact(((((h.later hx16).set 2 _).set 3 _).set 4 _).set 5 _).set 6 _
     ·have hned:decide (r.pa=qa/\r.pl=qn)=false:=dF hne
      refine wp_region_E 5 rfl (by kernel_rfl) (by kernel_rfl) ?_
      refine WEi_at 0 ?_
      iterate 5
       refine WEi_q rfl (by decide) (by kernel_rfl) rfl ?_;apply Exists.intro;refine⟨fun w1 hx1=>?_,?_⟩
       ·have hq1:=hx1.cells;go_simp;try go_bits
        first|with_reducible rfl
       go_frame;try simp only[Nat.reduceAdd]
      refine WEi_out ?_
      refine WE_done (by kernel_rfl) (fun w6 hx6=>?_)
      (try simp only[List.drop_succ_cons,List.drop_zero])
      have HNE:=Hd hne
      clear hne
      go_wp2_with fail
      have hx16:=hx.trans (hx15.trans hx6)
      have kF:=(hb.later hx16).keep
      have kS:=(cS.later hx16).keep
      have hs1:1+l.size+k.size<=gk:=HG.out
      obtain⟨vl2,vk2,bl2,bk2,hb2,hk1,hk2⟩:=HH.out.kid HSP.out HNE.out
      have HK1:=Hd hk1
      have HK2:=Hd hk2
      clear hk1 hk2
      rcases bit01 r.pa qn with g|g
      ·have GG:=Hd g
       clear g
       refine wp_region_E 12 rfl (by kernel_rfl) (by kernel_rfl) ?_
       refine WEi_at 0 ?_
       iterate 12
        refine WEi_q rfl (by decide) (by kernel_rfl) rfl ?_;apply Exists.intro;refine⟨fun w1 hx1=>?_,?_⟩
        ·have hq1:=hx1.cells;go_simp;try go_bits
         first|with_reducible rfl|(refine(bit_any _ _ _ HQ.out).mono ?_;rintro e w' ⟨rfl,rfl⟩;exact⟨by rw[GG.out],eR _⟩)
        go_frame;try simp only[Nat.reduceAdd]
       refine WEi_out ?_
       refine WE_done (by kernel_rfl) (fun w7 hx7=>?_)
       (try simp only[List.drop_succ_cons,List.drop_zero])
       go_wp2_with fail
       go_roundg l.size
       case measure=>omega
       case rel=>exact⟨b,7,l,_,_,rfl,Nat.le_refl _,HK1.out GG.out,hx16.trans hx7⟩
      ·have GG:=Hd g
       clear g
       refine wp_region_E 12 rfl (by kernel_rfl) (by kernel_rfl) ?_
       refine WEi_at 0 ?_
       iterate 12
        refine WEi_q rfl (by decide) (by kernel_rfl) rfl ?_;apply Exists.intro;refine⟨fun w1 hx1=>?_,?_⟩
        ·have hq1:=hx1.cells;go_simp;try go_bits
         first|with_reducible rfl|(refine(bit_any _ _ _ HQ.out).mono ?_;rintro e w' ⟨rfl,rfl⟩;exact⟨by rw[GG.out],eR _⟩)
        go_frame;try simp only[Nat.reduceAdd]
       refine WEi_out ?_
       refine WE_done (by kernel_rfl) (fun w7 hx7=>?_)
       (try simp only[List.drop_succ_cons,List.drop_zero])
       go_wp2_with fail
       go_roundg k.size
       case measure=>omega
       case rel=>exact⟨b,8,k,_,_,rfl,Nat.le_refl _,HK2.out GG.out,hx16.trans hx7⟩
    ·have hspd:decide (meetA qa qn r.pa r.pl=qa/\meetN qa qn r.pa r.pl=qn)=false:=dF hsp
     refine wp_region_E 5 rfl (by kernel_rfl) (by kernel_rfl) ?_
     refine WEi_at 0 ?_
     iterate 5
      refine WEi_q rfl (by decide) (by kernel_rfl) rfl ?_;apply Exists.intro;refine⟨fun w1 hx1=>?_,?_⟩
      ·have hq1:=hx1.cells;go_simp;try go_bits
       first|with_reducible rfl
      go_frame;try simp only[Nat.reduceAdd]
     refine WEi_out ?_
     refine WE_done (by kernel_rfl) (fun w5 hx5=>?_)
     (try simp only[List.drop_succ_cons,List.drop_zero])
     have HSP:=Hd hsp
     clear hsp
     go_wp2_with fail
     go_meet
     exact⟨pb,po,_,_,_,rfl,hx.trans (hx4.trans hx5),HH.out,HSP.out⟩
 case rest=>
  obtain⟨pb,po,sub,v2,bs2,rfl,hx,hHH,hstop⟩:=hcut
  have HH:=Hd hHH
  have HSTOP:=Hd hstop
  have kR:=(cR.later hx).cells
  have kS:=(cS.later hx).cells
  clear hHH hstop
  obtain⟨pcs,PT,hpre⟩:=hole_pre hT0 HH.out HV.out hs hx
  have HPRE:=Hd hpre
  clear hpre
  go_wp2_with (first
   |(go_at_call 202;refine(hang_stop _ B tb v t.size pb po pcs PT _ r.pa r.pl r sub v2 bs2 HPRE.out HSTOP.out).mono ?_;rintro e w1 ⟨rfl,v3,bs3,hpost⟩;have HPOST:=Hd hpost;clear hpost))
  go_end0
  obtain⟨⟨root,all,hF⟩,hbl⟩:=put_hung hT0 HH.out HSTOP.out hx HPOST.out
  exact⟨rfl,root,all,hF,Below.trans (Below.mono hx0 (by omega)) hbl⟩
def putOk(t:T)(r:Rul):T:=if mayV r.pa r.pl=0 then putT r.pa r.pl r t else t
def buildT(l:List Rul):T:=l.foldl putOk .nil
theorem buildT_step(l:List Rul)(k:Nat)(h:k<l.length):buildT (l.take (k+1))=putOk (buildT (l.take k)) l[k]:=by
 unfold buildT
 rw[List.take_succ_eq_append_getElem h,List.foldl_append];rfl
theorem put_size(pa:BitVec 32)(n:Int)(r:Rul):∀t:T,(putT pa n r t).size<=t.size+2
 | .nil=>by unfold putT;simp[hangT,T.size]
 | .node qa qn qr qi l k=>by
   have h1:=put_size pa n r l
   have h2:=put_size pa n r k
   have h3:=hang_size pa n r (.node qa qn qr qi l k)
   have h4:hangK pa n (.node qa qn qr qi l k)<=2:=by unfold hangK;split<;>omega
   unfold putT
   split
   ·split
    ·split<;>simp only[T.size]<;>omega
    ·split<;>simp only[T.size]<;>omega
   ·omega
theorem build_size(l:List Rul)(t:T):(l.foldl putOk t).size<=t.size+2*l.length:=by
 induction l generalizing t with
 |nil=>simp
 |cons r l ih=>
  have h1:=ih (putOk t r)
  have h2:(putOk t r).size<=t.size+2:=by unfold putOk;split;exact put_size _ _ _ _;omega
  simp only[List.foldl_cons,List.length_cons]
  omega
theorem mayV_valid{a:BitVec 32}{n:Int}(h:mayV a n=0):Valid a n:=by
 unfold mayV at h
 split at h
 ·cases h
 ·split at h
  ·rename_i h1 h2
   refine⟨by omega,by omega,?_⟩
   apply BitVec.eq_of_getLsbD_eq
   intro i hi
   have:=congrArg (fun x:BitVec 32=>x.getLsbD i) h2
   simp only[BitVec.getLsbD_and,BitVec.getLsbD_not,BitVec.getLsbD_zero]at this ⊢
   cases e:a.getLsbD i<;>cases e2:(maskV n).getLsbD i<;>simp_all
  ·cases h
theorem trieBuild_any(lv:Value)(l:List Rul)(w:World)(hl:RulesAt w lv l)(hok:RulesOk l)(hs:l.length<=1000000):
 Calls Tryz.prog 136 #[lv] w fun e w'=>∃tb v bs,e=.returned (.pointer (some ⟨tb,0,none⟩))/\TrieAt w' w.heap.size tb (buildT l) v bs/\Ext w w':=by
 obtain⟨ad,cap,rfl,a1,a2,a3⟩:=hl.form
 have A3:=Hd a3
 clear a3
 unfold maxLen at a2
 go_enter Tryz.func136,Tryz.ntmps136
 go_wp2_with fail
 go_loopw[10] (fun i wr=>∃(k:Nat) (v:Value) (bs:List Nat),k<=l.length/\i=I k/\Hid (TrieAt wr w.heap.size w.heap.size (buildT (l.take k)) v bs)/\Ext w wr) (fun i _=>l.length-(intOf i).toNat)
 case atStart=>
  refine⟨0,.pointer none,[],by omega,rfl,⟨Blk.newAt [Value.pointer none,I 0] rfl,⟨rfl,rfl⟩,by simp,fun q hq=>?_,trivial⟩,by(repeat with_reducible first|exact eR _|assumption|refine eA ?_ _|refine eD ?_|refine eW ?_ _|(refine eS ?_ ?_;focus(first|(simp;done)|(simp;omega)|omega)))⟩
  simp at hq;omega
 case round=>
  obtain⟨k,v,bs,hk,rfl,HT,hx⟩:=hrel
  by_cases hlt:k<l.length
  ·obtain⟨b0,o0,rfl,p0,p1,p2,p3⟩:=A3.out k l[k] (gE hlt)
   replace p0:=hx.cell p0
   replace p1:=hx.cell p1
   replace p2:=hx.cell p2
   replace p3:=hx.cell p3
   have hok1:=Hd (hok l[k] (List.getElem_mem hlt))
   have hst:=Hd (buildT_step l k hlt)
   have hsz:=hx.size
   have HZ:=Hd (show(buildT (l.take k)).size<=1000000000000000 by
    have:=build_size (l.take k) .nil
    simp only[T.size,List.length_take]at this
    show(List.foldl putOk .nil (l.take k)).size<=_
    omega)
   by_cases hm:mayV l[k].pa l[k].pl=0
   ·have hmd:(mayV l[k].pa l[k].pl==0)=true:=by simpa using hm
    have HM:=Hd hm
    clear hm
    go_wp2_with (first
     |(go_at_call 170;refine(may_any _ _ _ hok1.out.pl).mono ?_;rintro e w' ⟨rfl,rfl⟩)
     |(go_at_call 180;refine(triePut_any _ w.heap.size w.heap.size (buildT (l.take k)) v bs l[k] (HT.out.later (w':=wr.alloc _) (by(repeat with_reducible first|exact eR _|assumption|refine eA ?_ _|refine eD ?_|refine eW ?_ _|(refine eS ?_ ?_;focus(first|(simp;done)|(simp;omega)|omega))))) (mayV_valid HM.out) HZ.out).mono ?_;rintro e w2 ⟨rfl,v2,bs2,ht2,hb2⟩;have HT2:=Hd ht2;have HB2:=Hd hb2;clear ht2 hb2))
    go_roundw
    case rel=>
     refine⟨k+1,v2,bs2,by omega,by go_num,?_,Below.trans (hx.alloc _) HB2.out⟩
     show TrieAt _ _ _ _ _ _
     rw[hst.out,putOk,if_pos HM.out]
     exact HT2.out
    case measure=>simp[intOf];omega
   ·have hmd:(mayV l[k].pa l[k].pl==0)=false:=by simpa using hm
    have HM:=Hd hm
    clear hm
    go_wp2_with (first
     |(go_at_call 170;refine(may_any _ _ _ hok1.out.pl).mono ?_;rintro e w' ⟨rfl,rfl⟩))
    go_roundw
    case rel=>
     refine⟨k+1,v,bs,by omega,by go_num,?_,hx.trans (by(repeat with_reducible first|exact eR _|assumption|refine eA ?_ _|refine eD ?_|refine eW ?_ _|(refine eS ?_ ?_;focus(first|(simp;done)|(simp;omega)|omega))))⟩
     show TrieAt _ _ _ _ _ _
     rw[hst.out,putOk,if_neg HM.out]
     exact HT.out.later (by(repeat with_reducible first|exact eR _|assumption|refine eA ?_ _|refine eD ?_|refine eW ?_ _|(refine eS ?_ ?_;focus(first|(simp;done)|(simp;omega)|omega))))
    case measure=>simp[intOf];omega
  ·have hn:=Hd (show buildT (l.take k)=buildT l by rw[List.take_of_length_le (by omega)])
   go_wp2
   go_ret
   exact⟨_,v,bs,rfl,by rw[<-hn.out];exact HT.out,hx⟩
structure Kid(pa:BitVec 32)(n:Int)(b:Int)(qa:BitVec 32)(qn:Int):Prop where
 lt:n<qn
 bits:∀i:Nat,(i:Int)<n->qa.getMsbD i=pa.getMsbD i
 bit:bitV qa n=b
def T.All(P:BitVec 32->Int->Prop):T->Prop
 | .nil=>True
 | .node pa n _ _ l k=>P pa n/\l.All P/\k.All P
theorem T.All.mono{P Q:BitVec 32->Int->Prop}(hpq:∀x n,P x n->Q x n):∀{t:T},t.All P->t.All Q
 | .nil,_=>trivial
 | .node ..,h=>⟨hpq _ _ h.1,h.2.1.mono hpq,h.2.2.mono hpq⟩
theorem T.All.and{P Q:BitVec 32->Int->Prop}:∀{t:T},t.All P->t.All Q->t.All (fun x n=>P x n/\Q x n)
 | .nil,_,_=>trivial
 | .node ..,h,g=>⟨⟨h.1,g.1⟩,h.2.1.and g.2.1,h.2.2.and g.2.2⟩
def T.Wf:T->Prop
 | .nil=>True
 | .node pa n r is l k=>Valid pa n/\(is=true->r.pa=pa/\r.pl=n)/\(is=false->l≠ .nil/\k≠ .nil/\r=zeroR)/\l.All (Kid pa n 0)/\k.All (Kid pa n 1)/\l.Wf/\k.Wf
theorem T.Wf.ok:∀{t:T},t.Wf->t.Ok
 | .nil,_=>trivial
 | .node ..,h=>⟨h.1,h.2.2.2.2.2.1.ok,h.2.2.2.2.2.2.ok⟩
theorem ok_all:∀{t:T},t.Ok->t.All Valid
 | .nil,_=>trivial
 | .node ..,h=>⟨h.1,ok_all h.2.1,ok_all h.2.2⟩
theorem bit_eq{a b:BitVec 32}{i:Int}(h0:0<=i)(h1:i<=31):bitV a i=bitV b i↔a.getMsbD i.toNat=b.getMsbD i.toNat:=by
 rw[bit_msb _ _ h0 h1,bit_msb _ _ h0 h1]
 cases a.getMsbD i.toNat<;>cases b.getMsbD i.toNat<;>simp
theorem meet_msb{x:BitVec 32}{xn:Int}{y:BitVec 32}{yn:Int}{i:Nat}(h:(i:Int)<meetN x xn y yn)(h1:meetN x xn y yn<=32):(meetA x xn y yn).getMsbD i=x.getMsbD i:=by
 unfold meetA
 rw[BitVec.getMsbD_and,mask_msb]
 have:=clamp_id (n:=meetN x xn y yn) (by omega) h1
 rw[dT (by omega),Bool.and_true]
theorem kid_meet{pa:BitVec 32}{n b:Int}{x y:BitVec 32}{xn yn:Int}(h0:0<=n)(hx:Kid pa n b x xn)(hy:Kid pa n b y yn)(vx:xn<=32):Kid pa n b (meetA x xn y yn) (meetN x xn y yn):=by
 have hc:=common_bd x y
 have hm:=common_msb x y
 have h1:n<commonV x y:=by
  rcases Int.lt_or_le n (commonV x y)with h|h
  ·exact h
  ·exfalso
   have hl:=hx.lt
   refine hm.2 (by omega) ?_
   rcases Int.lt_or_eq_of_le h with h2|h2
   ·rw[hx.bits _ (by omega),hy.bits _ (by omega)]
   ·rw[h2];exact(bit_eq h0 (by omega)).1 (hx.bit.trans hy.bit.symm)
 have hl:=hx.lt
 have hl2:=hy.lt
 have e:=meetN_min x xn y yn
 refine⟨by omega,fun i hi=>?_,?_⟩
 ·rw[meet_msb (by omega) (by omega)];exact hx.bits i hi
 ·rw[<-hx.bit,bit_eq h0 (by omega),meet_msb (by omega) (by omega)]
theorem kid_trans{pa:BitVec 32}{n b:Int}{qa:BitVec 32}{qn c:Int}{x:BitVec 32}{xn:Int}(h0:0<=n)(hq:qn<=32)(h:Kid pa n b qa qn)(g:Kid qa qn c x xn):Kid pa n b x xn:=by
 have hl:=h.lt
 have gl:=g.lt
 refine⟨by omega,fun i hi=>?_,?_⟩
 ·rw[g.bits i (by omega),h.bits i hi]
 ·rw[<-h.bit,bit_eq h0 (by omega),g.bits _ (by omega)]
theorem kid_of{qa:BitVec 32}{qn:Int}{pa:BitVec 32}{n:Int}(hq:Valid qa qn)(hp:Valid pa n)(hm:meetN qa qn pa n=qn)(hne:¬(pa=qa/\n=qn)):Kid qa qn (bitV pa qn) pa n:=by
 have hc:=common_bd qa pa
 have hb:=common_msb qa pa
 obtain⟨q0,q1,q2⟩:=hq
 obtain⟨p0,p1,p2⟩:=hp
 have e:=meetN_min qa qn pa n
 have hbits:∀i:Nat,(i:Int)<qn->pa.getMsbD i=qa.getMsbD i:=fun i hi=>(hb.1 i (by omega)).symm
 refine⟨?_,hbits,rfl⟩
 rcases Int.lt_or_eq_of_le (show qn<=n by omega)with h|h
 ·exact h
 ·exfalso
  refine hne ⟨?_,h.symm⟩
  have c:=clamp_id q0 q1
  rw[valid_iff]at q2
  rw[<-h,valid_iff]at p2
  refine msb_ext fun i hi=>?_
  rcases Nat.lt_or_ge i (clamp qn)with h3|h3
  ·exact hbits i (by omega)
  ·rw[p2 i h3,q2 i h3]
theorem kid_join{pa:BitVec 32}{n:Int}{qa:BitVec 32}{qn:Int}(hp:Valid pa n)(hm:meetN pa n qa qn≠n):Kid (meetA pa n qa qn) (meetN pa n qa qn) (bitV pa (meetN pa n qa qn)) pa n:=by
 have e:=meetN_min pa n qa qn
 obtain⟨p0,p1,p2⟩:=hp
 refine⟨by omega,fun i hi=>(meet_msb hi (by omega)).symm,rfl⟩
theorem meet_eq{pa:BitVec 32}{n:Int}{qa:BitVec 32}{qn:Int}(hp:Valid pa n):(meetA pa n qa qn=pa/\meetN pa n qa qn=n)↔meetN pa n qa qn=n:=
 ⟨fun h=>h.2,fun h=>⟨by unfold meetA;rw[h,hp.2.2],h⟩⟩
theorem hang_all{P:BitVec 32->Int->Prop}{pa:BitVec 32}{n:Int}{r:Rul}:∀{t:T},t.All P->P pa n->(∀x xn,P x xn->P (meetA pa n x xn) (meetN pa n x xn))->(hangT pa n r t).All P
 | .nil,_,hp,_=>⟨hp,trivial,trivial⟩
 | .node qa qn qr qi l k,h,hp,hm=>by
   unfold hangT
   simp only
   split
   ·split
    ·exact⟨hp,h,trivial⟩
    ·exact⟨hp,trivial,h⟩
   ·split
    ·exact⟨hm _ _ h.1,h,hp,trivial,trivial⟩
    ·exact⟨hm _ _ h.1,⟨hp,trivial,trivial⟩,h⟩
theorem put_all{P:BitVec 32->Int->Prop}{pa:BitVec 32}{n:Int}{r:Rul}(hp:P pa n)(hm:∀x xn,P x xn->P (meetA pa n x xn) (meetN pa n x xn)):∀{t:T},t.All P->(putT pa n r t).All P
 | .nil,h=>hang_all h hp hm
 | .node qa qn qr qi l k,h=>by
   unfold putT
   split
   ·split
    ·split
     ·exact h
     ·exact h
    ·split
     ·exact⟨h.1,put_all hp hm h.2.1,h.2.2⟩
     ·exact⟨h.1,h.2.1,put_all hp hm h.2.2⟩
   ·exact hang_all h hp hm
theorem put_ne(pa:BitVec 32)(n:Int)(r:Rul)(t:T):putT pa n r t≠ .nil:=by
 cases t with
 |nil=>unfold putT hangT;simp
 |node qa qn qr qi l k=>
  unfold putT
  split
  ·split
   ·split<;>simp
   ·split<;>simp
  ·unfold hangT
   simp only
   split<;>split<;>simp
theorem wf_hang{pa:BitVec 32}{n:Int}{r:Rul}(hp:Valid pa n)(hr:r.pa=pa/\r.pl=n):∀{t:T},t.Wf->Stop pa n t->(hangT pa n r t).Wf
 | .nil,_,_=>⟨hp,fun _=>hr,fun h=>(by cases h),trivial,trivial,trivial,trivial⟩
 | .node qa qn qr qi l k,h,hs=>by
   have hq:=h.1
   have hall:∀{ma:BitVec 32} {mn b:Int},0<=mn->Kid ma mn b qa qn->(T.node qa qn qr qi l k).All (Kid ma mn b):=fun h0 hk=>
    ⟨hk,h.2.2.2.1.mono fun x xn hx=>kid_trans h0 hq.2.1 hk hx,h.2.2.2.2.1.mono fun x xn hx=>kid_trans h0 hq.2.1 hk hx⟩
   have hst:meetN qa qn pa n≠qn:=fun e=>hs ((meet_eq hq).2 e)
   unfold hangT
   simp only
   split
   ·rename_i e
    have hk:=kid_of hp hq e.2 fun e2=>hst (by rw[meetN_min,e2.1,e2.2];have:=common_bd pa pa;have e3:=meetN_min pa n qa qn;rw[e.2,e2.1,e2.2]at e3;omega)
    split
    ·rename_i g
     rw[e.2]at g
     rw[g]at hk
     exact⟨hp,fun _=>hr,fun h=>(by cases h),hall hp.1 hk,trivial,h,trivial⟩
    ·rename_i g
     rw[e.2]at g
     rw[show bitV qa n=1 by rcases bit01 qa n with h|h<;>omega]at hk
     exact⟨hp,fun _=>hr,fun h=>(by cases h),trivial,hall hp.1 hk,trivial,h⟩
   ·rename_i e
    have hm:=meet_valid hp hq
    have kp:=kid_join (qa:=qa) (qn:=qn) hp fun e2=>e ((meet_eq hp).2 e2)
    have kq:=kid_join (qa:=pa) (qn:=n) hq hst
    rw[meetA_comm qa qn pa n,meetN_comm qa qn pa n]at kq
    have hb:=meet_bits hp hq e hs
    have hpw:(T.node pa n r true .nil .nil).Wf:=⟨hp,fun _=>hr,fun h=>(by cases h),trivial,trivial,trivial,trivial⟩
    split
    ·rename_i g
     rw[g]at kq
     rw[show bitV pa (meetN pa n qa qn)=1 by rcases bit01 pa (meetN pa n qa qn)with h|h<;>omega]at kp
     exact⟨hm,fun h=>(by cases h),fun _=>⟨by simp,by simp,rfl⟩,hall hm.1 kq,⟨kp,trivial,trivial⟩,h,hpw⟩
    ·rename_i g
     have e1:bitV qa (meetN pa n qa qn)=1:=by rcases bit01 qa (meetN pa n qa qn)with h|h<;>omega
     rw[e1]at kq
     rw[show bitV pa (meetN pa n qa qn)=0 by rcases bit01 pa (meetN pa n qa qn)with h|h<;>omega]at kp
     exact⟨hm,fun h=>(by cases h),fun _=>⟨by simp,by simp,rfl⟩,⟨kp,trivial,trivial⟩,hall hm.1 kq,hpw,h⟩
theorem wf_put{pa:BitVec 32}{n:Int}{r:Rul}(hp:Valid pa n)(hr:r.pa=pa/\r.pl=n):∀{t:T},t.Wf->(putT pa n r t).Wf
 | .nil,h=>wf_hang hp hr h trivial
 | .node qa qn qr qi l k,h=>by
   unfold putT
   split
   ·rename_i e
    split
    ·rename_i e2
     split
     ·exact h
     ·exact⟨h.1,fun _=>by rw[<-e2.1,<-e2.2];exact hr,fun h=>(by cases h),h.2.2.2.1,h.2.2.2.2.1,h.2.2.2.2.2.1,h.2.2.2.2.2.2⟩
    ·rename_i e2
     have hk:=kid_of h.1 hp e.2 e2
     split
     ·rename_i g
      rw[g]at hk
      exact⟨h.1,h.2.1,fun g2=>⟨put_ne _ _ _ _,(h.2.2.1 g2).2⟩,put_all hk (fun x xn hx=>kid_meet h.1.1 hk hx hp.2.1) h.2.2.2.1,h.2.2.2.2.1,wf_put hp hr h.2.2.2.2.2.1,h.2.2.2.2.2.2⟩
     ·rename_i g
      rw[show bitV pa qn=1 by rcases bit01 pa qn with h|h<;>omega]at hk
      exact⟨h.1,h.2.1,fun g2=>⟨(h.2.2.1 g2).1,put_ne _ _ _ _,(h.2.2.1 g2).2.2⟩,h.2.2.2.1,put_all hk (fun x xn hx=>kid_meet h.1.1 hk hx hp.2.1) h.2.2.2.2.1,h.2.2.2.2.2.1,wf_put hp hr h.2.2.2.2.2.2⟩
   ·rename_i e
    exact wf_hang hp hr h e
def T.forks:T->List (BitVec 32 × Int)
 | .nil=>[]
 | .node pa n _ _ l k=>(pa,n)::(l.forks++k.forks)
def T.rules:T->List Rul
 | .nil=>[]
 | .node _ _ r is l k=>(if is then [r]else [])++(l.rules++k.rules)
theorem wf_putOk{t:T}(r:Rul)(h:t.Wf):(putOk t r).Wf:=by
 unfold putOk;split
 ·rename_i e;exact wf_put (mayV_valid e) ⟨rfl,rfl⟩ h
 ·exact h
theorem wf_fold:∀(l:List Rul) (t:T),t.Wf->(l.foldl putOk t).Wf
 |[],_,h=>h
 |r::l,t,h=>wf_fold l (putOk t r) (wf_putOk r h)
theorem wf_build(l:List Rul):(buildT l).Wf:=wf_fold l .nil trivial
theorem holds_msb{pa a:BitVec 32}{n:Int}(h:Valid pa n):holdsV pa n a=true↔∀i:Nat,(i:Int)<n->pa.getMsbD i=a.getMsbD i:=by
 have c:=clamp_id h.1 h.2.1
 rw[holds_iff]
 exact⟨fun g i hi=>g i (by omega),fun g i hi=>g i (by omega)⟩
theorem kid_holds{pa a:BitVec 32}{n b:Int}{x:BitVec 32}{xn:Int}(hp:Valid pa n)(hx:Valid x xn)(hk:Kid pa n b x xn)(h:holdsV x xn a=true):holdsV pa n a=true/\bitV a n=b:=by
 have hl:=hk.lt
 have h0:=hp.1
 have h1:=hx.2.1
 rw[holds_msb hx]at h
 refine⟨(holds_msb hp).2 fun i hi=>by rw[<-hk.bits i hi];exact h i (by omega),?_⟩
 rw[<-hk.bit]
 exact(bit_eq h0 (by omega)).2 (h _ (by omega)).symm
abbrev holdsF(a:BitVec 32)(f:BitVec 32 × Int):Bool:=holdsV f.1 f.2 a
def Longest(l:List Rul)(a:BitVec 32)(o:Option Rul):Prop:=
 match o with
 |some r=>r∈l/\holdsV r.pa r.pl a=true/\∀s∈l,holdsV s.pa s.pl a=true->s.pl<=r.pl
 |none=>∀s∈l,holdsV s.pa s.pl a=false
theorem all_rules{P:BitVec 32->Int->Prop}:∀{t:T},t.Wf->t.All P->∀r∈t.rules,P r.pa r.pl
 | .nil,_,_,r,hr=>by cases hr
 | .node pa n r0 is l k,h,g,r,hr=>by
   simp only[T.rules,List.mem_append]at hr
   rcases hr with hr|hr|hr
   ·cases is with
    |false=>cases hr
    |true=>
     simp at hr;subst hr
     have:=h.2.1 rfl
     rw[this.1,this.2];exact g.1
   ·exact all_rules h.2.2.2.2.2.1 g.2.1 r hr
   ·exact all_rules h.2.2.2.2.2.2 g.2.2 r hr
theorem find_longest(a:BitVec 32):∀{t:T},t.Wf->∀best,(t.find a best=best/\∀s∈t.rules,holdsV s.pa s.pl a=false)\/(∃r,t.find a best=some r/\Longest t.rules a (some r))
 | .nil,_,best=>.inl ⟨rfl,fun s hs=>by cases hs⟩
 | .node pa n r is l k,h,best=>by
   have hw:=h
   obtain⟨hp,hi,_,hl,hk,wl,wk⟩:=h
   have none1:∀{b:Int} {t:T},t.Wf->t.All (Kid pa n b)->(holdsV pa n a=false\/bitV a n≠b)->∀s∈t.rules,holdsV s.pa s.pl a=false:=fun wt ht hh s hs=>by
    cases e:holdsV s.pa s.pl a with
    |false=>rfl
    |true=>
     have:=kid_holds hp (all_rules wt (ok_all wt.ok) s hs) (all_rules wt ht s hs) e
     rcases hh with h|h
     ·rw[h]at this;cases this.1
     ·exact absurd this.2 h
   cases e:holdsV pa n a with
   |false=>
    refine .inl ⟨by simp[T.find,e],fun s hs=>?_⟩
    simp only[T.rules,List.mem_append]at hs
    rcases hs with hs|hs|hs
    ·cases is with
     |false=>cases hs
     |true=>
      simp at hs;subst hs
      have:=hi rfl
      rw[this.1,this.2];exact e
    ·exact none1 wl hl (.inl e) s hs
    ·exact none1 wk hk (.inl e) s hs
   |true=>
    have key:∀{b:Int} (t u:T),t.Wf->u.Wf->t.All (Kid pa n b)->(∀s∈u.rules,holdsV s.pa s.pl a=false)->(∀s,s∈(T.node pa n r is l k).rules↔(is=true/\s=r)\/s∈t.rules\/s∈u.rules)->
     (T.node pa n r is l k).find a best=t.find a (if is then some r else best)->
     (∀b,(t.find a b=b/\∀s∈t.rules,holdsV s.pa s.pl a=false)\/(∃r,t.find a b=some r/\Longest t.rules a (some r)))->
     ((T.node pa n r is l k).find a best=best/\∀s∈(T.node pa n r is l k).rules,holdsV s.pa s.pl a=false)\/(∃r',(T.node pa n r is l k).find a best=some r'/\Longest (T.node pa n r is l k).rules a (some r')):=by
     intro b t u wt wu ht hu hm hf ih
     rw[hf]
     rcases ih (if is then some r else best)with⟨h1,h2⟩|⟨r2,h1,h2,h3,h4⟩
     ·rw[h1]
      cases is with
      |false=>
       refine .inl ⟨rfl,fun s hs=>?_⟩
       rcases(hm s).1 hs with⟨h,_⟩|h|h
       ·cases h
       ·exact h2 s h
       ·exact hu s h
      |true=>
       have hr:=hi rfl
       refine .inr ⟨r,rfl,(hm r).2 (.inl ⟨rfl,rfl⟩),by rw[hr.1,hr.2];exact e,fun s hs hh=>?_⟩
       rcases(hm s).1 hs with⟨_,rfl⟩|h|h
       ·exact Int.le_refl _
       ·rw[h2 s h]at hh;cases hh
       ·rw[hu s h]at hh;cases hh
     ·refine .inr ⟨r2,h1,(hm r2).2 (.inr (.inl h2)),h3,fun s hs hh=>?_⟩
      rcases(hm s).1 hs with⟨g,rfl⟩|h|h
      ·have:=(all_rules wt ht r2 h2).lt
       rw[(hi g).2];omega
      ·exact h4 s h hh
      ·rw[hu s h]at hh;cases hh
    have hmem:∀s,s∈(T.node pa n r is l k).rules↔(is=true/\s=r)\/s∈l.rules\/s∈k.rules:=fun s=>by
     cases is<;>simp[T.rules]
    rcases bit01 a n with g|g
    ·refine key (b:=0) l k wl wk hl (none1 wk hk (.inr (by omega))) hmem (by simp[T.find,e,g]) fun b=>find_longest a wl b
    ·refine key (b:=1) k l wk wl hk (none1 wl hl (.inr (by omega))) (fun s=>by rw[hmem s];simp only[or_comm (a:=s∈l.rules)]) (by simp[T.find,e,g]) fun b=>find_longest a wk b
theorem find_spec(a:BitVec 32){t:T}(h:t.Wf):Longest t.rules a (t.find a none):=by
 rcases find_longest a h none with⟨h1,h2⟩|⟨r,h1,h2⟩
 ·rw[h1];exact h2
 ·rw[h1];exact h2
def ltP(a b:Rul):Prop:=cmpR a b<0
theorem ltP_iff(a b:Rul):ltP a b↔(uv a.pa<uv b.pa\/a.pa=b.pa/\a.pl<b.pl):=by
 unfold ltP cmpR
 rw[cmpV_eq]
 split
 ·simp_all
 ·rename_i h
  constructor
  ·intro g;split at g<;>omega
  ·intro g;exact absurd g h
theorem cmpR_zero(a b:Rul):cmpR a b=0↔(a.pa=b.pa/\a.pl=b.pl):=by
 unfold cmpR
 rw[cmpV_eq]
 constructor
 ·intro g
  split at g
  ·omega
  ·split at g
   ·assumption
   ·omega
 ·rintro⟨h1,h2⟩
  rw[h1,h2,if_neg (by omega),if_pos ⟨rfl,rfl⟩]
theorem ltP_trans{a b c:Rul}(h1:ltP a b)(h2:ltP b c):ltP a c:=by
 rw[ltP_iff]at*
 rcases h1 with h1|⟨e1,h1⟩<;>rcases h2 with h2|⟨e2,h2⟩
 ·exact .inl (by omega)
 ·exact .inl (by rw[<-e2];exact h1)
 ·exact .inl (by rw[e1];exact h2)
 ·exact .inr ⟨e1.trans e2,by omega⟩
theorem ltP_ne{a b:Rul}(h:ltP a b):¬(a.pa=b.pa/\a.pl=b.pl):=by
 intro g
 have:=(cmpR_zero a b).2 g
 unfold ltP at h;omega
def Sorted(l:List Rul):Prop:=l.Pairwise ltP
abbrev Free(pa:BitVec 32)(n:Int)(l:List Rul):Prop:=∀y∈l,¬(y.pa=pa/\y.pl=n)
theorem hang_rules(pa:BitVec 32)(n:Int)(r:Rul)(t:T):(hangT pa n r t).rules.Perm (r::t.rules):=by
 cases t with
 |nil=>exact List.Perm.refl _
 |node qa qn qr qi l k=>
  unfold hangT
  simp only
  split
  ·split
   ·simp only[T.rules,if_true,List.append_nil];exact List.Perm.refl _
   ·simp only[T.rules,if_true,List.nil_append];exact List.Perm.refl _
  ·split
   ·simp only[T.rules,if_true,List.append_nil,List.nil_append,Bool.false_eq_true,if_false]
    exact List.perm_append_singleton r _
   ·simp only[T.rules,if_true,List.append_nil,List.nil_append,Bool.false_eq_true,if_false];exact List.Perm.refl _
theorem put_rules{pa:BitVec 32}{n:Int}{r:Rul}:∀{t:T},t.Wf->Free pa n t.rules->(putT pa n r t).rules.Perm (r::t.rules)
 | .nil,_,_=>hang_rules pa n r .nil
 | .node qa qn qr qi l k,h,hf=>by
   unfold putT
   split
   ·split
    ·rename_i e
     split
     ·rename_i g
      subst g
      exfalso
      have:=h.2.1 rfl
      exact hf qr (by simp[T.rules]) ⟨this.1.trans e.1.symm,this.2.trans e.2.symm⟩
     ·rename_i g
      simp only[T.rules,g,if_true,Bool.false_eq_true,if_false,List.nil_append]
      exact List.Perm.refl _
    ·split
     ·have ih:=put_rules (r:=r) h.2.2.2.2.2.1 fun y hy=>hf y (by simp[T.rules,hy])
      simp only[T.rules]
      refine(List.Perm.append_left _ (List.Perm.append_right _ ih)).trans ?_
      exact List.perm_middle
     ·have ih:=put_rules (r:=r) h.2.2.2.2.2.2 fun y hy=>hf y (by simp[T.rules,hy])
      simp only[T.rules]
      refine(List.Perm.append_left _ (List.Perm.append_left _ ih)).trans ?_
      refine(List.Perm.append_left _ List.perm_middle).trans ?_
      exact List.perm_middle
   ·exact hang_rules pa n r _
theorem valid_mayV{a:BitVec 32}{n:Int}(h:Valid a n):mayV a n=0:=by
 unfold mayV
 rw[if_neg (by have:=h.1;have:=h.2.1;omega),if_pos]
 have h2:=h.2.2
 apply BitVec.eq_of_getLsbD_eq
 intro i hi
 have:=congrArg (fun x:BitVec 32=>x.getLsbD i) h2
 simp only[BitVec.getLsbD_and,BitVec.getLsbD_not,BitVec.getLsbD_zero]at this ⊢
 cases e:a.getLsbD i<;>cases e2:(maskV n).getLsbD i<;>simp_all
theorem fold_rules:∀(l:List Rul) (t:T),t.Wf->(∀r∈l,Valid r.pa r.pl)->l.Pairwise (fun a b=>¬(a.pa=b.pa/\a.pl=b.pl))->(∀r∈l,Free r.pa r.pl t.rules)->(l.foldl putOk t).rules.Perm (l++t.rules)
 |[],_,_,_,_,_=>List.Perm.refl _
 |r::l,t,h,hv,hd,hf=>by
  have hp:putOk t r=putT r.pa r.pl r t:=if_pos (valid_mayV (hv r (by simp)))
  have h1:=put_rules (r:=r) h (hf r (by simp))
  rw[<-hp]at h1
  obtain⟨d1,d2⟩:=List.pairwise_cons.1 hd
  have h2:=fold_rules l (putOk t r) (wf_putOk r h) (fun x hx=>hv x (by simp[hx])) d2 fun x hx y hy=>by
   rcases List.mem_cons.1 (h1.mem_iff.1 hy)with rfl|hy
   ·exact d1 x hx
   ·exact hf x (by simp[hx]) y hy
  exact h2.trans ((List.Perm.append_left l h1).trans List.perm_middle)
structure Tab(l:List Rul):Prop where
 valid:∀r∈l,Valid r.pa r.pl
 apart:l.Pairwise (fun a b=>¬(a.pa=b.pa/\a.pl=b.pl))
theorem Tab.take{l:List Rul}(h:Tab l)(k:Nat):Tab (l.take k):=
 ⟨fun r hr=>h.valid r (List.mem_of_mem_take hr),h.apart.sublist (List.take_sublist _ _)⟩
theorem build_rules{l:List Rul}(h:Tab l):(buildT l).rules.Perm l:=by
 have:=fold_rules l .nil trivial h.valid h.apart (fun _ _ y hy=>by cases hy)
 rw[T.rules,List.append_nil]at this
 exact this
theorem Longest.mem{l m:List Rul}{a:BitVec 32}{o:Option Rul}(hlm:∀x,x∈l↔x∈m)(h:Longest l a o):Longest m a o:=by
 cases o with
 |none=>exact fun s hs=>h s ((hlm s).2 hs)
 |some r=>exact⟨(hlm r).1 h.1,h.2.1,fun s hs=>h.2.2 s ((hlm s).2 hs)⟩
theorem build_find{l:List Rul}(h:Tab l)(a:BitVec 32):Longest l a ((buildT l).find a none):=
 (find_spec a (wf_build l)).mem fun _=>(build_rules h).mem_iff
theorem longest_step{l:List Rul}{a:BitVec 32}{o:Option Rul}(h:Longest l a o)(r:Rul):Longest (l++[r]) a (findStep a o r):=by
 unfold findStep better
 cases e:holdsV r.pa r.pl a with
 |false=>
  simp only[Bool.false_and,Bool.false_eq_true,if_false]
  cases o with
  |none=>
   intro s hs
   rcases List.mem_append.1 hs with hs|hs
   ·exact h s hs
   ·simp at hs;subst hs;exact e
  |some b=>
   refine⟨by simp[h.1],h.2.1,fun s hs hh=>?_⟩
   rcases List.mem_append.1 hs with hs|hs
   ·exact h.2.2 s hs hh
   ·simp at hs;subst hs;rw[e]at hh;cases hh
 |true=>
  cases o with
  |none=>
   simp only[Bool.true_and,Option.all_none,if_true]
   refine⟨by simp,e,fun s hs hh=>?_⟩
   rcases List.mem_append.1 hs with hs|hs
   ·rw[h s hs]at hh;cases hh
   ·simp at hs;subst hs;exact Int.le_refl _
  |some b=>
   simp only[Bool.true_and,Option.all_some,decide_eq_true_eq]
   split
   ·rename_i g
    refine⟨by simp,e,fun s hs hh=>?_⟩
    rcases List.mem_append.1 hs with hs|hs
    ·have:=h.2.2 s hs hh;omega
    ·simp at hs;subst hs;exact Int.le_refl _
   ·rename_i g
    refine⟨by simp[h.1],h.2.1,fun s hs hh=>?_⟩
    rcases List.mem_append.1 hs with hs|hs
    ·exact h.2.2 s hs hh
    ·simp at hs;subst hs;omega
theorem longest_fold{a:BitVec 32}:∀(m l:List Rul) (o:Option Rul),Longest l a o->Longest (l++m) a (m.foldl (findStep a) o)
 |[],l,o,h=>by simpa using h
 |r::m,l,o,h=>by
  have:=longest_fold m (l++[r]) _ (longest_step h r)
  rwa [List.append_assoc,List.singleton_append]at this
theorem findL_longest(l:List Rul)(a:BitVec 32):Longest l a (findL l a):=by
 have:=longest_fold (a:=a) l [] none (fun s hs=>by cases hs)
 rwa [List.nil_append]at this
theorem same_of{l:List Rul}(h:Tab l){r s:Rul}(hr:r∈l)(hs:s∈l)(hp:r.pa=s.pa)(hn:r.pl=s.pl):r=s:=by
 obtain⟨i,hi,rfl⟩:=List.mem_iff_getElem.1 hr
 obtain⟨j,hj,rfl⟩:=List.mem_iff_getElem.1 hs
 rcases Nat.lt_trichotomy i j with g|g|g
 ·exact absurd ⟨hp,hn⟩ (List.pairwise_iff_getElem.1 h.apart i j hi hj g)
 ·subst g;rfl
 ·exact absurd ⟨hp.symm,hn.symm⟩ (List.pairwise_iff_getElem.1 h.apart j i hj hi g)
theorem holds_same{p q a:BitVec 32}{n:Int}(hp:Valid p n)(hq:Valid q n)(h1:holdsV p n a=true)(h2:holdsV q n a=true):p=q:=by
 rw[holds_msb hp]at h1
 rw[holds_msb hq]at h2
 have c:=clamp_id hp.1 hp.2.1
 have v1:=(valid_iff p n).1 hp.2.2
 have v2:=(valid_iff q n).1 hq.2.2
 refine msb_ext fun i _=>?_
 rcases Nat.lt_or_ge i (clamp n)with g|g
 ·rw[h1 i (by omega),h2 i (by omega)]
 ·rw[v1 i g,v2 i g]
theorem longest_one{l:List Rul}(h:Tab l){a:BitVec 32}{o u:Option Rul}(ho:Longest l a o)(hu:Longest l a u):o=u:=by
 cases o with
 |none=>
  cases u with
  |none=>rfl
  |some s=>
   have h1:=ho s hu.1
   rw[hu.2.1]at h1;cases h1
 |some r=>
  cases u with
  |none=>
   have h1:=hu r ho.1
   rw[ho.2.1]at h1;cases h1
  |some s=>
   have e1:=ho.2.2 s hu.1 hu.2.1
   have e2:=hu.2.2 r ho.1 ho.2.1
   have hn:r.pl=s.pl:=by omega
   have v:=h.valid s hu.1
   have hp:=holds_same (hn▸h.valid r ho.1) v (hn▸ho.2.1) hu.2.1
   rw[same_of h ho.1 hu.1 hp hn]
theorem find_scan{l:List Rul}(h:Tab l)(a:BitVec 32):(buildT l).find a none=findL l a:=longest_one h (build_find h a) (findL_longest l a)
end Go.Proofs.YtjflkifodfncmaaGreatDoor
