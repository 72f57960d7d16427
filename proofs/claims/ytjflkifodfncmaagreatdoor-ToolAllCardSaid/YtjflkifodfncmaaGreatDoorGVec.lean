/- Maker, VecNew, VecOf, VecCmp: these texts in one. Conditions: each theorem names its own. -/
import Derived.Test.YtjflkifodfncmaaGreatDoorGNetP
import Derived.Deep.OwnRows
import Derived.Laws.OwnMore
namespace Go.Proofs.YtjflkifodfncmaaGreatDoor
set_option maxHeartbeats 2000000
set_option maxRecDepth 100000
open Go.RowKit
abbrev findF(tb:Nat):Value:=.func (.func 137) #[.pointer (some ⟨tb,0,none⟩)] #[]
theorem TreeAt.forks{w:World}:∀{t:T} {v:Value} {bs:List Nat},TreeAt w t v bs->∀b∈bs,∃cs,Blk w b cs 236
 | .nil,_,_,⟨_,h⟩,b,hb=>by subst h;cases hb
 | .node ..,v,bs,⟨b,bl,bk,vl,vk,h1,h2,h3,h4,h5⟩,q,hq=>by
   subst h2
   simp only[List.mem_cons,List.mem_append]at hq
   rcases hq with rfl|hq|hq
   ·exact⟨_,h3⟩
   ·exact h4.forks q hq
   ·exact h5.forks q hq
theorem TrieAt.keep{w w':World}{B tb:Nat}{t:T}{v:Value}{bs:List Nat}(h:TrieAt w B tb t v bs)
 (hs:∀b cs,B<=b->(Blk w b cs 236\/Blk w b cs 229)->w'.heap[b]?=w.heap[b]?):TrieAt w' B tb t v bs:=by
 refine⟨?_,h.tree.same fun b hb=>?_,h.nodup,h.low,h.ok⟩
 ·have hb:=h.blk
  unfold Blk
  rw[hs tb _ (h.low tb (by simp)) (.inr hb)]
  exact hb
 ·obtain⟨cs,hc⟩:=h.tree.forks b hb
  exact hs b cs (h.low b (by simp[hb])) (.inl hc)
theorem TrieAt.lower{w:World}{B B' tb:Nat}{t:T}{v:Value}{bs:List Nat}(h:TrieAt w B tb t v bs)(hB:B'<=B):TrieAt w B' tb t v bs:=
 ⟨h.blk,h.tree,h.nodup,fun q hq=>Nat.le_trans hB (h.low q hq),h.ok⟩
def FindsAt(w:World)(B:Nat)(fv:Value)(ls:List (List Rul)):Prop:=
 ∃fs:List Value,w.ownsRow B 195 1 fv ls.length fs/\∀(i:Nat) (l:List Rul),ls[i]?=some l->∃tb v bs,fs[i]?=some (findF tb)/\TrieAt w B tb (buildT l) v bs
theorem FindsAt.nil(w:World)(B:Nat):FindsAt w B (.slice none 0 0) []:=⟨[],⟨by simp,.inl ⟨rfl,rfl⟩⟩,fun i l h=>by cases h⟩
theorem FindsAt.later{w w':World}{B:Nat}{fv:Value}{ls:List (List Rul)}(h:FindsAt w B fv ls)(hx:Ext w w'):FindsAt w' B fv ls:=
 let⟨fs,h1,h2⟩:=h
 ⟨fs,own_later h1 hx,fun i l hi=>let⟨tb,v,bs,g1,g2⟩:=h2 i l hi;⟨tb,v,bs,g1,g2.later hx⟩⟩
theorem FindsAt.lower{w:World}{B B':Nat}{fv:Value}{ls:List (List Rul)}(h:FindsAt w B fv ls)(hB:B'<=B):FindsAt w B' fv ls:=
 let⟨fs,h1,h2⟩:=h
 ⟨fs,own_low h1 hB,fun i l hi=>let⟨tb,v,bs,g1,g2⟩:=h2 i l hi;⟨tb,v,bs,g1,g2.lower hB⟩⟩
theorem FindsAt.form{w:World}{B:Nat}{fv:Value}{ls:List (List Rul)}(h:FindsAt w B fv ls):∃a cap,fv=.slice a ls.length cap/\ls.length<=cap/\cap<=maxLen:=by
 obtain⟨fs,⟨_,h1⟩,_⟩:=h
 rcases h1 with⟨h1,h2⟩|⟨g,cap,cur,h1,_,_,h4,h5,_⟩
 ·exact⟨none,0,by rw[h1,h2],by omega,by unfold maxLen;omega⟩
 ·exact⟨_,cap,h1,h4,h5⟩
theorem FindsAt.keep{w w':World}{B:Nat}{fv:Value}{ls:List (List Rul)}(h:FindsAt w B fv ls)(hs:∀b,B<=b->b<w.heap.size->w'.heap[b]?=w.heap[b]?):FindsAt w' B fv ls:=by
 obtain⟨fs,⟨h0,h1⟩,h2⟩:=h
 refine⟨fs,⟨h0,?_⟩,?_⟩
 ·rcases h1 with h1|⟨g,cap,cur,e1,e2,e3,e4⟩
  ·exact .inl h1
  ·refine .inr ⟨g,cap,cur,e1,e2,?_,e4⟩
   rw[hs g e2 (by
    rcases Nat.lt_or_ge g w.heap.size with h'|h'
    ·exact h'
    ·simp[Array.getElem?_eq_none h']at e3),e3]
 ·intro i l hi
  obtain⟨tb,v,bs,g1,g2⟩:=h2 i l hi
  exact⟨tb,v,bs,g1,g2.keep fun b cs hb hk=>hs b hb (by rcases hk with hk|hk<;>exact hk.lt)⟩
theorem blk_row{w:World}{b:Nat}{cs:List Value}{T e:TypeId}{B s n:Nat}{v:Value}{xs:List Value}(h:Blk w b cs T)(ho:w.ownsRow B e s v n xs)(hT:T≠e):some b≠v.ownBlock:=by
 intro hb
 obtain⟨_,ho⟩:=ho
 rcases ho with⟨rfl,_⟩|⟨g,cap,cur,rfl,_,h3,_⟩
 ·cases hb
 ·simp[Value.ownBlock]at hb
  subst hb
  unfold Blk at h
  rw[h]at h3
  cases h3
  exact hT rfl
theorem FindsAt.app{w w':World}{B:Nat}{fv fv':Value}{tb:Nat}{ls:List (List Rul)}{l:List Rul}{fs:List Value}{v:Value}{bs:List Nat}(hown:w.ownsRow B 195 1 fv ls.length fs)
 (hfs:∀(i:Nat) (l:List Rul),ls[i]?=some l->∃tb v bs,fs[i]?=some (findF tb)/\TrieAt w B tb (buildT l) v bs)
 (ho:w'.ownsRow B 195 1 fv' (ls.length+1) (fs++[findF tb])) (hg:w.grownBy w' fv.ownBlock) (ht:TrieAt w B tb (buildT l) v bs):FindsAt w' B fv' (ls++[l]):=by
 have hlen:fs.length=ls.length:=by have:=hown.1;simpa using this
 have hk:∀{tb:Nat} {t:T} {v:Value} {bs:List Nat},TrieAt w B tb t v bs->TrieAt w' B tb t v bs:=fun h=>h.keep fun b cs _ hc=>
  hg.block b (by rcases hc with hc|hc<;>exact hc.lt) (by rcases hc with hc|hc<;>exact blk_row hc hown (by decide))
 refine⟨fs++[findF tb],by rw[List.length_append];exact ho,fun i m hi=>?_⟩
 rcases snoc_get hi with hi|⟨rfl,rfl⟩
 ·obtain⟨tb',v',bs',g1,g2⟩:=hfs i m hi
  have hil:=(List.getElem?_eq_some_iff.1 hi).1
  exact⟨tb',v',bs',by rw[List.getElem?_append_left (by omega)];exact g1,hk g2⟩
 ·exact⟨tb,v,bs,by rw[List.getElem?_append_right (by omega),hlen];simp,hk ht⟩
theorem FindsAt.setCell{w:World}{B:Nat}{fv:Value}{ls:List (List Rul)}(h:FindsAt w B fv ls){p:Addr}(hp:p.block<B)(x:Value):FindsAt (w.setCell p x) B fv ls:=
 h.keep fun b hb _=>by
  have:p.block≠b:=by omega
  simp[World.setCell,Array.getElem?_modify,this]
def MakerAt(w:World)(B mb:Nat)(ls:List (List Rul)):Prop:=B<=mb/\∃fv,Blk w mb [fv] 192/\FindsAt w B fv ls
theorem MakerAt.later{w w':World}{B mb:Nat}{ls:List (List Rul)}(h:MakerAt w B mb ls)(hx:Ext w w'):MakerAt w' B mb ls:=
 let⟨h0,fv,h1,h2⟩:=h
 ⟨h0,fv,h1.later hx,h2.later hx⟩
theorem MakerAt.keep{w w':World}{B mb:Nat}{ls:List (List Rul)}(h:MakerAt w B mb ls)(hs:∀b,B<=b->b<w.heap.size->w'.heap[b]?=w.heap[b]?):MakerAt w' B mb ls:=
 let⟨h0,fv,h1,h2⟩:=h
 ⟨h0,fv,by have:=h1.lt;unfold Blk at*;rw[hs mb h0 this];exact h1,h2.keep hs⟩
theorem infoFind:(Tryz.prog.info? 195).map (fun i=>(i.zero,i.size,i.bytes))=some (some .nilFunc,1,8):=by kernel_rfl
theorem len_size{ls:List (List Rul)}{k:Nat}(h:k<ls.length):ls[k].length<=sizeN ls:=by
 have h1:=sizeN_step h
 have h2:=sizeN_take ls (k+1)
 omega
theorem vecNew_good(lv:Value)(ls:List (List Rul))(w:World)(hl:TablesAt w lv ls)(hok:TablesOk ls)(hm:netMayV ls=0)(hs:sizeN ls<=4096):
 Calls Tryz.prog 91 #[.agg #[lv]] w fun e w'=>∃mb,e=.returned (.tuple #[.pointer (some ⟨mb,0,none⟩),I 0])/\MakerAt w' w.heap.size mb ls/\Ext w w':=by
 have HL:=Hd hl
 obtain⟨ad,cap,rfl,a1,a2,a3⟩:=hl.form
 have A3:=Hd a3
 have HM:=Hd hm
 have HOK:=Hd hok
 have hlen:=(netMay_tabs hm).1
 clear a3 hl hm hok
 unfold maxLen at a2
 go_enter Tryz.func91,Tryz.ntmps91
 go_upto_region 1 with(fail)
 refine hBk w [.slice ad ls.length cap] 43 (fun W1 hW1=>?_)
 obtain⟨hx1,hb1⟩:=hW1
 have HB:=Hd hb1
 have HX1:=Hd hx1
 have hbc:=hb1.cells
 clear hb1 hx1
 generalize hnb:w.heap.size=nb at*
 go_upto_region 4 with(first
  |(go_at_call 30;(with_reducible refine(netMay_any _ ls _ (HL.out.later HX1.out) HOK.out (by omega)).mono ?_);rintro e w2 ⟨he,hx2⟩;rw[HM.out]at he;subst he;have HX2:=Hd hx2;clear hx2))
 go_upto_region 5 with(fail)
 refine hBk w2 [.slice none 0 0] 192 (fun W3 hW3=>?_)
 obtain⟨hx3,hm3⟩:=hW3
 have HX3:=Hd hx3
 have HM3:=Hd hm3
 have HXB:=Hd (HX1.out.trans HX2.out)
 have hbc3:=(HB.out.later (HX2.out.trans hx3)).cells
 have hnm:nb<=w2.heap.size:=hnb▸HXB.out.size
 clear hx3 hm3 hbc
 generalize hmb:w2.heap.size=mb at*
 have HMB:=Hd (show w2.heap.size<=mb from Nat.le_of_eq hmb)
 have HNB:=Hd (show w.heap.size<=nb from Nat.le_of_eq hnb)
 clear hmb hnb
 go_wp2_with fail
 go_loopw[7,8,19] (fun _ _ i wr=>∃(k:Nat) (v:Value),k<=ls.length/\i=I k/\Hid (Blk wr mb [v] 192)/\Hid (FindsAt wr (mb+1) v (ls.take k))/\Hid (Ext w2 wr)) (fun _ _ i _=>ls.length-(intOf i).toNat)
 case atStart=>exact⟨0,.slice none 0 0,by omega,rfl,HM3.out,FindsAt.nil _ _,HX3.out⟩
 case round=>
  obtain⟨k,v,hk,rfl,HMK,HF,HX⟩:=hrel
  by_cases hlt:k<ls.length
  ·obtain⟨b0,o0,u,rfl,p0,hru⟩:=A3.out k ls[k] (gE hlt)
   have HXW:=Hd (HXB.out.trans HX.out)
   have p1:=HXW.out.cell p0
   have HRU:=Hd (hru.later HXW.out)
   have HOKK:=Hd (HOK.out.at hlt)
   have hll:=len_size hlt
   have HLK:=Hd (show(ls.take k).length=k by rw[List.length_take];omega)
   clear p0 hru
   obtain⟨va,vcap,hv,v1,v2⟩:=HF.out.form
   rw[HLK.out]at hv v1
   subst hv
   go_upto_region 9 with(first
    |(go_at_call 136;(with_reducible refine(trieBuild_any _ ls[k] _ HRU.out HOKK.out (by omega)).mono ?_);rintro e w4 ⟨tb,tv,tbs,he,hT,hx4⟩;subst he;have HT:=Hd hT;have HX4:=Hd hx4;clear hT hx4))
   have HTK:=Hd (show ls.take (k+1)=ls.take k++[ls[k]]from List.take_succ_eq_append_getElem hlt)
   have HMK4:=Hd (HMK.out.later HX4.out)
   have hmc:=HMK4.out.cells
   have HA:=Hd (HX4.out.alloc (.cells #[findF tb] 195))
   have HMK5:=Hd (HMK4.out.later ((eR w4).alloc (.cells #[findF tb] 195)))
   have hmc5:=HMK5.out.cells
   have hmf5:=HMK5.out.frozen
   have HT5:=Hd ((HT.out.later ((eR w4).alloc (.cells #[findF tb] 195))).lower (B':=mb+1) HMK.out.lt)
   have HS:=Hd (show(w4.alloc (.cells #[findF tb] 195)).cell? ⟨w4.heap.size,0,none⟩=some (findF tb)from(Blk.new w4 [findF tb] 195).cells 0)
   have HZ:=Hd (show mb+1<=(w4.alloc (.cells #[findF tb] 195)).heap.size from HMK5.out.lt)
   have HF5:=HF.out.later HA.out
   unfold FindsAt at HF5
   rw[HLK.out]at HF5
   obtain⟨fs,hown,hfs⟩:=HF5
   have HOWN:=Hd hown
   have HFS:=Hd hfs
   clear hown hfs
   go_wp2_with (first
    |(at_builtin;refine wpList_app1 rfl (.tmp 29) (.tmp 32) 190 rfl (mb+1) 195 _ 8 Tryz.underlying190 infoFind rfl (by decide) _ _ _ rfl HOWN.out _ rfl _ HS.out rfl (by omega) HZ.out ?_;intro v7 w7 ho7 hg7 hloc7
      have HB7:=Hd (show Below (mb+1) (w4.alloc (.cells #[findF tb] 195)) w7 from Below.grown (Below.refl _ _) hg7 HZ.out fun q hq=>(HOWN.out.lt q hq).1)
      have HF7:=Hd (show FindsAt w7 (mb+1) v7 (ls.take (k+1))by
       have e:=HLK.out
       rw[HTK.out]
       exact FindsAt.app (by rw[e];exact HOWN.out) HFS.out (by rw[e];exact ho7) hg7 HT5.out)
      have HMK7:=Hd (show Blk w7 mb [.slice va k vcap] 192 from blk_below HMK5.out (Nat.lt_succ_self _) HB7.out)
      have HX7:=Hd (show Ext w2 w7 from Ext.grown (HX.out.trans HA.out) hg7 HOWN.out (Nat.le_trans HMB.out (Nat.le_succ _)))
      have HLK7:=Hd (show(ls.take (k+1)).length=k+1 by rw[List.length_take];omega)
      obtain⟨va7,vcap7,hv7,q1,q2⟩:=HF7.out.form
      rw[HLK7.out]at hv7 q1
      subst hv7
      clear ho7 hg7 hloc7
      have hc7:=HMK7.out.cells
      have hf7:=HMK7.out.frozen))
   go_roundw
   case rel=>
    exact⟨k+1,_,by omega,by go_num,HMK7.out.set 0 _,HF7.out.setCell (Nat.lt_succ_self _) _,HX7.out.setCell HMB.out _⟩
   case measure=>simp[intOf];omega
  ·have HE:=Hd (show ls.take k=ls by rw[List.take_of_length_le (by omega)])
   go_wp2_with fail
   go_ret2
   refine⟨mb,rfl,⟨by have:=HNB.out;omega,v,HMK.out,?_⟩,HXB.out.trans HX.out⟩
   have:=HF.out
   rw[HE.out]at this
   exact this.lower (by have:=HXB.out.size;have:=HMB.out;omega)
def halfV(ls:List (List Rul))(a:BitVec 32)(k:Nat):List Int:=(vecV ls a).take k++List.replicate (ls.length-k) 0
theorem halfV_len{ls:List (List Rul)}{a:BitVec 32}{k:Nat}(h:k<=ls.length):(halfV ls a k).length=ls.length:=by
 unfold halfV;rw[List.length_append,List.length_take,vecV_len,List.length_replicate];omega
theorem halfV_step{ls:List (List Rul)}{a:BitVec 32}{k:Nat}(h:k<ls.length):(halfV ls a k).set k ((stepO ls[k] a).getD (-1))=halfV ls a (k+1):=by
 have hl:((vecV ls a).take k).length=k:=by rw[List.length_take,vecV_len];omega
 unfold halfV
 rw[vec_step h,List.set_append_right _ _ (by omega),hl,Nat.sub_self,show ls.length-k=(ls.length-(k+1))+1 by omega,List.replicate_succ,List.set_cons_zero,List.append_assoc]
 rfl
theorem halfV_all{ls:List (List Rul)}{a:BitVec 32}:halfV ls a ls.length=vecV ls a:=by
 unfold halfV;rw[List.take_of_length_le (by rw[vecV_len];omega),Nat.sub_self,List.replicate_zero,List.append_nil]
theorem icells_set(l:List Int)(k:Nat)(x:Int):icells (l.set k x)=(icells l).set k (I x):=List.map_set
theorem halfV_start(ls:List (List Rul))(a:BitVec 32):icells (halfV ls a 0)=(madeCells #[I 0] ls.length).toList:=by
 unfold halfV icells
 rw[toList_madeCells_one,List.take_zero,List.nil_append,List.map_replicate,Nat.sub_zero]
theorem own_blk{w:World}{b n:Nat}{xs:List Int}(h:Blk w b (icells xs) 3)(hn:xs.length=n)(hm:n<=maxLen):OwnI w b (.slice (some ⟨b,0,none⟩) n n) xs:=by
 subst hn
 refine⟨by rw[icells_len];omega,.inr ⟨b,xs.length,(icells xs).toArray,rfl,Nat.le_refl _,h,Nat.le_refl _,hm,?_,?_⟩⟩
 ·simp[icells_len]
 ·rw[Nat.mul_one];simp only[icells];exact List.take_of_length_le (by simp)
theorem vecOf_any(B mb:Nat)(ls:List (List Rul))(a:BitVec 32)(w:World)(hm:MakerAt w B mb ls)(ht:∀l∈ls,Tab l)(hn:ls.length<=1000000):
 Calls Tryz.prog 93 #[.pointer (some ⟨mb,0,none⟩),U a] w fun e w'=>∃v,e=.returned v/\OwnI w' w.heap.size v (vecV ls a)/\Ext w w':=by
 obtain⟨hmb,fv,hb,hf⟩:=hm
 obtain⟨va,vcap,rfl,v1,v2⟩:=hf.form
 have HF:=Hd hf
 have HB:=Hd hb
 have HT:=Hd ht
 have hbc:=hb.cells
 have hmk:=fun w=>run_make_row' (P:=Tryz.prog) 47 3 (I 0) 8 Tryz.underlying47 infoInt rfl .i64 .i64 ls.length (by omega) (by omega) w
 clear hf hb ht
 unfold maxLen at v2
 go_enter Tryz.func93,Tryz.ntmps93
 go_upto_region 2 with(fail)
 refine hWp (fun W=>Ext w W/\Blk W w.heap.size (icells (halfV ls a 0)) 3)
  ⟨by(repeat with_reducible first|exact eR _|assumption|refine eA ?_ _|refine eD ?_|refine eW ?_ _|(refine eS ?_ ?_;focus(first|(simp;done)|(simp;omega)|omega))),by rw[halfV_start];exact Blk.new w (madeCells #[I 0] ls.length).toList 3⟩ (fun W1 hW1=>?_)
 obtain⟨hx1,hr1⟩:=hW1
 have HX1:=Hd hx1
 have HR1:=Hd hr1
 have hbc1:=(HB.out.later hx1).cells
 clear hx1 hr1 hbc hmk
 go_wp2_with fail
 go_loopw[6,7,8,9,21] (fun _ _ _ _ i wr=>∃k:Nat,k<=ls.length/\i=I k/\Hid (Blk wr w.heap.size (icells (halfV ls a k)) 3)/\Hid (Ext w wr)) (fun _ _ _ _ i _=>ls.length-(intOf i).toNat)
 case atStart=>exact⟨0,by omega,rfl,HR1.out,HX1.out⟩
 case round=>
  obtain⟨k,hk,rfl,HR,HX⟩:=hrel
  by_cases hlt:k<ls.length
  ·obtain⟨fs,hown,hfs⟩:=HF.out
   obtain⟨tb,tv,bs,hfk,htr⟩:=hfs k ls[k] (gE hlt)
   obtain⟨h0,ad,cap,hv,h2,h3,h4,h5⟩:=Reads.of_own hown
   obtain⟨rfl,-,rfl⟩:va=ad/\ls.length=ls.length/\vcap=cap:=by simpa using hv
   obtain⟨fb,fo,rfl,p0⟩:∃fb fo,va=some ⟨fb,fo,none⟩/\wr.cell? ⟨fb,fo+k,none⟩=some (findF tb):=by
    cases va with
    |none=>have:=h4 rfl;omega
    |some b=>
     obtain⟨e1,e2⟩:=h5 b rfl
     replace e1:b.spot=none:=by
      rcases e1 with e1|e1
      ·exact e1
      ·rw[e1]at hfk;cases hfk
     obtain⟨bb,bo,bs⟩:=b
     simp only at e1
     subst e1
     exact⟨bb,bo,rfl,HX.out.cell (e2 k _ hfk)⟩
   have HTR:=Hd htr
   have HFS:=Hd (find_scan (HT.out ls[k] (List.getElem_mem hlt)) a)
   have HST:=Hd (halfV_step (a:=a) hlt)
   have kc:=HR.out.cells
   have kcf:=HR.out.frozen
   have klen:k<(icells (halfV ls a k)).length:=by rw[icells_len,halfV_len hk];exact hlt
   obtain⟨x0,hx0⟩:∃x,(icells (halfV ls a k))[k]?=some x:=⟨_,gE klen⟩
   have kck:=(kc k).trans hx0
   have KL:=Hd klen
   have W:=next_way ls[k] a
   clear hown hfs h0 h2 h3 h4 h5 hv hfk htr kc klen hx0
   rcases W with⟨h,v⟩|⟨r,h,n,v⟩|⟨r,h,n,v⟩
   ·have H:=Hd h
    clear h
    go_wp2_with (first
     |(go_at_call 137;(with_reducible refine(trieFind_any _ _ tb _ _ _ a (HTR.out.later (HX.out.setCell (Nat.le_refl _) _))).mono ?_);rintro e w2 ⟨he,hx2⟩;rw[HFS.out,H.out]at he;subst he;have HX2:=Hd (Ext.trans (HX.out.setCell (p:=⟨w.heap.size,k,none⟩) (Nat.le_refl _) (I (-1))) (hx2.alloc (.cells (resR none).cells.toArray 39)));have HR2:=Hd ((HR.out.set k (I (-1))).later (hx2.alloc (.cells (resR none).cells.toArray 39)));have kr:=(HR2.out.cells k).trans (List.getElem?_set_self KL.out);have kf:=HR2.out.frozen;clear hx2))
    go_roundw
    case rel=>
     refine⟨k+1,by omega,by go_num,?_,HX2.out⟩
     have e:=HST.out
     rw[v.out]at e
     show Blk _ _ _ _
     rw[<-e,icells_set]
     exact HR2.out
    case measure=>simp[intOf];omega
   ·have H:=Hd h
    have n2:((resR (some r)).act==1)=false:=by simpa using n
    clear h n
    go_wp2_with (first
     |(go_at_call 137;(with_reducible refine(trieFind_any _ _ tb _ _ _ a (HTR.out.later (HX.out.setCell (Nat.le_refl _) _))).mono ?_);rintro e w2 ⟨he,hx2⟩;rw[HFS.out,H.out]at he;subst he;have HX2:=Hd (Ext.trans (HX.out.setCell (p:=⟨w.heap.size,k,none⟩) (Nat.le_refl _) (I (-1))) (hx2.alloc (.cells (resR (some r)).cells.toArray 39)));have HR2:=Hd ((HR.out.set k (I (-1))).later (hx2.alloc (.cells (resR (some r)).cells.toArray 39)));have kr:=(HR2.out.cells k).trans (List.getElem?_set_self KL.out);have kf:=HR2.out.frozen;clear hx2))
    go_roundw
    case rel=>
     refine⟨k+1,by omega,by go_num,?_,HX2.out⟩
     have e:=HST.out
     rw[v.out]at e
     show Blk _ _ _ _
     rw[<-e,icells_set]
     exact HR2.out
    case measure=>simp[intOf];omega
   ·have H:=Hd h
    have n2:((resR (some r)).act==1)=true:=by simpa using n
    clear h n
    go_wp2_with (first
     |(go_at_call 137;(with_reducible refine(trieFind_any _ _ tb _ _ _ a (HTR.out.later (HX.out.setCell (Nat.le_refl _) _))).mono ?_);rintro e w2 ⟨he,hx2⟩;rw[HFS.out,H.out]at he;subst he;have HX2:=Hd (Ext.trans (HX.out.setCell (p:=⟨w.heap.size,k,none⟩) (Nat.le_refl _) (I (-1))) (hx2.alloc (.cells (resR (some r)).cells.toArray 39)));have HR2:=Hd ((HR.out.set k (I (-1))).later (hx2.alloc (.cells (resR (some r)).cells.toArray 39)));have kr:=(HR2.out.cells k).trans (List.getElem?_set_self KL.out);have kf:=HR2.out.frozen;clear hx2))
    go_roundw
    case rel=>
     refine⟨k+1,by omega,by go_num,?_,HX2.out.setCell (Nat.le_refl _) _⟩
     have e:=HST.out
     rw[v.out]at e
     have:=HR2.out.set k (I r.nx)
     rw[List.set_set]at this
     show Blk _ _ _ _
     rw[<-e,icells_set]
     exact this
    case measure=>simp[intOf];omega
  ·obtain rfl:k=ls.length:=by omega
   have HE:=Hd (halfV_all (ls:=ls) (a:=a))
   go_wp2_with fail
   go_ret
   refine⟨_,rfl,?_,HX.out⟩
   have:=own_blk HR.out (halfV_len (Nat.le_refl _)) (by unfold maxLen;omega)
   rwa [HE.out]at this
def cmpG:List Int->List Int->Int
 |x::v,y::w=>if cmpI x y≠0 then cmpI x y else cmpG v w
 |_,_=>0
def cmpL(v w:List Int):Int:=if cmpI v.length w.length≠0 then cmpI v.length w.length else cmpG v w
def mayG(n:Int):List Int->Int
 |[]=>0
 |x::l=>if x< -1\/n<=x then 10 else mayG n l
def vmayV(v:List Int):Int:=mayG v.length v
theorem mayG_step{n:Int}{v:List Int}{k:Nat}(h:k<v.length):mayG n (v.drop k)=if v[k]< -1\/n<=v[k]then 10 else mayG n (v.drop (k+1)):=by
 rw[List.drop_eq_getElem_cons h];rfl
theorem mayG_end{n:Int}{v:List Int}{k:Nat}(h:v.length<=k):mayG n (v.drop k)=0:=by rw[List.drop_of_length_le h];rfl
theorem mayG_zero{n:Int}:∀{l:List Int},(∀x∈l,-1<=x/\x<n)->mayG n l=0
 |[],_=>rfl
 |x::l,h=>by
  have h1:=h x (by simp)
  unfold mayG
  rw[if_neg (by omega)]
  exact mayG_zero fun y hy=>h y (by simp[hy])
theorem vecMay_any(va:Value)(la:List Int)(w:World)(ha:IntsAt w va la):
 Calls Tryz.prog 141 #[va] w fun e w'=>e=.returned (I (vmayV la))/\Ext w w':=by
 obtain⟨a,cap,rfl,a1,a2,a3⟩:=ha.form
 have A3:=Hd a3
 clear a3
 unfold maxLen at a2
 go_enter Tryz.func141,Tryz.ntmps141
 go_wp2_with fail
 go_loopw[4,7] (fun _ i wr=>∃k:Nat,k<=la.length/\i=I k/\Hid (mayG la.length (la.drop k)=vmayV la)/\Ext w wr) (fun _ i _=>la.length-(intOf i).toNat)
 case atStart=>exact⟨0,by omega,rfl,rfl,eR w⟩
 case round=>
  obtain⟨k,hk,rfl,HG,hx⟩:=hrel
  by_cases hlt:k<la.length
  ·obtain⟨b0,o0,rfl,p0⟩:=A3.out k la[k] (gE hlt)
   replace p0:=hx.cell p0
   have HS:=Hd (mayG_step (n:=la.length) hlt)
   rw[HG.out]at HS
   clear HG
   by_cases h1:la[k]< -1
   ·have hd:decide (la[k]< -1)=true:=dT h1
    have HS2:=Hd (HS.out.trans (if_pos (.inl h1)))
    clear HS h1
    go_wp2_with fail
    go_ret
    exact⟨ret_int HS2.out.symm,hx⟩
   ·have hd:decide (la[k]< -1)=false:=dF h1
    by_cases h2:(la.length:Int)<=la[k]
    ·have hd2:decide ((la.length:Int)<=la[k])=true:=dT h2
     have HS2:=Hd (HS.out.trans (if_pos (.inr h2)))
     clear HS h1 h2
     go_wp2_with fail
     go_ret
     exact⟨ret_int HS2.out.symm,hx⟩
    ·have hd2:decide ((la.length:Int)<=la[k])=false:=dF h2
     have HS2:=Hd (HS.out.trans (if_neg (by omega)))
     clear HS h1 h2
     go_wp2_with fail
     go_roundw
     case rel=>exact⟨k+1,by omega,by go_num,HS2.out.symm,hx⟩
     case measure=>simp[intOf];omega
  ·have HE:=Hd (HG.out.symm.trans (mayG_end (n:=la.length) (v:=la) (k:=k) (by omega)))
   go_wp2_with fail
   go_ret
   exact⟨ret_int HE.out.symm,hx⟩
end Go.Proofs.YtjflkifodfncmaaGreatDoor
