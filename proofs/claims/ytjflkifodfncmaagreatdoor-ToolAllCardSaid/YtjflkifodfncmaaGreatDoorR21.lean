/- R15L, R21: these texts in one. Conditions: each theorem names its own. -/
import Derived.Test.YtjflkifodfncmaaGreatDoorGAna
namespace Go.Proofs.YtjflkifodfncmaaGreatDoor
set_option maxHeartbeats 4000000
set_option maxRecDepth 100000
open Go.RowKit
theorem loop_at{v:List Int}(hv:VOk v){k m:Nat}(hno:∀j:Nat,j<k->¬OnL v j)(h0:0<m)(hb:itv v m k=k)(hf:∀j,0<j->j<m->itv v j k≠k):LoopIs v (wayV v k m):=by
 refine .inr ⟨k,m,⟨⟨by omega,m,h0,hb⟩,fun x hx=>?_⟩,⟨h0,hb,hf⟩,rfl⟩
 have hi:=hx.is hv
 refine Classical.byContradiction fun hc=>?_
 refine hno x.toNat (by have:=hi.1;omega) ?_
 rw[Int.toNat_of_nonneg hi.1];exact hx
theorem no_loop_end{v:List Int}{k m:Nat}(hy:itv v m k= -1):¬OnL v k:=fun h=>h.not_ends ⟨m,hy⟩
theorem no_loop_far{v:List Int}(hv:VOk v){k m:Nat}(hm:v.length<=m)(hy:itv v m k≠k)(hf:∀j,0<j->j<m->itv v j k≠k):¬OnL v k:=fun h=>by
 obtain⟨p,hp⟩:=h.per
 have hle:=hp.le hv h.1
 rcases Nat.lt_or_ge p m with g|g
 ·exact hf p hp.pos g hp.back
 ·obtain rfl:p=m:=by omega
  exact hy hp.back
theorem r15Loop_any(va:Value)(v:List Int)(w:World)(hv:IntsAt w va v)(hok:VOk v)(hl:v.length<=256):
 Calls Tryz.prog 52 #[va] w (GLoopOut v w):=by
 have HV:=Hd hv
 have HOK:=Hd hok
 obtain⟨a,cap,rfl,a1,a2,a3⟩:=hv.form
 have A3:=Hd a3
 clear a3 hv
 unfold maxLen at a2
 go_enter Tryz.func52,Tryz.ntmps52
 go_upto_region 4 with(first
  |(go_at_call 113;(with_reducible refine(r15May_any _ v _ HV.out hok hl).mono ?_);rintro e w2 ⟨rfl,hx2⟩;have HX2:=Hd hx2;clear hx2))
 clear hok
 go_wp2_with fail
 go_loopw[5] (fun i wr=>∃k:Nat,k<=v.length/\i=I k/\Hid (∀j:Nat,j<k->¬OnL v j)/\Hid (Ext w wr)) (fun i _=>v.length-(intOf i).toNat)
 case atStart=>exact⟨0,Nat.zero_le _,rfl,fun j h=>absurd h (Nat.not_lt_zero j),HX2.out⟩
 case round=>
  obtain⟨k,hk,rfl,HN,HX⟩:=hrel
  by_cases hlt:k<v.length
  ·have hkd:decide ((k:Int)<(v.length:Int))=true:=dT (by omega)
   have HLT:=Hd hlt
   go_upto_region 8 with fail
   refine hWp (fun W=>Ext wr W/\OwnI W w.heap.size (.slice (some ⟨wr.heap.size,0,none⟩) 1 1) (wayV v k 1))
    ⟨by(repeat with_reducible first|exact eR _|assumption|refine eA ?_ _|refine eD ?_|refine eW ?_ _|(refine eS ?_ ?_;focus(first|(simp;done)|(simp;omega)|omega))),own_low (own_made wr 1 3 1 [I k] rfl (by unfold maxLen;omega)) HX.out.size⟩ (fun W3 hW3=>?_)
   obtain⟨hx3,ho3⟩:=hW3
   have HX3:=Hd (HX.out.trans hx3)
   have HO3:=Hd ho3
   clear hx3 ho3
   generalize wr.heap.size=gb at*
   obtain⟨b0,o0,he0,hc0⟩:=A3.out k _ (gE hlt)
   subst he0
   have HC0:=Hd hc0
   replace hc0:=HX3.out.cell hc0
   have HY0:=Hd (show itv v 1 k=v[k]from nxv_at hlt)
   generalize v[k]=y0 at*
   go_wp2_with fail
   go_loopw[6,7,8] (fun o y n wq=>∃(m:Nat) (u:Value) (yv:Int),1<=m/\m<=v.length/\n=I m/\y=I yv/\o=u/\Hid (itv v m k=yv)/\Hid (OwnI wq w.heap.size u (wayV v k m))/\Hid (∀j,0<j->j<m->itv v j k≠(k:Int))/\Hid (Ext w wq)) (fun _ _ n _=>v.length-(intOf n).toNat)
   case atStart=>exact⟨1,_,y0,Nat.le_refl _,by omega,rfl,rfl,rfl,HY0.out,HO3.out,fun j h1 h2=>by omega,HX3.out⟩
   case round=>
    obtain⟨m,u,y,hm1,hm,rfl,rfl,rfl,HY,HO,HF,HXq⟩:=hrel
    have HM1:=Hd hm1
    have HWL:=Hd (wayV_len v k m)
    obtain⟨ua,ucap,hu,ub1,ub2,-⟩:=HO.out.ints.form
    rw[HWL.out]at hu ub1
    subst hu
    unfold maxLen at ub2
    have HYB:=Hd (itv_ok HOK.out (x:=(k:Int)) ⟨by omega,by omega⟩ m)
    clear hc0
    by_cases hyk:y=(k:Int)
    ·have HYK:=Hd hyk
     have hy0:decide (0<=y)=true:=dT (by omega)
     have hyb:(y==(k:Int))=true:=by rw[hyk];exact beq_self_eq_true _
     have hyn:(y !=(k:Int))=false:=by rw[hyk];exact bne_self_eq_false' _
     have HLI:=Hd (loop_at HOK.out HN.out HM1.out (by rw[HY.out,HYK.out]) HF.out)
     clear hyk
     by_cases hmn:m<v.length
     ·have hmd:decide ((m:Int)<(v.length:Int))=true:=dT (by omega)
      go_wp2_with fail
      go_ret2
      unfold GLoopOut
      exact⟨_,_,rfl,HLI.out,HO.out,HXq.out⟩
     ·have hmd:decide ((m:Int)<(v.length:Int))=false:=dF (by omega)
      go_wp2_with fail
      go_ret2
      unfold GLoopOut
      exact⟨_,_,rfl,HLI.out,HO.out,HXq.out⟩
    ·have hyb:(y==(k:Int))=false:=beq_false_of_ne hyk
     have hyn:(y !=(k:Int))=true:=bne_iff_ne.2 hyk
     have HYK:=Hd hyk
     clear hyk
     by_cases hy0:0<=y
     ·have hyd:decide (0<=y)=true:=dT hy0
      obtain⟨z,rfl⟩:∃z:Nat,y=z:=⟨y.toNat,by omega⟩
      by_cases hmn:m<v.length
      ·have hmd:decide ((m:Int)<(v.length:Int))=true:=dT (by omega)
       have HMN:=Hd hmn
       have hzl:z<v.length:=by
        have h:=HYB.out
        rw[HY.out]at h
        rcases h with h|h
        ·omega
        ·have:=h.2;omega
       obtain⟨b1,o1,he1,hc1⟩:=A3.out z _ (gE hzl)
       cases he1
       have HC1:=Hd hc1
       have HNX:=Hd (show itv v (m+1) k=v[z]by rw[itv_out,HY.out,nxv_at hzl])
       have HST:=Hd (show wayV v k (m+1)=wayV v k m++[(z:Int)]by rw[wayV_step,HY.out])
       generalize v[z]=y2 at*
       have HXA:=Hd ((eR wr).alloc (.cells #[I (z:Int)] 3))
       have HOA:=Hd (show(wr.alloc (.cells #[I (z:Int)] 3)).ownsRow w.heap.size 3 1 (.slice ua m ucap) m (icells (wayV v k m))from by have h:=HO.out.later HXA.out;unfold OwnI at h;rw[HWL.out]at h;exact h)
       have HSRC:=Hd (Reads.made wr 1 3 1 [I (z:Int)] rfl (by unfold maxLen;omega))
       have HSZ:=Hd (show w.heap.size<=(wr.alloc (.cells #[I (z:Int)] 3)).heap.size from(HXq.out.trans HXA.out).size)
       clear hc1
       go_upto_region 13 with(first
        |(at_builtin
          go_loud(
           refine wpList_app rfl (.tmp 41) (.tmp 43) 47 rfl w.heap.size 3 _ 1 8 Tryz.underlying47 infoInt rfl (by decide) (by decide) _ _ _ rfl HOA.out _ _ _ rfl HSRC.out (by intro q hq;simp at hq;subst hq;rfl) (by omega) HSZ.out ?_
           intro v7 w7 ho7 hg7
           have HXG:=Hd (Ext.grown (HXq.out.trans HXA.out) hg7 HOA.out (Nat.le_refl _))
           have HO7:=Hd (show OwnI w7 w.heap.size v7 (wayV v k (m+1))from by
            unfold OwnI
            rw[HST.out,List.length_append,HWL.out,icells_app]
            exact ho7)
           clear ho7 hg7)))
       have hc1:=HXG.out.cell HC1.out
       go_wp2_with fail
       go_roundw
       case rel=>
        refine⟨m+1,_,y2,Nat.succ_le_succ (Nat.zero_le _),Nat.succ_le_of_lt HMN.out,by go_num,rfl,rfl,HNX.out,HO7.out,fun j h1 h2=>?_,HXG.out⟩
        rcases Nat.lt_or_ge j m with g|g
        ·exact HF.out j h1 g
        ·obtain rfl:j=m:=by omega
         rw[HY.out];exact HYK.out
       case measure=>have:=HMN.out;simp[intOf];omega
      ·have hmd:decide ((m:Int)<(v.length:Int))=false:=dF (by omega)
       have HNL:=Hd (no_loop_far HOK.out (k:=k) (m:=m) (by omega) (by rw[HY.out];exact HYK.out) HF.out)
       go_wp2_with fail
       go_roundw
       case rel=>
        refine⟨k+1,Nat.succ_le_of_lt HLT.out,by go_num,fun j hj=>?_,HXq.out⟩
        rcases Nat.lt_or_ge j k with g|g
        ·exact HN.out j g
        ·obtain rfl:j=k:=by omega
         exact HNL.out
       case measure=>have:=HLT.out;simp[intOf];omega
     ·have hyd:decide (0<=y)=false:=dF hy0
      have HNL:=Hd (no_loop_end (k:=k) (m:=m) (show itv v m k= -1 from by
       rcases HYB.out with h|h
       ·exact h
       ·rw[HY.out]at h;exact absurd h.1 hy0))
      by_cases hmn:m<v.length
      ·have hmd:decide ((m:Int)<(v.length:Int))=true:=dT (by omega)
       go_wp2_with fail
       go_roundw
       case rel=>
        refine⟨k+1,Nat.succ_le_of_lt HLT.out,by go_num,fun j hj=>?_,HXq.out⟩
        rcases Nat.lt_or_ge j k with g|g
        ·exact HN.out j g
        ·obtain rfl:j=k:=by omega
         exact HNL.out
       case measure=>have:=HLT.out;simp[intOf];omega
      ·have hmd:decide ((m:Int)<(v.length:Int))=false:=dF (by omega)
       go_wp2_with fail
       go_roundw
       case rel=>
        refine⟨k+1,Nat.succ_le_of_lt HLT.out,by go_num,fun j hj=>?_,HXq.out⟩
        rcases Nat.lt_or_ge j k with g|g
        ·exact HN.out j g
        ·obtain rfl:j=k:=by omega
         exact HNL.out
       case measure=>have:=HLT.out;simp[intOf];omega
  ·have hkd:decide ((k:Int)<(v.length:Int))=false:=dF (by omega)
   have HNL:=Hd (show∀x,¬OnL v x from fun x hx=>by
    have hi:=hx.is HOK.out
    refine HN.out x.toNat (by have h1:=hi.1;have h2:=hi.2;omega) ?_
    rw[Int.toNat_of_nonneg hi.1];exact hx)
   go_wp2_with fail
   go_ret2
   unfold GLoopOut
   exact⟨.slice none 0 0,[],rfl,.inl ⟨rfl,HNL.out⟩,⟨rfl,.inl ⟨rfl,rfl⟩⟩,HX.out⟩
open Go Go.Maps Go.Proofs
theorem r21Net_good(lv:Value)(ls:List (List Rul))(w:World)(hl:TablesAt w lv ls)(hok:TablesOk ls)(hm:netMayV ls=0):
 Calls Tryz.prog 18 #[.agg #[lv]] w (ANetOut ls w):=by
 have HL:=Hd hl
 have HOK:=Hd hok
 have HM:=Hd hm
 have HNB:=Hd (netMay_tabs hm)
 obtain⟨ad,cap,rfl,a1,a2,a3⟩:=hl.form
 clear a3 hl hm hok
 unfold maxLen at a2
 go_enter Tryz.func18,Tryz.ntmps18
 go_upto_region 1 with(fail)
 refine hWp (fun W=>Ext w W/\Blk W w.heap.size [.slice ad ls.length cap] 43/\Blk W (w.heap.size+1) [I 0,sNil,U 0#32,sNil] 49)
  ⟨by(repeat with_reducible first|exact eR _|assumption|refine eA ?_ _|refine eD ?_|refine eW ?_ _|(refine eS ?_ ?_;focus(first|(simp;done)|(simp;omega)|omega))),(Blk.new w [.slice ad ls.length cap] 43).old _,Blk.newAt [I 0,sNil,U 0#32,sNil] (by simp)⟩ (fun W1 hW1=>?_)
 obtain⟨hx1,hb1,hr1⟩:=hW1
 have HX1:=Hd hx1
 have hbc1:=hb1.cells
 have HR1:=Hd hr1
 clear hr1 hx1 hb1
 have HRB:=Hd (show w.heap.size<=w.heap.size+1 from Nat.le_succ _)
 generalize w.heap.size+1=rb at*
 go_upto_region 2 with(first
  |(go_at_call 51;(with_reducible refine(r16Of_good _ ls _ (HL.out.later HX1.out) HOK.out HM.out).mono ?_);rintro e w2 ⟨fv,hv,vv,l,he,hC,hA,hx2⟩;subst he;have HC:=Hd hC;have HA2:=Hd hA;obtain⟨fa,fc,ha,hc,va,vc,hf1,hf2,hf3⟩:=hA.forms;subst hf1;subst hf2;subst hf3;have HX2:=Hd (HX1.out.trans hx2);have HR2:=Hd (HR1.out.later hx2);clear hx2 hC hA))
 clear hbc1
 have HIT:=Hd (atomsIt HC.out)
 have HFEW:=Hd (show(atomsL (vecV ls) l).fr.length<=8193 from by
  have h1:=ats_few (vecV ls) l
  have h2:=HC.out.len
  rw[sizeN_flat]at h2
  have:=HNB.out.2.1
  omega)
 generalize hse:atomsL (vecV ls) l=s at*
 have HSE:=Hd hse
 clear hse
 refine hWp (fun W=>Ext w W/\Blk W rb [I 0,sNil,U 0#32,sNil] 49/\Blk W w2.heap.size [.slice fa s.fr.length fc,.slice ha s.wh.length hc,.slice va s.vs.length vc] 98/\AtomsAt W (.slice fa s.fr.length fc) (.slice ha s.wh.length hc) (.slice va s.vs.length vc) s)
  ⟨HX2.out.alloc _,HR2.out.old _,Blk.new w2 _ 98,HA2.out.later ((eR _).alloc _)⟩ (fun W3 hW3=>?_)
 obtain⟨hx3,hr3,hb3,ha3⟩:=hW3
 have HX3:=Hd hx3
 have HR3:=Hd hr3
 have HB3:=Hd hb3
 have HA3:=Hd ha3
 have hbc3:=hb3.cells
 clear hx3 hr3 hb3 ha3 HA2 HX2 HR2
 generalize w2.heap.size=xb at*
 have hwl8:s.fr.length<=8193:=HFEW.out
 have HRX:=Hd (show rb<W3.heap.size from HR3.out.lt)
 go_upto_region 5 with fail
 refine hWp (fun W=>Ext W3 W/\Blk W W3.heap.size [I 1,sNil,U 0#32,sNil] 49)
  ⟨(eR _).alloc _,Blk.new W3 [I 1,sNil,U 0#32,sNil] 49⟩ (fun W6 hW6=>?_)
 obtain⟨hx6,hk6⟩:=hW6
 have HT6:=Hd (show NtS W3 W6 W3.heap.size sNil [] []from⟨hx6,hk6,⟨rfl,.inl ⟨rfl,rfl⟩⟩,rfl,fun i p r h1 h2=>by cases h1⟩)
 clear hx6 hk6 hbc3
 generalize hkb:W3.heap.size=kb at HT6 ⊢
 have HKE:=Hd hkb
 clear hkb
 go_wp2_with fail
 go_loopw[7] (fun i wr=>∃(k:Nat) (pa:Option Addr) (pc:Nat) (ps:List Prt) (rs:List (List Int)),k<=s.fr.length/\i=I k/\ps.length=k/\Hid (NtS W3 wr kb (.slice pa k pc) ps rs)/\
  Hid (∀(j:Nat) (a:BitVec 32),j<k->s.fr[j]? =some a->(∀x,¬OnL (vecV ls a) x)/\∃p r,ps[j]? =some p/\rs[j]? =some r/\p.fr=a/\p.up=endV s.fr j/\RanksIs (vecV ls a) r)) (fun i _=>s.fr.length-(intOf i).toNat)
 case atStart=>exact⟨0,none,0,[],[],Nat.zero_le _,rfl,rfl,HT6.out,fun j a h=>absurd h (Nat.not_lt_zero j)⟩
 case round=>
  obtain⟨k,pa,pc,ps,rs,hk,rfl,hpl,HT,HPR⟩:=hrel
  have HPL:=Hd hpl
  clear hpl
  have HXT:=Hd HT.out.ext
  have hbc:=(HB3.out.later HXT.out).cells
  by_cases hlt:k<s.fr.length
  ·have hkd:decide ((k:Int)<(s.fr.length:Int))=true:=dT (by omega)
   have HLT:=Hd hlt
   obtain⟨q,hq1,hq2⟩:=HIT.out.inv.place k _ (gE hlt)
   have hql:=(List.getElem?_eq_some_iff.1 hq2).1
   have hwl:k<s.wh.length:=(List.getElem?_eq_some_iff.1 hq1).1
   obtain⟨ha',hc',hhe,-,-,hhf⟩:=HA3.out.wh.form
   obtain⟨b1,o1,he1,hc1⟩:=hhf k _ hq1
   cases hhe
   subst he1
   obtain⟨va',vc',hve,-,-,hvf⟩:=HA3.out.vs.form
   obtain⟨b2,o2,x2,he2,hc2,hi2⟩:=hvf q _ hq2
   cases hve
   subst he2
   obtain⟨ya,yc,rfl,-⟩:=hi2.form
   obtain⟨fa',fc',hfe,-,-,hff⟩:=HA3.out.fr.form
   obtain⟨b0,o0,he0,hc0⟩:=hff k _ (gE hlt)
   cases hfe
   subst he0
   have HC0:=Hd (HXT.out.cell hc0)
   have HI2:=Hd (hi2.later HXT.out)
   have HSF:=Hd (gE hlt)
   have HVO:=Hd (show VOk (vecV ls s.fr[k])/\(vecV ls s.fr[k]).length<=256 from⟨vec_ok HM.out _,by rw[vecV_len];exact HNB.out.1⟩)
   have HEN:=Hd (fun W hW=>r12Ends_any (.slice (some ⟨b0,o0,none⟩) s.fr.length fc) s.fr k W hW hlt)
   replace hc1:=HXT.out.cell hc1
   replace hc2:=HXT.out.cell hc2
   clear hhf hvf hff hi2 hc0 hq1 hq2
   generalize hvv:vecV ls s.fr[k]=v at*
   have HVV:=Hd hvv
   clear hvv
   generalize s.fr[k]=a at*
   generalize hee:endV s.fr k=ee at*
   have HEE:=Hd hee
   clear hee
   have hqb:q<s.vs.length:=hql
   go_upto_region 8 with fail
   clear hbc
   have kB:=(HB3.out.later HXT.out).keep
   have k1:=Ext.keep hc1
   have k2:=Ext.keep hc2
   refine wp_region_E 9 rfl (by kernel_rfl) (by kernel_rfl) ?_
   refine WEi_at 0 ?_
   iterate 9
    refine WEi_q rfl (by decide) (by kernel_rfl) rfl ?_;apply Exists.intro;refine⟨fun w1 hx1=>?_,?_⟩
    ·have hq1:=hx1.cells;go_simp;try go_bits
     first|with_reducible rfl
    go_frame;try simp only[Nat.reduceAdd]
   refine WEi_out ?_
   refine WE_done (by kernel_rfl) (fun w7 hx7=>?_)
   (try simp only[List.drop_succ_cons,List.drop_zero])
   clear kB k1 k2 hc1 hc2
   have HT7:=Hd (HT.out.later hx7)
   have HI7:=Hd (HI2.out.later hx7)
   have HC7:=Hd (hx7.cell HC0.out)
   clear hx7 HT HI2 HC0
   go_upto_region 10 with(first
    |(go_at_call 52;(with_reducible refine(r15Loop_any _ v _ HI7.out HVO.out.1 HVO.out.2).mono ?_);rintro e w8 ⟨u5,tr,he,hl5,ho5,hx5⟩;subst he;have HLI:=Hd hl5;have HO5:=Hd ho5;obtain⟨ta,tc,hte,-⟩:=ho5.ints.form;subst hte;have HT8:=Hd (HT7.out.later hx5);have HC8:=Hd (hx5.cell HC7.out);have HI8:=Hd (HI7.out.later hx5);have HW78:=Hd hx5;clear hl5 ho5 hx5))
   by_cases htr:tr=[]
   ·subst htr
    have HNO:=Hd (LoopIs.nil.1 HLI.out)
    clear HLI
    have hbc:=(HB3.out.later HT8.out.ext).cells
    have HR15:=Hd (show∀W,Ext w8 W->Calls Tryz.prog 54 #[.slice ya v.length yc] W fun e w'=>∃(ra:Option Addr) (rc:Nat) (r:List Int),e=.returned (.tuple #[.slice ra r.length rc,I 0])/\RanksIs v r/\OwnI w' W.heap.size (.slice ra r.length rc) r/\Ext W w' from fun W hW=>by
     refine(r15Ranks_any _ v W (HI8.out.later hW) HVO.out.1 HVO.out.2).mono ?_
     rintro e w' (⟨u,r,he,h2,h3,h4⟩|⟨_,⟨x,hx⟩,_⟩)
     ·obtain⟨ra,rc,rfl,-⟩:=h3.ints.form
      exact⟨ra,rc,r,he,h2,h3,h4⟩
     ·exact absurd hx (HNO.out x))
    go_upto_region 14 with(first
     |(go_at_call 53;refine(HEN.out _ (HA3.out.fr.later HT8.out.ext)).mono ?_;rintro e w9 ⟨he,hx9⟩;subst he;have HX9:=Hd hx9;have HT9:=Hd (HT8.out.later hx9);clear hx9)
     |(go_at_call 54;refine(HR15.out _ HX9.out).mono ?_;rintro e wA ⟨ra,rc,r,he,hrr,hoA,hxA⟩;subst he;have HRI:=Hd hrr;have HOA:=Hd hoA;have HTA:=Hd (HT9.out.later hxA);clear hrr hoA hxA))
    clear hbc
    have hkc:=HTA.out.box.cells
    have HRN:=Hd (show r.length<=1000000 by rw[HRI.out.1];exact Nat.le_trans HVO.out.2 (by decide))
    have HXB:=Hd ((eR wA).alloc (.cells #[U a,U ee,.slice ra r.length rc] 85))
    have HTB:=Hd (HTA.out.later HXB.out)
    have HOB:=Hd (own_later (own_low HOA.out (show kb+1<=w9.heap.size from HT9.out.box.lt)) HXB.out)
    have HSB:=Hd (show Reads (wA.alloc (.cells #[U a,U ee,.slice ra r.length rc] 85)) 3 (.slice (some ⟨wA.heap.size,0,none⟩) 1 1) 1 (Prt.cells ⟨a,ee,ra,r.length,rc⟩)from Reads.made wA 3 85 1 (Prt.cells ⟨a,ee,ra,r.length,rc⟩) rfl (by unfold maxLen;omega))
    have HPO:=Hd (show(wA.alloc (.cells #[U a,U ee,.slice ra r.length rc] 85)).ownsRow (kb+1) 85 3 (.slice pa k pc) k (pcells ps)from by have h:=HTB.out.own;unfold OwnP at h;rw[HPL.out]at h;exact h)
    have HSZ:=Hd (show kb+1<=(wA.alloc (.cells #[U a,U ee,.slice ra r.length rc] 85)).heap.size from HTB.out.box.lt)
    go_wp2_with (first
     |(at_builtin
       go_loud(
        refine wpList_app rfl (.tmp 71) (.tmp 76) 46 rfl (kb+1) 85 _ 3 32 Tryz.underlying46 infoPart rfl (by decide) (by decide) _ _ _ rfl HPO.out _ _ _ rfl HSB.out (fun q hq=>pcells_one [⟨a,ee,ra,r.length,rc⟩] q (by simpa[pcells]using hq)) (by omega) HSZ.out ?_
        intro vC wC hoC hgC
        obtain⟨za,zc,hvC⟩:=own_form hoC
        subst hvC
        have HTC:=Hd (HTB.out.add (p:=⟨a,ee,ra,r.length,rc⟩) (Nat.le_of_eq HKE.out) HOB.out (by rw[HPL.out];exact hoC) hgC)
        have hbC:=blk_grown HTB.out.box (fun g e=>by have:=own_ge HPO.out g e;omega) hgC
        have hkc9:=hbC.cells
        have hkf9:=hbC.frozen
        clear hoC hgC hbC)))
    go_roundw
    case rel=>
     refine⟨k+1,za,zc,ps++[(⟨a,ee,ra,r.length,rc⟩:Prt)],rs++[r],Nat.succ_le_of_lt HLT.out,by go_num,by rw[List.length_append,HPL.out];rfl,HTC.out,fun j b hj hb=>?_⟩
     have hrsl:rs.length=k:=by rw[HTA.out.len,HPL.out]
     have hpsl:=HPL.out
     rcases Nat.lt_or_ge j k with g|g
     ·obtain⟨h0,p,t,h1,h2,h3,h4,h5⟩:=HPR.out j b g hb
      exact⟨h0,p,t,by rw[List.getElem?_append_left (by omega)];exact h1,by rw[List.getElem?_append_left (by omega)];exact h2,h3,h4,h5⟩
     ·obtain rfl:j=k:=by omega
      rw[HSF.out]at hb
      cases hb
      refine⟨by rw[HVV.out];exact HNO.out,(⟨a,ee,ra,r.length,rc⟩:Prt),r,?_,?_,rfl,HEE.out.symm,by rw[HVV.out];exact HRI.out⟩
      ·rw[List.getElem?_append_right (by omega),hpsl,Nat.sub_self];rfl
      ·rw[List.getElem?_append_right (by omega),hrsl,Nat.sub_self];rfl
    case measure=>have:=HLT.out;simp[intOf];omega
   ·have htl:0<tr.length:=List.length_pos_iff.2 htr
    have htd:decide ((0:Int)<(tr.length:Int))=true:=dT (by omega)
    have HTR:=Hd htr
    clear htr
    have HAL:=Hd (show AnaLoop ls s.fr k ⟨2,[],[],a,tr⟩from⟨HSF.out,fun j b hj hb=>(HPR.out j b hj hb).1,by rw[show(Crt.mk 2 [] [] a tr).dest=a from rfl,HVV.out];exact HLI.out,HTR.out,rfl,rfl,rfl⟩)
    have HRW:=Hd (HR3.out.later HT8.out.ext)
    have hrc:=HRW.out.cells
    have hrf:=HRW.out.frozen
    have hc8:=HC8.out
    have hbc:=(HB3.out.later HT8.out.ext).cells
    have HRK7:=Hd (show rb<w7.heap.size from Nat.lt_of_lt_of_le HRX.out HT7.out.ext.size)
    go_wp2_with fail
    refine hideW (Φ:=fun W=>bodyPost Tryz.prog Tryz.f18 (ANetOut ls w) _ _ W) (fun W=>Ext w W/\Blk W rb [I 2,sNil,U a,.slice ta tr.length tc] 49/\IntsAt W (.slice ta tr.length tc) tr)
     ⟨?_,?_,?_⟩ (fun W6 hW6=>?_)
    ·refine Ext.setCell (Ext.setCell (Ext.setCell (Ext.setCell (HX3.out.trans HT8.out.ext) ?_ _) ?_ _) ?_ _) ?_ _<;>exact HRB.out
    ·exact(((HRW.out.set 0 (I 2)).set 1 sNil).set 2 (U a)).set 3 (.slice ta tr.length tc)
    ·have h0:=HRK7.out
     exact OwnI.ints (own_set (own_set (own_set (own_set HO5.out (p:=⟨rb,0,none⟩) h0 _) (p:=⟨rb,1,none⟩) h0 _) (p:=⟨rb,2,none⟩) h0 _) (p:=⟨rb,3,none⟩) h0 _)
    obtain⟨hx6,hr6,ht6⟩:=hW6
    have hc6:=hr6.cells
    refine bodyPost_ret (v:=.tuple #[.agg #[I 2,sNil,U a,.slice ta tr.length tc],I 0]) (by rw[results_cell_tmp rfl];go_simp) rfl ?_
    refine⟨sNil,.slice ta tr.length tc,⟨2,[],[],a,tr⟩,rfl,⟨parts_nil W6,rfl,fun i p r h1 h2=>(by cases h1),ht6⟩,⟨l,HC.out,.inl ⟨k,?_⟩⟩,hx6⟩
    rw[HSE.out];exact HAL.out
  ·have hkd:decide ((k:Int)<(s.fr.length:Int))=false:=dF (by omega)
   have HKL:=Hd (show k=s.fr.length by omega)
   have HRW:=Hd ((HR3.out.later HXT.out))
   have hrc:=HRW.out.cells
   have hrf:=HRW.out.frozen
   have hkc:=HT.out.box.cells
   have HRK2:=Hd (show rb<kb from by rw[<-HKE.out];exact HRX.out)
   go_wp2_with fail
   refine hideW (Φ:=fun W=>bodyPost Tryz.prog Tryz.f18 (ANetOut ls w) _ _ W) (fun W=>Ext w W/\Blk W rb [I 1,.slice pa k pc,U 0#32,sNil] 49/\CertAt W (.slice pa k pc) sNil ⟨1,ps,rs,0#32,[]⟩)
    ⟨?_,?_,?_⟩ (fun W6 hW6=>?_)
   ·refine Ext.setCell (Ext.setCell (Ext.setCell (Ext.setCell (HX3.out.trans HXT.out) ?_ _) ?_ _) ?_ _) ?_ _<;>exact HRB.out
   ·exact(((HRW.out.set 0 (I 1)).set 1 (.slice pa k pc)).set 2 (U 0#32)).set 3 sNil
   ·have h0:rb<kb+1:=Nat.lt_succ_of_lt HRK2.out
    have st:∀(W:World) (o:Nat) (x:Value),OwnP W (kb+1) (.slice pa k pc) ps/\(∀(i:Nat) (p:Prt) (r:List Int),ps[i]? =some p->rs[i]? =some r->OwnI W (kb+1) p.rk r)->
     OwnP (W.setCell ⟨rb,o,none⟩ x) (kb+1) (.slice pa k pc) ps/\(∀(i:Nat) (p:Prt) (r:List Int),ps[i]? =some p->rs[i]? =some r->OwnI (W.setCell ⟨rb,o,none⟩ x) (kb+1) p.rk r):=
     fun W o x h=>⟨own_set h.1 h0 x,fun i p r h1 h2=>own_set (h.2 i p r h1 h2) h0 x⟩
    obtain⟨g1,g2⟩:=st _ 3 sNil (st _ 2 (U 0#32) (st _ 1 (.slice pa k pc) (st _ 0 (I 1) ⟨HT.out.own,HT.out.rk⟩)))
    exact⟨g1.parts,HT.out.len,fun i p r h1 h2=>(g2 i p r h1 h2).ints,Reads.nil _ 1⟩
   obtain⟨hx6,hr6,ht6⟩:=hW6
   have hc6:=hr6.cells
   refine bodyPost_ret (v:=.tuple #[.agg #[I 1,.slice pa k pc,U 0#32,sNil],I 0]) (by rw[results_cell_tmp rfl];go_simp) rfl ?_
   refine⟨.slice pa k pc,sNil,⟨1,ps,rs,0#32,[]⟩,rfl,ht6,⟨l,HC.out,.inr ?_⟩,hx6⟩
   rw[HSE.out]
   refine⟨fun a ha x hx=>?_,rfl,rfl,rfl,by rw[<-HKL.out];exact HPL.out,by rw[<-HKL.out];exact HT.out.len.trans HPL.out,fun i a ha=>(HPR.out i a (by rw[HKL.out];exact(List.getElem?_eq_some_iff.1 ha).1) ha).2⟩
   obtain⟨i,hi⟩:=List.getElem?_of_mem ha
   exact(HPR.out i a (by rw[HKL.out];exact(List.getElem?_eq_some_iff.1 hi).1) hi).1 x hx
end Go.Proofs.YtjflkifodfncmaaGreatDoor
