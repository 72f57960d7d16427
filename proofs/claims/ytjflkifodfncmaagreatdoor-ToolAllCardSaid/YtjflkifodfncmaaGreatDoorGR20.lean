/- R20, R20N: these texts in one. Conditions: each theorem names its own. -/
import Derived.Test.YtjflkifodfncmaaGreatDoorGChk
namespace Go.Proofs.YtjflkifodfncmaaGreatDoor
set_option maxHeartbeats 4000000
set_option maxRecDepth 100000
open Go.RowKit
theorem r20Part_any(lv:Value)(ls:List (List Rul))(p:Prt)(rk:List Int)(l:List (BitVec 32))(w:World)(hl:TablesAt w lv ls)(hok:TablesOk ls)(hs:sizeN ls<=10000000)(hC:Cuts ls.flatten l)(hr:IntsAt w p.rk rk):
 Calls Tryz.prog 75 #[.agg #[lv],p.val] w fun e w'=>e=.returned (I (partV l ls p rk))/\Ext w w':=by
 have HL:=Hd hl
 have HOK:=Hd hok
 have HS:=Hd hs
 have HR:=Hd hr
 have HC:=Hd hC
 obtain⟨ad,cap,rfl,a1,a2,a3⟩:=hl.form
 obtain⟨ra,rc,hre,r1,r2,r3⟩:=hr.form
 have R3:=Hd r3
 have HPTS:=Hd (show∀W,TablesAt W (.slice ad ls.length cap) ls->Calls Tryz.prog 127 #[.agg #[.slice ad ls.length cap],.agg #[U p.fr,U p.up,.slice ra rk.length rc]] W fun e w'=>∃v l,e=.returned v/\Cuts ls.flatten l/\OwnU w' W.heap.size v (insideV l p.fr p.up)/\Ext W w' from fun W h=>by
  rw[<-hre];exact r19Points_any _ p ls W h hok hs)
 show Calls Tryz.prog 75 #[.agg #[.slice ad ls.length cap],.agg #[U p.fr,U p.up,p.rk]] w _
 rw[hre]
 clear a3 r3 hre hl hok hs hr hC
 unfold maxLen at a2 r2
 go_enter Tryz.func75,Tryz.ntmps75
 go_upto_region 1 with(fail)
 refine hWp (fun W=>Ext w W/\Blk W w.heap.size [.slice ad ls.length cap] 43/\Blk W (w.heap.size+1) [U p.fr,U p.up,.slice ra rk.length rc] 85)
  ⟨by(repeat with_reducible first|exact eR _|assumption|refine eA ?_ _|refine eD ?_|refine eW ?_ _|(refine eS ?_ ?_;focus(first|(simp;done)|(simp;omega)|omega))),(Blk.new w [.slice ad ls.length cap] 43).old _,Blk.newAt [U p.fr,U p.up,.slice ra rk.length rc] (by simp)⟩ (fun W1 hW1=>?_)
 obtain⟨hx1,hb1,hk1⟩:=hW1
 have HX1:=Hd hx1
 have HB1:=Hd hb1
 have HK1:=Hd hk1
 clear hx1 hb1 hk1
 generalize w.heap.size+1=pb at*
 generalize w.heap.size=nb at*
 have hbc:=HB1.out.cells
 have hkc:=HK1.out.cells
 by_cases hn:rk.length=ls.length
 ·have hnb:((rk.length:Int) !=(ls.length:Int))=false:=by simp[hn]
  have HV:=Hd (show partV l ls p rk=fallV ls (insideV l p.fr p.up) rk by unfold partV;rw[if_neg (by simp[hn])])
  have HRL:=Hd hn
  clear hn
  go_upto_region 4 with(first
   |(go_at_call 127;(with_reducible refine(HPTS.out _ (HL.out.later HX1.out)).mono ?_);rintro e w2 ⟨v2,l2,he,hC2,hO,hx2⟩;subst he;obtain rfl:=Cuts.at HC.out hC2;have HU2:=Hd hO.us;have HX2:=Hd (HX1.out.trans hx2);have HB2:=Hd (HB1.out.later hx2);have HK2:=Hd (HK1.out.later hx2);clear hC2 hO hx2))
  clear hbc hkc
  have HPT:=Hd (show∃pts,insideV l p.fr p.up=pts from⟨_,rfl⟩)
  obtain⟨pts,hpts⟩:=HPT.out
  rw[hpts]at HU2 HV
  clear HPT hpts
  obtain⟨pa,pc,rfl,p1,p2,p3⟩:=HU2.out.form
  have P3:=Hd p3
  unfold maxLen at p2
  clear p3
  go_wp2_with fail
  go_loopw[6] (fun i wr=>∃k:Nat,k<=pts.length/\i=I k/\Hid (∀a∈pts.take k,∀v,v<ls.length->badS ls rk a v=false)/\Hid (Ext w2 wr)) (fun i _=>pts.length-(intOf i).toNat)
  case atStart=>exact⟨0,by omega,rfl,fun a h=>by simp at h,eR _⟩
  case round=>
   obtain⟨k,hk,rfl,HG,HX⟩:=hrel
   by_cases hlt:k<pts.length
   ·have hkd:decide ((k:Int)<(pts.length:Int))=true:=dT (by omega)
    obtain⟨b0,o0,he0,q0⟩:=P3.out k _ (gE hlt)
    subst he0
    have HQ0:=Hd q0
    clear q0
    have HNX:=Hd (pts_next hlt HG.out)
    have HBD:=Hd (fun v hv h=>fallV_bad (ls:=ls) (rk:=rk) (v:=v) hlt hv h)
    generalize pts[k]=a at*
    go_wp2_with fail
    go_loopw[7] (fun i wr=>∃v:Nat,v<=ls.length/\i=I v/\Hid (∀u,u<v->badS ls rk a u=false)/\Hid (Ext w2 wr)) (fun i _=>ls.length-(intOf i).toNat)
    case atStart=>exact⟨0,by omega,rfl,fun u h=>by omega,HX.out⟩
    case round=>
     obtain⟨v,hv,rfl,HV2,HXV⟩:=hrel
     have HBv:=Hd (HB2.out.later HXV.out)
     have HKv:=Hd (HK2.out.later HXV.out)
     have hbv:=HBv.out.cells
     by_cases hvl:v<ls.length
     ·have hvd:decide ((v:Int)<(ls.length:Int))=true:=dT (by omega)
      have HXW:=Hd (HX2.out.trans HXV.out)
      have HLV:=Hd (HL.out.later HXW.out)
      have hvr:v<rk.length:=by rw[HRL.out];exact hvl
      obtain⟨b1,o1,he1,q1⟩:=R3.out v _ (gE hvr)
      subst he1
      have HGV:=Hd (show rk.getD v 0=rk[v]by rw[List.getD_eq_getElem?_getD,gE hvr];rfl)
      have Q1:=Hd (HXW.out.cell q1)
      have HBS:=Hd (show badS ls rk a v=match stepN ls a v with|none=>false|some x=>badX ls.length rk v x from rfl)
      have Q0:=Hd (HXV.out.cell HQ0.out)
      clear q1
      generalize rk[v]=rv at*
      go_upto_region 10 with(fail)
      refine wp_region_E 11 rfl (by kernel_rfl) (by kernel_rfl) ?_
      have k1:=HBv.out.keep
      have k2:=Ext.keep Q0.out
      refine WEi_at 0 ?_
      iterate 11
       refine WEi_q rfl (by decide) (by kernel_rfl) rfl ?_;apply Exists.intro;refine⟨fun w1 hx1=>?_,?_⟩
       ·have hq1:=hx1.cells;go_simp;try go_bits
        first|with_reducible rfl|(refine(r09Step_any _ ls a v _ (HLV.out.later hx1) HOK.out).mono ?_;rintro e w' ⟨rfl,hx⟩;exact⟨rfl,hx⟩)
       go_frame;try simp only[Nat.reduceAdd]
      refine WEi_out ?_
      refine WE_done (by kernel_rfl) (fun w5 hx5=>?_)
      (try simp only[List.drop_succ_cons,List.drop_zero])
      clear k1 k2 hbv
      have HX5:=Hd (HXV.out.trans hx5)
      have HY5:=Hd hx5
      clear hx5
      have HB5:=Hd (HB2.out.later HX5.out)
      have HK5:=Hd (HK2.out.later HX5.out)
      cases hs:stepN ls a v with
      |none=>
       have HOKV:=Hd (show badS ls rk a v=false by rw[HBS.out,hs])
       clear hs
       go_upto_region 11 with(fail)
       refine wp_region_E 24 rfl (by kernel_rfl) (by kernel_rfl) ?_
       refine WEi_at 0 ?_
       iterate 2
        refine WEi_q rfl (by decide) (by kernel_rfl) rfl ?_;apply Exists.intro;refine⟨fun w1 hx1=>?_,?_⟩
        ·have hq1:=hx1.cells;go_simp;try go_bits
         first|with_reducible rfl
        go_frame;try simp only[Nat.reduceAdd]
       refine WEi_out ?_
       refine WEi_at 2 ?_
       iterate 22
        refine WEi_s rfl (by decide) (by kernel_rfl) rfl ?_
        go_frame;try simp only[Nat.reduceAdd]
       refine WEi_out ?_
       refine WE_done (by kernel_rfl) (fun w9 hx9=>?_)
       (try simp only[List.drop_succ_cons,List.drop_zero])
       go_wp2_with fail
       go_roundw
       case rel=>
        refine⟨v+1,by omega,by go_num,?_,HX5.out.trans hx9⟩
        intro u hu
        rcases Nat.lt_or_ge u v with g|g
        ·exact HV2.out u g
        ·rw[show u=v by omega];exact HOKV.out
       case measure=>simp[intOf];omega
      |some x=>
       have HBX:=Hd (show badS ls rk a v=badX ls.length rk v x by rw[HBS.out,hs])
       clear hs
       go_upto_region 11 with(fail)
       go_cut[67] (fun c wc=>c=.bool (badX ls.length rk v x)/\Hid (Ext w5 wc))
       case first=>
        by_cases h1:x<0
        ·have d1:decide (x<0)=true:=dT h1
         have HR2:=Hd (show badX ls.length rk v x=true by unfold badX;rw[d1];rfl)
         clear h1
         refine wp_region_E 24 rfl (by kernel_rfl) (by kernel_rfl) ?_
         refine WEi_at 0 ?_
         iterate 5
          refine WEi_q rfl (by decide) (by kernel_rfl) rfl ?_;apply Exists.intro;refine⟨fun w1 hx1=>?_,?_⟩
          ·have hq1:=hx1.cells;go_simp;try go_bits
           first|with_reducible rfl
          go_frame;try simp only[Nat.reduceAdd]
         refine WEi_out ?_
         refine WEi_at 5 ?_
         iterate 5
          refine WEi_s rfl (by decide) (by kernel_rfl) rfl ?_
          go_frame;try simp only[Nat.reduceAdd]
         refine WEi_out ?_
         refine WEi_at 10 ?_
         iterate 2
          refine WEi_q rfl (by decide) (by kernel_rfl) rfl ?_;apply Exists.intro;refine⟨fun w1 hx1=>?_,?_⟩
          ·have hq1:=hx1.cells;go_simp;try go_bits
           first|with_reducible rfl
          go_frame;try simp only[Nat.reduceAdd]
         refine WEi_out ?_
         refine WEi_at 12 ?_
         iterate 11
          refine WEi_s rfl (by decide) (by kernel_rfl) rfl ?_
          go_frame;try simp only[Nat.reduceAdd]
         refine WEi_out ?_
         refine WE_q 23 rfl (by decide) (by kernel_rfl) rfl ?_;apply Exists.intro;refine⟨fun w1 hx1=>?_,?_⟩
         ·have hq1:=hx1.cells;go_simp;try go_bits
          first|with_reducible rfl
         go_frame
         refine WE_done (by kernel_rfl) (fun w9 hx9=>?_)
         (try simp only[List.drop_succ_cons,List.drop_zero])
         go_wp2_with fail
         go_meet
         case rel=>exact⟨by rw[HR2.out],hx9⟩
        ·have d1:decide (x<0)=false:=dF h1
         by_cases h2:(ls.length:Int)<=x
         ·have d2:decide ((ls.length:Int)<=x)=true:=dT h2
          have HR2:=Hd (show badX ls.length rk v x=true by unfold badX;rw[d1,d2];rfl)
          clear h1 h2
          refine wp_region_E 24 rfl (by kernel_rfl) (by kernel_rfl) ?_
          have k1:=HB5.out.keep
          refine WEi_at 0 ?_
          iterate 12
           refine WEi_q rfl (by decide) (by kernel_rfl) rfl ?_;apply Exists.intro;refine⟨fun w1 hx1=>?_,?_⟩
           ·have hq1:=hx1.cells;go_simp;try go_bits
            first|with_reducible rfl
           go_frame;try simp only[Nat.reduceAdd]
          refine WEi_out ?_
          refine WEi_at 12 ?_
          iterate 11
           refine WEi_s rfl (by decide) (by kernel_rfl) rfl ?_
           go_frame;try simp only[Nat.reduceAdd]
          refine WEi_out ?_
          refine WE_q 23 rfl (by decide) (by kernel_rfl) rfl ?_;apply Exists.intro;refine⟨fun w1 hx1=>?_,?_⟩
          ·have hq1:=hx1.cells;go_simp;try go_bits
           first|with_reducible rfl
          go_frame
          refine WE_done (by kernel_rfl) (fun w9 hx9=>?_)
          (try simp only[List.drop_succ_cons,List.drop_zero])
          clear k1
          go_wp2_with fail
          go_meet
          case rel=>exact⟨by rw[HR2.out],hx9⟩
         ·have d2:decide ((ls.length:Int)<=x)=false:=dF h2
          obtain⟨xn,rfl⟩:∃xn:Nat,x=xn:=⟨x.toNat,by omega⟩
          have hxn:xn<ls.length:=by omega
          have d2n:decide (ls.length<=xn)=false:=dF (by omega)
          have hxr:xn<rk.length:=by rw[HRL.out];exact hxn
          obtain⟨b2,o2,he2,q2⟩:=R3.out xn _ (gE hxr)
          simp only[Option.some.injEq,Addr.mk.injEq,and_true]at he2
          obtain⟨rfl,rfl⟩:=he2
          have Q2:=Hd (HX5.out.cell (HX2.out.cell q2))
          have HGX:=Hd (show rk.getD xn 0=rk[xn]by rw[List.getD_eq_getElem?_getD,gE hxr];rfl)
          have HR2:=Hd (show badX ls.length rk v xn=decide (rv<=rk[xn])by unfold badX;rw[d1,d2,HGV.out,Int.toNat_natCast,HGX.out];rfl)
          clear h1 h2 q2
          generalize rk[xn]=rx at*
          refine wp_region_E 24 rfl (by kernel_rfl) (by kernel_rfl) ?_
          have k1:=HB5.out.keep
          have k2:=HK5.out.keep
          have k3:=Ext.keep Q2.out
          have k4:=Ext.keep (HY5.out.cell Q1.out)
          refine WEi_at 0 ?_
          iterate 24
           refine WEi_q rfl (by decide) (by kernel_rfl) rfl ?_;apply Exists.intro;refine⟨fun w1 hx1=>?_,?_⟩
           ·have hq1:=hx1.cells;go_simp;try go_bits
            first|with_reducible rfl
           go_frame;try simp only[Nat.reduceAdd]
          refine WEi_out ?_
          refine WE_done (by kernel_rfl) (fun w9 hx9=>?_)
          (try simp only[List.drop_succ_cons,List.drop_zero])
          clear k1 k2 k3 k4
          go_wp2_with fail
          go_meet
          case rel=>exact⟨by rw[HR2.out],hx9⟩
       case rest=>
        obtain⟨rfl,HXC⟩:=hcut
        cases hbx:badX ls.length rk v x with
        |true=>
         have HR2:=Hd (HBD.out v hvl (HBX.out.trans hbx))
         clear hbx
         go_wp2_with fail
         go_ret
         exact⟨by rw[HV.out,HR2.out];rfl,HX2.out.trans (HX5.out.trans HXC.out)⟩
        |false=>
         have HOKV:=Hd (HBX.out.trans hbx)
         clear hbx
         go_wp2_with fail
         go_roundw
         case rel=>
          refine⟨v+1,by omega,by go_num,?_,HX5.out.trans HXC.out⟩
          intro u hu
          rcases Nat.lt_or_ge u v with g|g
          ·exact HV2.out u g
          ·rw[show u=v by omega];exact HOKV.out
         case measure=>simp[intOf];omega
     ·have hvd:decide ((v:Int)<(ls.length:Int))=false:=dF (by omega)
      have hvn:decide (v<ls.length)=false:=dF hvl
      have HND:=Hd (HNX.out (fun u hu=>HV2.out u (by omega)))
      go_wp2_with fail
      go_roundw
      case rel=>exact⟨k+1,by omega,by go_num,HND.out,HXV.out⟩
      case measure=>simp[intOf];omega
   ·have hkd:decide ((k:Int)<(pts.length:Int))=false:=dF (by omega)
    have hkn:decide (k<pts.length)=false:=dF hlt
    have HE:=Hd (fallV_ok HG.out (show pts.length<=k by omega))
    go_wp2_with fail
    go_ret
    exact⟨by rw[HV.out,HE.out];rfl,HX2.out.trans HX.out⟩
 ·have hnb:((rk.length:Int) !=(ls.length:Int))=true:=by simp;omega
  have HV:=Hd (show partV l ls p rk=1 by unfold partV;rw[if_pos hn])
  clear hn
  go_wp2_with fail
  go_ret
  exact⟨by rw[HV.out];rfl,HX1.out⟩
theorem r20Trace_any(lv tv:Value)(ls:List (List Rul))(dest:BitVec 32)(tr:List Int)(w:World)(hl:TablesAt w lv ls)(hok:TablesOk ls)(ht:IntsAt w tv tr):
 Calls Tryz.prog 76 #[.agg #[lv],U dest,tv] w fun e w'=>e=.returned (I (traceV ls dest tr))/\Ext w w':=by
 have HL:=Hd hl
 have HOK:=Hd hok
 obtain⟨ad,cap,rfl,a1,a2,a3⟩:=hl.form
 obtain⟨ta,tc,rfl,t1,t2,t3⟩:=ht.form
 have T3:=Hd t3
 clear a3 t3 hl hok ht
 unfold maxLen at a2 t2
 go_enter Tryz.func76,Tryz.ntmps76
 go_upto_region 1 with(fail)
 refine hBk w [.slice ad ls.length cap] 43 (fun W1 hW1=>?_)
 obtain⟨hx1,hb1⟩:=hW1
 have HX1:=Hd hx1
 have HB1:=Hd hb1
 clear hx1 hb1
 generalize w.heap.size=nb at*
 go_wp2_with fail
 go_loopw[7] (fun i wr=>∃k:Nat,k<=tr.length/\i=I k/\Hid (∀i,i<k->trOkV ls dest tr i=true)/\Hid (Ext W1 wr)) (fun i _=>tr.length-(intOf i).toNat)
 case atStart=>exact⟨0,by omega,rfl,fun i h=>by omega,eR _⟩
 case round=>
  obtain⟨k,hk,rfl,HG,HX⟩:=hrel
  have HBr:=Hd (HB1.out.later HX.out)
  by_cases hlt:k<tr.length
  ·have hkd:decide ((k:Int)<(tr.length:Int))=true:=dT (by omega)
   have HXE:=Hd (HX1.out.trans HX.out)
   obtain⟨b0,o0,he0,q0⟩:=T3.out k _ (gE hlt)
   subst he0
   have Q0:=Hd (HXE.out.cell q0)
   have hm:(k+1)%tr.length<tr.length:=Nat.mod_lt _ (by omega)
   obtain⟨b1,o1,he1,q1⟩:=T3.out ((k+1)%tr.length) _ (gE hm)
   simp only[Option.some.injEq,Addr.mk.injEq,and_true]at he1
   obtain⟨rfl,rfl⟩:=he1
   have Q1:=Hd (HXE.out.cell q1)
   have HTO:=Hd (show trOkV ls dest tr k=decide (stepN ls dest tr[k]=some tr[(k+1)%tr.length])by
    unfold trOkV
    rw[List.getD_eq_getElem?_getD,gE hlt,List.getD_eq_getElem?_getD,gE hm];rfl)
   have HNO:=Hd (fun h=>traceV_no (ls:=ls) (dest:=dest) hlt h)
   have HNX:=Hd (show trOkV ls dest tr k=true->∀i,i<k+1->trOkV ls dest tr i=true from fun h i hi=>by
    rcases Nat.lt_or_ge i k with g|g
    ·exact HG.out i g
    ·rw[show i=k by omega];exact h)
   have hmod:((k:Int)+1)%(tr.length:Int)=(((k+1)%tr.length:Nat):Int):=by rw[Int.natCast_emod];rfl
   have hlz:(tr.length:Int)≠0:=by omega
   clear q0 q1
   generalize tr[k]=v at*
   generalize tr[(k+1)%tr.length]=y at*
   generalize (k+1)%tr.length=m at*
   have HLV:=Hd (HL.out.later HXE.out)
   go_upto_region 4 with(fail)
   refine wp_region_E 11 rfl (by kernel_rfl) (by kernel_rfl) ?_
   have k1:=HBr.out.keep
   have k2:=Ext.keep Q0.out
   refine WEi_at 0 ?_
   iterate 11
    refine WEi_q rfl (by decide) (by kernel_rfl) rfl ?_;apply Exists.intro;refine⟨fun w1 hx1=>?_,?_⟩
    ·have hq1:=hx1.cells;go_simp;try go_bits
     first|with_reducible rfl|(refine(r09Step_any _ ls dest v _ (HLV.out.later hx1) HOK.out).mono ?_;rintro e w' ⟨rfl,hx⟩;exact⟨rfl,hx⟩)
    go_frame;try simp only[Nat.reduceAdd]
   refine WEi_out ?_
   refine WE_done (by kernel_rfl) (fun w5 hx5=>?_)
   (try simp only[List.drop_succ_cons,List.drop_zero])
   clear k1 k2
   have HX5:=Hd (HX.out.trans hx5)
   have q1:=hx5.cell Q1.out
   clear hx5
   cases hs:stepN ls dest v with
   |none=>
    have HR:=Hd (HNO.out (by rw[HTO.out,hs];rfl))
    clear hs
    go_wp2_with fail
    go_ret
    exact⟨by rw[HR.out];rfl,HX1.out.trans HX5.out⟩
   |some x=>
    by_cases hxy:x=y
    ·have hxb:(x !=y)=false:=by simp[hxy]
     have HR:=Hd (HNX.out (by rw[HTO.out,hs,hxy];simp))
     clear hs hxy
     go_wp2_with fail
     go_roundw
     case rel=>exact⟨k+1,by omega,by go_num,HR.out,HX5.out⟩
     case measure=>simp[intOf];omega
    ·have hxb:(x !=y)=true:=by simp[hxy]
     have HR:=Hd (HNO.out (by rw[HTO.out,hs];exact dF (fun e=>hxy (Option.some.inj e))))
     clear hs hxy
     go_wp2_with fail
     go_ret
     exact⟨by rw[HR.out];rfl,HX1.out.trans HX5.out⟩
  ·have hkd:decide ((k:Int)<(tr.length:Int))=false:=dF (by omega)
   have hkn:decide (k<tr.length)=false:=dF hlt
   by_cases h0:tr.length=0
   ·have hb0:((tr.length:Int)==0)=true:=by simp[h0]
    have HV:=Hd (show traceV ls dest tr=17 by unfold traceV;rw[if_pos h0])
    clear h0
    go_wp2_with fail
    go_ret
    exact⟨by rw[HV.out];rfl,HX1.out.trans HX.out⟩
   ·have hb0:((tr.length:Int)==0)=false:=beq_false_of_ne (by omega)
    have HE:=Hd (traceV_yes (ls:=ls) (dest:=dest) (show 0<tr.length by omega) (fun i hi=>HG.out i (by omega)))
    clear h0
    go_wp2_with fail
    go_ret
    exact⟨by rw[HE.out];rfl,HX1.out.trans HX.out⟩
theorem certMay_loops{n:Int}{c:Crt}(h:certMayV n c=0)(h2:c.vd=2):c.ps.length=0:=by
 unfold certMayV at h
 rw[if_neg (by omega),if_pos h2]at h
 unfold loopsV at h
 split at h
 ·cases h
 ·omega
theorem r20Net_any(lv pv tv:Value)(ls:List (List Rul))(c:Crt)(l:List (BitVec 32))(w:World)(hl:TablesAt w lv ls)(hok:TablesOk ls)(hs:sizeN ls<=10000000)(hC:Cuts ls.flatten l)(hc:CertAt w pv tv c):
 Calls Tryz.prog 27 #[.agg #[lv],.agg #[I c.vd,pv,U c.dest,tv]] w fun e w'=>e=.returned (.agg #[I (ansV l ls c).1,I (ansV l ls c).2])/\Ext w w':=by
 have HL:=Hd hl
 have HOK:=Hd hok
 have HS:=Hd hs
 have HC:=Hd hC
 have HCT:=Hd hc
 obtain⟨ad,cap,rfl,a1,a2,a3⟩:=hl.form
 obtain⟨pa,pc,rfl,p1,p2,p3⟩:=hc.parts.form
 obtain⟨ta,tc,rfl,t1,t2,t3⟩:=hc.tr.form
 have P3:=Hd p3
 clear a3 p3 t3 hl hok hs hC hc
 unfold maxLen at a2 p2 t2
 go_enter Tryz.func27,Tryz.ntmps27
 go_upto_region 1 with(fail)
 refine hWp (fun W=>Ext w W/\Blk W w.heap.size [.slice ad ls.length cap] 43/\Blk W (w.heap.size+1) [I c.vd,.slice pa c.ps.length pc,U c.dest,.slice ta c.tr.length tc] 49/\Blk W (w.heap.size+2) [.int .i64 0,.int .i64 0] 33)
  ⟨by(repeat with_reducible first|exact eR _|assumption|refine eA ?_ _|refine eD ?_|refine eW ?_ _|(refine eS ?_ ?_;focus(first|(simp;done)|(simp;omega)|omega))),((Blk.new w [.slice ad ls.length cap] 43).old _).old _,(Blk.newAt [I c.vd,.slice pa c.ps.length pc,U c.dest,.slice ta c.tr.length tc] (by simp)).old _,Blk.newAt [.int .i64 0,.int .i64 0] (by simp)⟩ (fun W1 hW1=>?_)
 obtain⟨hx1,hb1,hk1,hr1⟩:=hW1
 have HX1:=Hd hx1
 have HB1:=Hd hb1
 have HK1:=Hd hk1
 have HR1:=Hd hr1
 have HSC:=Hd (show∀(A:World) (o:Nat) (u:Value),Ext w A->Ext w (A.setCell ⟨w.heap.size+2,o,none⟩ u)from fun A o u h=>h.setCell (by show w.heap.size<=w.heap.size+2;omega) u)
 clear hx1 hb1 hk1 hr1
 generalize w.heap.size+2=rb at*
 generalize w.heap.size+1=cb at*
 generalize w.heap.size=nb at*
 have HEND:=Hd (show∀(W:World) (x y:Int),Ext W1 W->Ext w ((W.setCell ⟨rb,0,none⟩ (I x)).setCell ⟨rb,1,none⟩ (I y))/\Blk ((W.setCell ⟨rb,0,none⟩ (I x)).setCell ⟨rb,1,none⟩ (I y)) rb [I x,I y] 33 from fun W x y hx=>
  ⟨HSC.out _ _ _ (HSC.out _ _ _ (HX1.out.trans hx)),((HR1.out.later hx).set 0 (I x)).set 1 (I y)⟩)
 have hbc:=HB1.out.cells
 have HSZ:=Hd (Nat.le_trans HS.out (by decide:10000000<=100000000))
 go_upto_region 2 with(first
  |(go_at_call 50;(with_reducible refine(r09May_any _ ls _ (HL.out.later HX1.out) HOK.out HSZ.out).mono ?_);rintro e w2 ⟨he,hx2⟩;subst he;have HX2:=Hd hx2;clear hx2))
 clear hbc
 by_cases h1:netMayV ls=0
 ·have HM:=Hd h1
  rw[h1]
  clear h1
  have hbc2:=(HB1.out.later HX2.out).cells
  have hkc2:=(HK1.out.later HX2.out).cells
  have HC2:=Hd (HCT.out.later (HX1.out.trans HX2.out))
  go_upto_region 5 with(first
   |(go_at_call 55;(with_reducible refine(r17May_any _ _ c ls.length _ HC2.out).mono ?_);rintro e w3 ⟨he,hx3⟩;subst he;have HX3:=Hd (HX2.out.trans hx3);clear hx3))
  clear hbc2 hkc2
  by_cases h2:certMayV ls.length c=0
  ·have HM2:=Hd h2
   have HVC:=Hd (certMay_vd h2)
   rw[h2]
   have HAV:=Hd (show ansV l ls c=if c.vd=1 then(if partsZ l ls (c.ps.zip c.rks)≠0 then(0,partsZ l ls (c.ps.zip c.rks))else(1,0))else if traceV ls c.dest c.tr≠0 then(0,17)else(c.vd,0)by unfold ansV;rw[if_neg (by rw[HM.out];simp),if_neg (by rw[h2];simp)])
   have HPL:=Hd (show c.vd=2->c.ps.length=0 from fun h=>certMay_loops h2 h)
   clear h2
   go_wp2_with fail
   go_loopw[6] (fun i wr=>∃k:Nat,k<=c.ps.length/\i=I k/\Hid (partsZ l ls (c.ps.zip c.rks)=partsZ l ls ((c.ps.zip c.rks).drop k))/\Hid (Ext W1 wr)) (fun i _=>c.ps.length-(intOf i).toNat)
   case atStart=>exact⟨0,by omega,rfl,rfl,HX3.out⟩
   case round=>
    obtain⟨k,hk,rfl,HG,HX⟩:=hrel
    have HKr:=Hd (HK1.out.later HX.out)
    have HBr:=Hd (HB1.out.later HX.out)
    have HRr:=Hd (HR1.out.later HX.out)
    have HCr:=Hd (HCT.out.later (HX1.out.trans HX.out))
    have HLr:=Hd (HL.out.later (HX1.out.trans HX.out))
    have hkc:=HKr.out.cells
    have hrc:=HRr.out.cells
    have hrf:=HRr.out.frozen
    by_cases hlt:k<c.ps.length
    ·have hkd:decide ((k:Int)<(c.ps.length:Int))=true:=dT (by omega)
     have hv1:c.vd=1:=by
      rcases HVC.out with h|h
      ·exact h.1
      ·have:=HPL.out h;omega
     have HV1:=Hd hv1
     clear hv1
     have hkr:k<c.rks.length:=by rw[HCT.out.len];exact hlt
     obtain⟨b0,o0,he0,q0,q1,q2⟩:=P3.out k _ (gE hlt)
     subst he0
     have Q0:=Hd ((HX1.out.trans HX.out).cell q0)
     have Q1:=Hd ((HX1.out.trans HX.out).cell q1)
     have Q2:=Hd ((HX1.out.trans HX.out).cell q2)
     have HIK:=Hd (HCr.out.rk k _ _ (gE hlt) (gE hkr))
     have HST:=Hd (partsZ_step (l:=l) (ls:=ls) hlt hkr)
     clear q0 q1 q2
     generalize c.ps[k]=p at*
     generalize c.rks[k]=r at*
     go_upto_region 10 with(fail)
     refine wp_region_E 6 rfl (by kernel_rfl) (by kernel_rfl) ?_
     have k1:=HBr.out.keep
     have k2:=HKr.out.keep
     have k3:=Ext.keep Q0.out
     have k4:=Ext.keep Q1.out
     have k5:=Ext.keep Q2.out
     refine WEi_at 0 ?_
     iterate 6
      refine WEi_q rfl (by decide) (by kernel_rfl) rfl ?_;apply Exists.intro;refine⟨fun w1 hx1=>?_,?_⟩
      ·have hq1:=hx1.cells;go_simp;try go_bits
       first|with_reducible rfl
      go_frame;try simp only[Nat.reduceAdd]
     refine WEi_out ?_
     refine WE_done (by kernel_rfl) (fun w5 hx5=>?_)
     (try simp only[List.drop_succ_cons,List.drop_zero])
     clear k1 k2 k3 k4 k5 hkc hrc hrf
     have HPT:=Hd (r20Part_any (.slice ad ls.length cap) ls p r l w5 (HLr.out.later hx5) HOK.out HS.out HC.out (HIK.out.later hx5))
     have HX5:=Hd (HX.out.trans hx5)
     clear hx5
     by_cases hz:partV l ls p r=0
     ·have HZ:=Hd hz
      have HR2:=Hd (show partsZ l ls (c.ps.zip c.rks)=partsZ l ls ((c.ps.zip c.rks).drop (k+1))by rw[HG.out,HST.out,if_neg (by rw[hz];simp)])
      clear hz
      go_wp2_with (first
       |(go_at_call 75;(with_reducible refine HPT.out.mono ?_);rintro e w6 ⟨he,hx6⟩;rw[HZ.out]at he;subst he;have HX6:=Hd (HX5.out.trans hx6);clear hx6))
      go_roundw
      case rel=>exact⟨k+1,by omega,by go_num,HR2.out,HX6.out⟩
      case measure=>simp[intOf];omega
     ·have HR2:=Hd (show partsZ l ls (c.ps.zip c.rks)=partV l ls p r by rw[HG.out,HST.out,if_pos hz])
      have HA2:=Hd (show ansV l ls c=(0,partV l ls p r)by rw[HAV.out,if_pos HV1.out,if_pos (by rw[HR2.out];exact hz),HR2.out])
      have hzb:(partV l ls p r !=0)=true:=by simp[hz]
      clear hz
      generalize partV l ls p r=z at*
      go_upto_region 11 with(first
       |(go_at_call 75;(with_reducible refine HPT.out.mono ?_);rintro e w6 ⟨he,hx6⟩;subst he;have HX6:=Hd (HX5.out.trans hx6);clear hx6))
      have hrc6:=(HR1.out.later HX6.out).cells
      have hrf6:=(HR1.out.later HX6.out).frozen
      go_wp2_with fail
      rw[HA2.out]
      refine hideW (Φ:=fun W=>bodyPost _ _ _ _ _ W) (fun W=>Ext w W/\Blk W rb [I 0,I z] 33) (HEND.out _ _ _ HX6.out) (fun W9 hW9=>?_)
      have hc9:=hW9.2.cells
      refine bodyPost_ret (v:=.agg #[I 0,I z]) (by rw[results_cell1 rfl];go_simp) rfl ?_
      exact⟨rfl,hW9.1⟩
    ·have hkd:decide ((k:Int)<(c.ps.length:Int))=false:=dF (by omega)
     have hkn:decide (k<c.ps.length)=false:=dF hlt
     have HPZ:=Hd (HG.out.trans (partsZ_end (show c.ps.length<=k by omega)))
     rcases HVC.out with⟨h3,_,_⟩|h3
     ·have h3c:(c.vd==2)=false:=beq_false_of_ne (by omega)
      have HA2:=Hd (show ansV l ls c=(1,0)by rw[HAV.out,if_pos h3,if_neg (by rw[HPZ.out];simp)])
      have HVD:=Hd h3
      clear h3
      go_wp2_with fail
      rw[HA2.out]
      refine hideW (Φ:=fun W=>bodyPost _ _ _ _ _ W) (fun W=>Ext w W/\Blk W rb [I c.vd,I 0] 33) (HEND.out _ _ _ HX.out) (fun W9 hW9=>?_)
      have hc9:=hW9.2.cells
      refine bodyPost_ret (v:=.agg #[I c.vd,I 0]) (by rw[results_cell1 rfl];go_simp) rfl ?_
      exact⟨by rw[HVD.out],hW9.1⟩
     ·have h3c:(c.vd==2)=true:=by simp[h3]
      have HA1:=Hd (show ansV l ls c=if traceV ls c.dest c.tr≠0 then(0,17)else(c.vd,0)by rw[HAV.out,if_neg (by omega)])
      have hbr:=HBr.out.cells
      clear h3
      rcases traceV_two ls c.dest c.tr with h6|h6
      ·have HP:=Hd h6
       have HA2:=Hd (show ansV l ls c=(c.vd,0)by rw[HA1.out,if_neg (by rw[h6];simp)])
       clear h6
       go_upto_if 52 with(first
        |(go_at_call 76;(with_reducible refine(r20Trace_any _ _ ls c.dest c.tr _ HLr.out HOK.out HCr.out.tr).mono ?_);rintro e w4 ⟨he,hx4⟩;rw[HP.out]at he;subst he;have HX4:=Hd (HX.out.trans hx4);clear hx4))
       clear hbr hkc hrc hrf
       have hkc4:=(HK1.out.later HX4.out).cells
       have hrc4:=(HR1.out.later HX4.out).cells
       have hrf4:=(HR1.out.later HX4.out).frozen
       go_wp2_with fail
       rw[HA2.out]
       refine hideW (Φ:=fun W=>bodyPost _ _ _ _ _ W) (fun W=>Ext w W/\Blk W rb [I c.vd,I 0] 33) (HEND.out _ _ _ HX4.out) (fun W9 hW9=>?_)
       have hc9:=hW9.2.cells
       refine bodyPost_ret (v:=.agg #[I c.vd,I 0]) (by rw[results_cell1 rfl];go_simp) rfl ?_
       exact⟨rfl,hW9.1⟩
      ·have HP:=Hd h6
       have HA2:=Hd (show ansV l ls c=(0,17)by rw[HA1.out,if_pos (by rw[h6];simp)])
       clear h6
       go_upto_if 52 with(first
        |(go_at_call 76;(with_reducible refine(r20Trace_any _ _ ls c.dest c.tr _ HLr.out HOK.out HCr.out.tr).mono ?_);rintro e w4 ⟨he,hx4⟩;rw[HP.out]at he;subst he;have HX4:=Hd (HX.out.trans hx4);clear hx4))
       clear hbr hkc hrc hrf
       have hrc4:=(HR1.out.later HX4.out).cells
       have hrf4:=(HR1.out.later HX4.out).frozen
       go_wp2_with fail
       rw[HA2.out]
       refine hideW (Φ:=fun W=>bodyPost _ _ _ _ _ W) (fun W=>Ext w W/\Blk W rb [I 0,I 17] 33) (HEND.out _ _ _ HX4.out) (fun W9 hW9=>?_)
       have hc9:=hW9.2.cells
       refine bodyPost_ret (v:=.agg #[I 0,I 17]) (by rw[results_cell1 rfl];go_simp) rfl ?_
       exact⟨rfl,hW9.1⟩
  ·have HAV:=Hd (show ansV l ls c=(0,certMayV ls.length c)by unfold ansV;rw[if_neg (by rw[HM.out];simp),if_pos h2])
   have h6c:(certMayV ls.length c !=0)=true:=by simp[h2]
   have hrc3:=(HR1.out.later HX3.out).cells
   have hrf3:=(HR1.out.later HX3.out).frozen
   clear h2
   generalize certMayV ls.length c=z at*
   go_wp2_with fail
   rw[HAV.out]
   refine hideW (Φ:=fun W=>bodyPost _ _ _ _ _ W) (fun W=>Ext w W/\Blk W rb [I 0,I z] 33) (HEND.out _ _ _ HX3.out) (fun W9 hW9=>?_)
   have hc9:=hW9.2.cells
   refine bodyPost_ret (v:=.agg #[I 0,I z]) (by rw[results_cell1 rfl];go_simp) rfl ?_
   exact⟨rfl,hW9.1⟩
 ·have HAV:=Hd (show ansV l ls c=(0,netMayV ls)by unfold ansV;rw[if_pos h1])
  have h6c:(netMayV ls !=0)=true:=by simp[h1]
  have hrc2:=(HR1.out.later HX2.out).cells
  have hrf2:=(HR1.out.later HX2.out).frozen
  clear h1
  generalize netMayV ls=z at*
  go_wp2_with fail
  rw[HAV.out]
  refine hideW (Φ:=fun W=>bodyPost _ _ _ _ _ W) (fun W=>Ext w W/\Blk W rb [I 0,I z] 33) (HEND.out _ _ _ HX2.out) (fun W9 hW9=>?_)
  have hc9:=hW9.2.cells
  refine bodyPost_ret (v:=.agg #[I 0,I z]) (by rw[results_cell1 rfl];go_simp) rfl ?_
  exact⟨rfl,hW9.1⟩
end Go.Proofs.YtjflkifodfncmaaGreatDoor
