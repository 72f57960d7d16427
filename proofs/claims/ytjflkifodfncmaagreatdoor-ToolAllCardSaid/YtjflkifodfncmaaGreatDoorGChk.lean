/- Fall, CheckP, CheckN: these texts in one. Conditions: each theorem names its own. -/
import Derived.Test.YtjflkifodfncmaaGreatDoorGCert
import Derived.WalkMore
import Derived.Laws.ResultCell
import Derived.Laws.EntriesVeiled
namespace Go.Proofs.YtjflkifodfncmaaGreatDoor
set_option maxHeartbeats 4000000
set_option maxRecDepth 100000
open Go.RowKit
abbrev stepF(nb:Nat):Value:=.func (.func 165) #[] #[.pointer (some ⟨nb,0,none⟩)]
def badX(n:Nat)(rk:List Int)(v:Nat)(x:Int):Bool:=decide (x<0)||(decide ((n:Int)<=x)||decide (rk.getD v 0<=rk.getD x.toNat 0))
def badS(ls:List (List Rul))(rk:List Int)(a:BitVec 32)(v:Nat):Bool:=
 match stepN ls a v with
 |none=>false
 |some x=>badX ls.length rk v x
def fallB(ls:List (List Rul))(pts:List (BitVec 32))(rk:List Int):Bool:=pts.any fun a=>(List.range ls.length).any (badS ls rk a)
def fallV(ls:List (List Rul))(pts:List (BitVec 32))(rk:List Int):Int:=if fallB ls pts rk then 16 else 0
theorem fallV_bad{ls:List (List Rul)}{pts:List (BitVec 32)}{rk:List Int}{k v:Nat}(hk:k<pts.length)(hv:v<ls.length)(h:badS ls rk pts[k] v=true):fallV ls pts rk=16:=by
 unfold fallV
 rw[if_pos]
 exact List.any_eq_true.2 ⟨_,List.getElem_mem hk,List.any_eq_true.2 ⟨v,List.mem_range.2 hv,h⟩⟩
theorem fallV_ok{ls:List (List Rul)}{pts:List (BitVec 32)}{rk:List Int}{k:Nat}(h:∀a∈pts.take k,∀v,v<ls.length->badS ls rk a v=false)(hk:pts.length<=k):fallV ls pts rk=0:=by
 unfold fallV
 rw[if_neg]
 intro hb
 obtain⟨a,ha,hb⟩:=List.any_eq_true.1 hb
 obtain⟨v,hv,hb⟩:=List.any_eq_true.1 hb
 rw[List.take_of_length_le hk]at h
 rw[h a ha v (List.mem_range.1 hv)]at hb
 cases hb
theorem pts_next{ls:List (List Rul)}{pts:List (BitVec 32)}{rk:List Int}{k:Nat}(hk:k<pts.length)(h:∀a∈pts.take k,∀v,v<ls.length->badS ls rk a v=false)(h1:∀v,v<ls.length->badS ls rk pts[k] v=false):
 ∀a∈pts.take (k+1),∀v,v<ls.length->badS ls rk a v=false:=by
 rw[List.take_succ_eq_append_getElem hk]
 intro a ha
 rcases List.mem_append.1 ha with ha|ha
 ·exact h a ha
 ·simp only[List.mem_singleton]at ha;rw[ha];exact h1
theorem stepF_any(lv:Value)(ls:List (List Rul))(a:BitVec 32)(v:Int)(nb:Nat)(w:World)(hb:Blk w nb [lv] 43)(hl:TablesAt w lv ls)(hok:TablesOk ls):
 Calls Tryz.prog 165 #[U a,I v,.pointer (some ⟨nb,0,none⟩)] w fun e w'=>e=.returned (stepV (stepN ls a v))/\Ext w w':=by
 have HL:=Hd hl
 obtain⟨ad,cap,rfl,a1,a2,a3⟩:=hl.form
 clear a3 hl
 have hbc:=hb.cells
 go_enter Tryz.func165,Tryz.ntmps165
 go_wp2_with (first
  |(go_at_call 166;(with_reducible refine(netStep_any _ ls a v _ HL.out hok).mono ?_);rintro e w2 ⟨he,hx2⟩;subst he;have HX2:=Hd hx2;clear hx2))
 go_ret2
 exact⟨rfl,HX2.out⟩
theorem fall_any(lv pv rv:Value)(ls:List (List Rul))(pts:List (BitVec 32))(rk:List Int)(nb:Nat)(w:World)(hb:Blk w nb [lv] 43)(hl:TablesAt w lv ls)(hok:TablesOk ls)(hp:UsAt w pv pts)(hr:IntsAt w rv rk)(hrl:rk.length=ls.length):
 Calls Tryz.prog 126 #[.agg #[I ls.length,stepF nb],pv,rv] w fun e w'=>e=.returned (I (fallV ls pts rk))/\Ext w w':=by
 have HL:=Hd hl
 have HB:=Hd hb
 have HOK:=Hd hok
 obtain⟨pa,pc,hpe,p1,p2,p3⟩:=hp.form
 obtain⟨ra,rc,hre,r1,r2,r3⟩:=hr.form
 subst hpe hre
 have P3:=Hd p3
 have R3:=Hd r3
 have HRL:=Hd hrl
 clear p3 r3 hp hr hl hb hok hrl
 unfold maxLen at p2 r2
 go_enter Tryz.func126,Tryz.ntmps126
 go_upto_region 2 with(fail)
 go_step3
 refine hBk w [I ls.length,stepF nb] 173 (fun W1 hW1=>?_)
 obtain⟨hx1,hk1⟩:=hW1
 have HX1:=Hd hx1
 have HK1:=Hd hk1
 clear hx1 hk1
 generalize w.heap.size=sb at*
 go_wp2_with fail
 go_step3
 go_wp2_with fail
 go_loopw[7,15] (fun ev i wr=>∃k:Nat,k<=pts.length/\i=I k/\ev=I 0/\Hid (∀a∈pts.take k,∀v,v<ls.length->badS ls rk a v=false)/\Hid (Ext W1 wr)) (fun _ i _=>pts.length-(intOf i).toNat)
 case atStart=>exact⟨0,by omega,rfl,rfl,fun a h=>by simp at h,eR _⟩
 case round=>
  obtain⟨k,hk,rfl,rfl,HG,HX⟩:=hrel
  have hkr:=(HK1.out.later HX.out).cells
  by_cases hlt:k<pts.length
  ·obtain⟨b0,o0,he0,q0⟩:=P3.out k _ (gE hlt)
   subst he0
   replace q0:=HX.out.cell (HX1.out.cell q0)
   have HNX:=Hd (pts_next hlt HG.out)
   have HBD:=Hd (fun v hv h=>fallV_bad (ls:=ls) (rk:=rk) (v:=v) hlt hv h)
   generalize pts[k]=a at*
   go_wp2_with fail
   go_loopw[7,21] (fun ev i wr=>∃v:Nat,v<=ls.length/\i=I v/\ev=I 0/\Hid (∀u,u<v->badS ls rk a u=false)/\Hid (Ext W1 wr)) (fun _ i _=>ls.length-(intOf i).toNat)
   case atStart=>exact⟨0,by omega,rfl,rfl,fun u h=>by omega,HX.out⟩
   case round=>
    obtain⟨v,hv,rfl,rfl,HV,HXV⟩:=hrel
    have HKV:=Hd (HK1.out.later HXV.out)
    have hkv:=HKV.out.cells
    by_cases hvl:v<ls.length
    ·have HXW:=Hd (HX1.out.trans HXV.out)
     have HLV:=Hd (HL.out.later HXW.out)
     have HBV:=Hd (HB.out.later HXW.out)
     have hvr:v<rk.length:=by rw[HRL.out];exact hvl
     obtain⟨b1,o1,he1,q1⟩:=R3.out v _ (gE hvr)
     subst he1
     have HGV:=Hd (show rk.getD v 0=rk[v]by rw[List.getD_eq_getElem?_getD,gE hvr];rfl)
     have Q1:=Hd (HXW.out.cell q1)
     have HBS:=Hd (show badS ls rk a v=match stepN ls a v with|none=>false|some x=>badX ls.length rk v x from rfl)
     clear q1
     generalize rk[v]=rv at*
     cases hs:stepN ls a v with
     |none=>
      have HS:=Hd hs
      have HOKV:=Hd (show badS ls rk a v=false by rw[HBS.out,hs])
      clear hs
      go_wp2_with (first
       |(go_at_call 165;(with_reducible refine(stepF_any _ ls a v nb _ HBV.out HLV.out HOK.out).mono ?_);rintro e w2 ⟨he,hx2⟩;rw[HS.out]at he;subst he;have HX2:=Hd (HXV.out.trans hx2);clear hx2))
      go_roundw
      case rel=>
       refine⟨v+1,by omega,by go_num,rfl,?_,HX2.out⟩
       intro u hu
       rcases Nat.lt_or_ge u v with g|g
       ·exact HV.out u g
       ·rw[show u=v by omega];exact HOKV.out
      case measure=>simp[intOf];omega
     |some x=>
      have HS:=Hd hs
      have HBX:=Hd (show badS ls rk a v=badX ls.length rk v x by rw[HBS.out,hs])
      clear hs
      go_upto_region 10 with(first
       |(go_at_call 165;(with_reducible refine(stepF_any _ ls a v nb _ HBV.out HLV.out HOK.out).mono ?_);rintro e w2 ⟨he,hx2⟩;rw[HS.out]at he;subst he;have HX2:=Hd (HXV.out.trans hx2);have HY2:=Hd hx2;clear hx2))
      go_cut[52] (fun c wc=>c=.bool (badX ls.length rk v x)/\Hid (Ext w2 wc))
      case first=>
       have HK2:=Hd (HK1.out.later HX2.out)
       by_cases h1:x<0
       ·have d1:decide (x<0)=true:=dT h1
        have HR:=Hd (show badX ls.length rk v x=true by unfold badX;rw[d1];rfl)
        clear h1
        refine wp_region_E 18 rfl (by kernel_rfl) (by kernel_rfl) ?_
        refine WEi_at 0 ?_
        iterate 3
         refine WEi_q rfl (by decide) (by kernel_rfl) rfl ?_;apply Exists.intro;refine⟨fun w1 hx1=>?_,?_⟩
         ·have hq1:=hx1.cells;go_simp;try go_bits
          first|with_reducible rfl
         go_frame;try simp only[Nat.reduceAdd]
        refine WEi_out ?_
        refine WEi_at 3 ?_
        iterate 4
         refine WEi_s rfl (by decide) (by kernel_rfl) rfl ?_
         go_frame;try simp only[Nat.reduceAdd]
        refine WEi_out ?_
        refine WEi_at 7 ?_
        iterate 2
         refine WEi_q rfl (by decide) (by kernel_rfl) rfl ?_;apply Exists.intro;refine⟨fun w1 hx1=>?_,?_⟩
         ·have hq1:=hx1.cells;go_simp;try go_bits
          first|with_reducible rfl
         go_frame;try simp only[Nat.reduceAdd]
        refine WEi_out ?_
        refine WEi_at 9 ?_
        iterate 9
         refine WEi_s rfl (by decide) (by kernel_rfl) rfl ?_
         go_frame;try simp only[Nat.reduceAdd]
        refine WEi_out ?_
        refine WE_done (by kernel_rfl) (fun w9 hx9=>?_)
        (try simp only[List.drop_succ_cons,List.drop_zero])
        go_wp2_with fail
        go_meet
        case rel=>exact⟨by rw[HR.out],hx9⟩
       ·have d1:decide (x<0)=false:=dF h1
        by_cases h2:(ls.length:Int)<=x
        ·have d2:decide ((ls.length:Int)<=x)=true:=dT h2
         have HR:=Hd (show badX ls.length rk v x=true by unfold badX;rw[d1,d2];rfl)
         clear h1 h2
         refine wp_region_E 18 rfl (by kernel_rfl) (by kernel_rfl) ?_
         have k1:=HK2.out.keep
         refine WEi_at 0 ?_
         iterate 9
          refine WEi_q rfl (by decide) (by kernel_rfl) rfl ?_;apply Exists.intro;refine⟨fun w1 hx1=>?_,?_⟩
          ·have hq1:=hx1.cells;go_simp;try go_bits
           first|with_reducible rfl
          go_frame;try simp only[Nat.reduceAdd]
         refine WEi_out ?_
         refine WEi_at 9 ?_
         iterate 9
          refine WEi_s rfl (by decide) (by kernel_rfl) rfl ?_
          go_frame;try simp only[Nat.reduceAdd]
         refine WEi_out ?_
         refine WE_done (by kernel_rfl) (fun w9 hx9=>?_)
         (try simp only[List.drop_succ_cons,List.drop_zero])
         clear k1
         go_wp2_with fail
         go_meet
         case rel=>exact⟨by rw[HR.out],hx9⟩
        ·have d2:decide ((ls.length:Int)<=x)=false:=dF h2
         obtain⟨xn,rfl⟩:∃xn:Nat,x=xn:=⟨x.toNat,by omega⟩
         have hxn:xn<ls.length:=by omega
         have d2n:decide (ls.length<=xn)=false:=dF (by omega)
         have hxr:xn<rk.length:=by rw[HRL.out];exact hxn
         obtain⟨b2,o2,he2,q2⟩:=R3.out xn _ (gE hxr)
         simp only[Option.some.injEq,Addr.mk.injEq,and_true]at he2
         obtain⟨rfl,rfl⟩:=he2
         have Q2:=Hd (HX2.out.cell (HX1.out.cell q2))
         have HGX:=Hd (show rk.getD xn 0=rk[xn]by rw[List.getD_eq_getElem?_getD,gE hxr];rfl)
         have HR:=Hd (show badX ls.length rk v xn=decide (rv<=rk[xn])by unfold badX;rw[d1,d2,HGV.out,Int.toNat_natCast,HGX.out];rfl)
         clear h1 h2 q2
         generalize rk[xn]=rx at*
         refine wp_region_E 18 rfl (by kernel_rfl) (by kernel_rfl) ?_
         have k1:=HK2.out.keep
         have k2:=Ext.keep Q2.out
         have k3:=Ext.keep (HY2.out.cell Q1.out)
         refine WEi_at 0 ?_
         iterate 18
          refine WEi_q rfl (by decide) (by kernel_rfl) rfl ?_;apply Exists.intro;refine⟨fun w1 hx1=>?_,?_⟩
          ·have hq1:=hx1.cells;go_simp;try go_bits
           first|with_reducible rfl
          go_frame;try simp only[Nat.reduceAdd]
         refine WEi_out ?_
         refine WE_done (by kernel_rfl) (fun w9 hx9=>?_)
         (try simp only[List.drop_succ_cons,List.drop_zero])
         clear k1 k2 k3
         go_wp2_with fail
         go_meet
         case rel=>exact⟨by rw[HR.out],hx9⟩
      case rest=>
       obtain⟨rfl,HXC⟩:=hcut
       cases hbx:badX ls.length rk v x with
       |true=>
        have HR:=Hd (HBD.out v hvl (HBX.out.trans hbx))
        clear hbx
        go_wp2_with fail
        rw[Exit.noGoto_ret]
        go_ret
        exact⟨by rw[HR.out];rfl,HX1.out.trans (HX2.out.trans HXC.out)⟩
       |false=>
        have HOKV:=Hd (HBX.out.trans hbx)
        clear hbx
        go_wp2_with fail
        go_roundw
        case rel=>
         refine⟨v+1,by omega,by go_num,rfl,?_,HX2.out.trans HXC.out⟩
         intro u hu
         rcases Nat.lt_or_ge u v with g|g
         ·exact HV.out u g
         ·rw[show u=v by omega];exact HOKV.out
        case measure=>simp[intOf];omega
    ·have HND:=Hd (HNX.out (fun u hu=>HV.out u (by omega)))
     go_wp2_with fail
     go_roundw
     case rel=>exact⟨k+1,by omega,by go_num,rfl,HND.out,HXV.out⟩
     case measure=>simp[intOf];omega
  ·have HE:=Hd (fallV_ok HG.out (by omega))
   go_wp2_with fail
   rw[Exit.noGoto_ret]
   go_ret
   exact⟨by rw[HE.out];rfl,HX1.out.trans HX.out⟩
theorem results_cell1{fn:Func}{p:Tmp}{ty:TypeId}(h:fn.results=#[.cell p ty])(tmps:Array Value)(P:Program)(w:World):
 (results fn tmps).run P w=((asAddr (tmps.getD p undef)).run P w).andThen fun a w₁=>(loadVar ty a).run P w₁:=by
 simp only[results,h]
 simp[Sem.run_bind,Result.andThen]
theorem steps_any(lv:Value)(ls:List (List Rul))(w:World)(hl:TablesAt w lv ls):
 Calls Tryz.prog 125 #[.agg #[lv]] w fun e w'=>∃nb,e=.returned (.agg #[I ls.length,stepF nb])/\Blk w' nb [lv] 43/\Ext w w':=by
 obtain⟨ad,cap,rfl,a1,a2,a3⟩:=hl.form
 clear a3 hl
 go_enter Tryz.func125,Tryz.ntmps125
 go_wp2_with fail
 refine hideW (Φ:=fun W=>bodyPost _ _ _ _ _ W) (fun W=>Ext w W/\Blk W w.heap.size [.slice ad ls.length cap] 43/\Blk W (w.heap.size+1) [I ls.length,stepF w.heap.size] 173)
  ⟨by(repeat with_reducible first|exact eR _|assumption|refine eA ?_ _|refine eD ?_|refine eW ?_ _|(refine eS ?_ ?_;focus(first|(simp;done)|(simp;omega)|omega))),(Blk.new w [.slice ad ls.length cap] 43).old _,Blk.newAt [I ls.length,stepF w.heap.size] (by simp)⟩ (fun W1 hW1=>?_)
 obtain⟨hx1,hb1,hs1⟩:=hW1
 have hsc:=hs1.cells
 refine bodyPost_ret (v:=.agg #[I ls.length,stepF w.heap.size]) (by rw[results_cell1 rfl];go_simp) rfl ?_
 exact⟨_,rfl,hb1,hx1⟩
def partV(l:List (BitVec 32))(ls:List (List Rul))(p:Prt)(rk:List Int):Int:=if rk.length≠ls.length then 1 else fallV ls (insideV l p.fr p.up) rk
def partsZ(l:List (BitVec 32))(ls:List (List Rul)):List (Prt × List Int)->Int
 |[]=>0
 |q::t=>if partV l ls q.1 q.2≠0 then partV l ls q.1 q.2 else partsZ l ls t
theorem zip_drop{α β:Type}{ps:List α}{rks:List β}{k:Nat}(h1:k<ps.length)(h2:k<rks.length):(ps.zip rks).drop k=(ps[k],rks[k])::(ps.zip rks).drop (k+1):=by
 rw[List.drop_eq_getElem_cons (by simp;omega)]
 simp
theorem partsZ_step{l:List (BitVec 32)}{ls:List (List Rul)}{ps:List Prt}{rks:List (List Int)}{k:Nat}(h1:k<ps.length)(h2:k<rks.length):
 partsZ l ls ((ps.zip rks).drop k)=if partV l ls ps[k] rks[k]≠0 then partV l ls ps[k] rks[k]else partsZ l ls ((ps.zip rks).drop (k+1)):=by
 rw[zip_drop h1 h2];rfl
theorem partsZ_end{l:List (BitVec 32)}{ls:List (List Rul)}{ps:List Prt}{rks:List (List Int)}{k:Nat}(h1:ps.length<=k):partsZ l ls ((ps.zip rks).drop k)=0:=by
 rw[List.drop_of_length_le (by simp;omega)];rfl
theorem partV_three(l:List (BitVec 32))(ls:List (List Rul))(p:Prt)(rk:List Int):partV l ls p rk=0\/partV l ls p rk=1\/partV l ls p rk=16:=by
 unfold partV fallV
 split
 ·simp
 ·split<;>simp
theorem checkParts_any(lv pv:Value)(ls:List (List Rul))(ps:List Prt)(rks:List (List Int))(l:List (BitVec 32))(w:World)(hl:TablesAt w lv ls)(hok:TablesOk ls)(hs:sizeN ls<=10000000)(hC:Cuts ls.flatten l)
 (hp:PartsAt w pv ps) (hn:ps.length<=1000000) (hm:meetV ps=0) (hrl:rks.length=ps.length) (hr:∀(i:Nat) (p:Prt) (r:List Int),ps[i]? =some p->rks[i]? =some r->IntsAt w p.rk r):
 Calls Tryz.prog 70 #[.agg #[lv],pv] w fun e w'=>e=.returned (I (partsZ l ls (ps.zip rks)))/\Ext w w':=by
 have HL:=Hd hl
 have HOK:=Hd hok
 have HS:=Hd hs
 have HR:=Hd hr
 have HRL:=Hd hrl
 have HC:=Hd hC
 have HP:=Hd hp
 have HM:=Hd hm
 obtain⟨ad,cap,rfl,a1,a2,a3⟩:=hl.form
 obtain⟨pa,pc,rfl,p1,p2,p3⟩:=hp.form
 have P3:=Hd p3
 clear a3 p3 hl hok hs hr hC hp hm hrl
 unfold maxLen at a2 p2
 go_enter Tryz.func70,Tryz.ntmps70
 go_upto_region 1 with(fail)
 refine hBk w [.slice ad ls.length cap] 43 (fun W1 hW1=>?_)
 obtain⟨hx1,hb1⟩:=hW1
 have HX1:=Hd hx1
 have HB1:=Hd hb1
 clear hx1 hb1
 generalize w.heap.size=nb at*
 have hbc:=HB1.out.cells
 go_upto_region 4 with(first
  |(go_at_call 124;(with_reducible refine(coverAll_yes _ _ ls ps _ (HL.out.later HX1.out) HOK.out HS.out (HP.out.later HX1.out) hn HM.out).mono ?_);rintro e w2 ⟨v2,l2,he,hC2,hO,hx2⟩;subst he;obtain rfl:=Cuts.at HC.out hC2;have HU2:=Hd hO.read;have HX2:=Hd (HX1.out.trans hx2);have HB2:=Hd (HB1.out.later hx2);clear hC2 hO hx2))
 clear hbc
 have hbc2:=HB2.out.cells
 go_upto_region 5 with(first
  |(go_at_call 125;(with_reducible refine(steps_any _ ls _ (HL.out.later HX2.out)).mono ?_);rintro e w3 ⟨sb,he,hb3,hx3⟩;subst he;have HS3:=Hd hb3;have HX3:=Hd (HX2.out.trans hx3);have HU3:=Hd (HU2.out.later hx3);clear hb3 hx3))
 refine hBk w3 [I ls.length,stepF sb] 173 (fun W4 hW4=>?_)
 obtain⟨hx4,hb4⟩:=hW4
 have HX4:=Hd (HX3.out.trans hx4)
 have HS4:=Hd (HS3.out.later hx4)
 have HU4:=Hd (HU3.out.later hx4)
 have HT4:=Hd hb4
 clear hx4 hb4 hbc2 HS3 HU3 HU2 HB2 HB1 HX1 HX2 HX3
 generalize w3.heap.size=tb at*
 obtain⟨ua,uc,hue,u1,u2,u3⟩:=HU4.out.form
 have HPL:=Hd (pointsL_len l ps)
 rw[HPL.out]at hue u1
 subst hue
 have U3:=Hd u3
 unfold maxLen at u2
 clear u3
 go_wp2_with fail
 go_loopw[24] (fun i wr=>∃k:Nat,k<=ps.length/\i=I k/\Hid (partsZ l ls (ps.zip rks)=partsZ l ls ((ps.zip rks).drop k))/\Hid (Ext W4 wr)) (fun i _=>ps.length-(intOf i).toNat)
 case atStart=>exact⟨0,by omega,rfl,rfl,eR _⟩
 case round=>
  obtain⟨k,hk,rfl,HG,HX⟩:=hrel
  have HTr:=Hd (HT4.out.later HX.out)
  have htc:=HTr.out.cells
  by_cases hlt:k<ps.length
  ·have hkr:k<rks.length:=by rw[HRL.out];exact hlt
   have HXE:=Hd (HX4.out.trans HX.out)
   obtain⟨b0,o0,he0,q0,q1,q2⟩:=P3.out k _ (gE hlt)
   subst he0
   replace q0:=HXE.out.cell q0
   replace q1:=HXE.out.cell q1
   replace q2:=HXE.out.cell q2
   have hik:=HR.out k _ _ (gE hlt) (gE hkr)
   have HRN:=Hd (prt_form hik)
   have HIK:=Hd (hik.later HXE.out)
   have HST:=Hd (partsZ_step (l:=l) (ls:=ls) hlt hkr)
   obtain⟨b1,o1,u,he1,c1,hu⟩:=U3.out k (insideV l ps[k].fr ps[k].up) (by unfold pointsL;rw[List.getElem?_map,gE hlt];rfl)
   subst he1
   have HUK:=Hd (hu.later HX.out)
   have HC1:=Hd (HX.out.cell c1)
   obtain⟨va,vc,hve⟩:=usAt_slice hu
   subst hve
   clear hik hu c1
   generalize ps[k]=p at*
   generalize rks[k]=r at*
   have HPV:=Hd (show partV l ls p r=if r.length≠ls.length then 1 else fallV ls (insideV l p.fr p.up) r from rfl)
   go_upto_region 8 with(fail)
   refine hBk wr [U p.fr,U p.up,p.rk] 85 (fun W5 hW5=>?_)
   obtain⟨hx5,hb5⟩:=hW5
   have HX5:=Hd (HX.out.trans hx5)
   have HY5:=Hd hx5
   have HQ5:=Hd hb5
   have HT5:=Hd (HTr.out.later hx5)
   clear hx5 hb5 htc q0 q1 q2
   generalize wr.heap.size=qb at*
   have hqc:=HQ5.out.cells
   have htc:=HT5.out.cells
   by_cases hn2:p.rn=ls.length
   ·have hnb:((p.rn:Int) !=(ls.length:Int))=false:=by simp[hn2]
    have HRL2:=Hd (show r.length=ls.length by rw[<-HRN.out];exact hn2)
    have HV:=Hd (show partV l ls p r=fallV ls (insideV l p.fr p.up) r by rw[HPV.out,if_neg (by rw[HRL2.out];simp)])
    clear hn2
    go_upto_region 10 with(fail)
    refine wp_region_E 7 rfl (by kernel_rfl) (by kernel_rfl) ?_
    have k1:=HT5.out.keep
    have k2:=HQ5.out.keep
    have k3:=Ext.keep (HY5.out.cell HC1.out)
    refine WEi_at 0 ?_
    iterate 7
     refine WEi_q rfl (by decide) (by kernel_rfl) rfl ?_;apply Exists.intro;refine⟨fun w1 hx1=>?_,?_⟩
     ·have hq1:=hx1.cells;go_simp;try go_bits
      first|with_reducible rfl
     go_frame;try simp only[Nat.reduceAdd]
    refine WEi_out ?_
    refine WE_done (by kernel_rfl) (fun w6 hx6=>?_)
    (try simp only[List.drop_succ_cons,List.drop_zero])
    clear k1 k2 k3 hqc htc
    have HX6:=Hd (HX5.out.trans hx6)
    have HZ6:=Hd (HY5.out.trans hx6)
    clear hx6
    have HFA:=Hd (fall_any (.slice ad ls.length cap) (.slice va (insideV l p.fr p.up).length vc) p.rk ls (insideV l p.fr p.up) r sb w6 (HS4.out.later HX6.out) (HL.out.later (HX4.out.trans HX6.out)) HOK.out (HUK.out.later HZ6.out) (HIK.out.later HZ6.out) HRL2.out)
    rcases partV_three l ls p r with h|h|h
    case' inl=>
     have HN:=Hd (show fallV ls (insideV l p.fr p.up) r=0 by rw[<-HV.out];exact h)
     have HR2:=Hd (show partsZ l ls (ps.zip rks)=partsZ l ls ((ps.zip rks).drop (k+1))by rw[HG.out,HST.out,if_neg (by rw[h];simp)])
    case' inr.inl=>
     exfalso
     rw[HV.out]at h
     unfold fallV at h
     split at h<;>cases h
    case' inr.inr=>
     have HN:=Hd (show fallV ls (insideV l p.fr p.up) r=16 by rw[<-HV.out];exact h)
     have HR2:=Hd (show partsZ l ls (ps.zip rks)=16 by rw[HG.out,HST.out,if_pos (by rw[h];simp),h])
    case' inl=>
     clear h
     go_wp2_with (first
      |(go_at_call 126;refine HFA.out.mono ?_;rintro e w7 ⟨he,hx7⟩;rw[HN.out]at he;subst he;have HX7:=Hd (HX6.out.trans hx7);clear hx7))
     go_roundw
     case rel=>exact⟨k+1,by omega,by go_num,HR2.out,HX7.out⟩
     case measure=>simp[intOf];omega
    case' inr.inr=>
     clear h
     go_wp2_with (first
      |(go_at_call 126;refine HFA.out.mono ?_;rintro e w7 ⟨he,hx7⟩;rw[HN.out]at he;subst he;have HX7:=Hd (HX6.out.trans hx7);clear hx7))
     go_ret
     exact⟨by rw[HR2.out];rfl,HX4.out.trans HX7.out⟩
   ·have hnb:((p.rn:Int) !=(ls.length:Int))=true:=by simp;omega
    have HV:=Hd (show partsZ l ls (ps.zip rks)=1 by
     have h1:partV l ls p r=1:=by rw[HPV.out,if_pos (by rw[<-HRN.out];exact hn2)]
     rw[HG.out,HST.out,if_pos (by rw[h1];simp),h1])
    clear hn2
    go_wp2_with fail
    go_ret
    exact⟨by rw[HV.out];rfl,HX4.out.trans HX5.out⟩
  ·have HE:=Hd (show partsZ l ls (ps.zip rks)=0 by rw[HG.out,partsZ_end (by omega)])
   go_wp2_with fail
   go_ret
   exact⟨by rw[HE.out];rfl,HX4.out.trans HX.out⟩
def trOkV(ls:List (List Rul))(dest:BitVec 32)(tr:List Int)(i:Nat):Bool:=decide (stepN ls dest (tr.getD i 0)=some (tr.getD ((i+1)%tr.length) 0))
def traceV(ls:List (List Rul))(dest:BitVec 32)(tr:List Int):Int:=if tr.length=0 then 17 else if(List.range tr.length).all (trOkV ls dest tr)then 0 else 17
theorem traceV_two(ls:List (List Rul))(dest:BitVec 32)(tr:List Int):traceV ls dest tr=0\/traceV ls dest tr=17:=by
 unfold traceV
 split
 ·simp
 ·split<;>simp
theorem traceV_no{ls:List (List Rul)}{dest:BitVec 32}{tr:List Int}{i:Nat}(hi:i<tr.length)(h:trOkV ls dest tr i=false):traceV ls dest tr=17:=by
 unfold traceV
 rw[if_neg (by omega),if_neg]
 intro ha
 rw[List.all_eq_true]at ha
 rw[ha i (List.mem_range.2 hi)]at h
 cases h
theorem traceV_yes{ls:List (List Rul)}{dest:BitVec 32}{tr:List Int}(h0:0<tr.length)(h:∀i,i<tr.length->trOkV ls dest tr i=true):traceV ls dest tr=0:=by
 unfold traceV
 rw[if_neg (by omega),if_pos]
 rw[List.all_eq_true]
 exact fun i hi=>h i (List.mem_range.1 hi)
theorem checkTrace_any(lv tv:Value)(ls:List (List Rul))(dest:BitVec 32)(tr:List Int)(w:World)(hl:TablesAt w lv ls)(hok:TablesOk ls)(ht:IntsAt w tv tr):
 Calls Tryz.prog 71 #[.agg #[lv],U dest,tv] w fun e w'=>e=.returned (I (traceV ls dest tr))/\Ext w w':=by
 have HL:=Hd hl
 have HOK:=Hd hok
 obtain⟨ad,cap,rfl,a1,a2,a3⟩:=hl.form
 obtain⟨ta,tc,rfl,t1,t2,t3⟩:=ht.form
 have T3:=Hd t3
 clear a3 t3 hl hok ht
 unfold maxLen at a2 t2
 go_enter Tryz.func71,Tryz.ntmps71
 go_upto_region 1 with(fail)
 refine hBk w [.slice ad ls.length cap] 43 (fun W1 hW1=>?_)
 obtain⟨hx1,hb1⟩:=hW1
 have HX1:=Hd hx1
 have HB1:=Hd hb1
 clear hx1 hb1
 generalize w.heap.size=nb at*
 have hbc:=HB1.out.cells
 by_cases h0:tr.length=0
 ·have hb0:((tr.length:Int)==0)=true:=by simp[h0]
  have HV:=Hd (show traceV ls dest tr=17 by unfold traceV;rw[if_pos h0])
  clear h0
  go_wp2_with fail
  go_ret
  exact⟨by rw[HV.out];rfl,HX1.out⟩
 have hb0:((tr.length:Int)==0)=false:=beq_false_of_ne (by omega)
 have hlp:0<tr.length:=by omega
 clear h0
 go_upto_region 4 with(first
  |(go_at_call 125;(with_reducible refine(steps_any _ ls _ (HL.out.later HX1.out)).mono ?_);rintro e w3 ⟨sb,he,hb3,hx3⟩;subst he;have HS3:=Hd hb3;have HX3:=Hd (HX1.out.trans hx3);clear hb3 hx3))
 refine hBk w3 [I ls.length,stepF sb] 173 (fun W4 hW4=>?_)
 obtain⟨hx4,hb4⟩:=hW4
 have HX4:=Hd (HX3.out.trans hx4)
 have HS4:=Hd (HS3.out.later hx4)
 have HT4:=Hd hb4
 clear hx4 hb4 hbc HS3 HB1 HX3
 generalize w3.heap.size=tb at*
 obtain⟨bt,ot,het,qz⟩:=T3.out 0 _ (gE hlp)
 subst het
 have HQZ:=Hd (show w.cell? ⟨bt,ot,none⟩=some (I tr[0])from by simpa using qz)
 have HGZ:=Hd (show tr.getD 0 0=tr[0]by rw[List.getD_eq_getElem?_getD,gE hlp];rfl)
 clear qz
 generalize tr[0]=z at*
 go_wp2_with fail
 go_loopw[20] (fun i wr=>∃k:Nat,k<=tr.length/\i=I k/\Hid (∀i,i<k->trOkV ls dest tr i=true)/\Hid (Ext W4 wr)) (fun i _=>tr.length-(intOf i).toNat)
 case atStart=>exact⟨0,by omega,rfl,fun i h=>by omega,eR _⟩
 case round=>
  obtain⟨k,hk,rfl,HG,HX⟩:=hrel
  have htc:=(HT4.out.later HX.out).cells
  by_cases hlt:k<tr.length
  ·have HXE:=Hd (HX4.out.trans HX.out)
   obtain⟨b0,o0,he0,q0⟩:=T3.out k _ (gE hlt)
   simp only[Option.some.injEq,Addr.mk.injEq,and_true]at he0
   obtain⟨rfl,rfl⟩:=he0
   replace q0:=HXE.out.cell q0
   have qz:=HXE.out.cell HQZ.out
   have HGK:=Hd (show tr.getD k 0=tr[k]by rw[List.getD_eq_getElem?_getD,gE hlt];rfl)
   have HTO:=Hd (show trOkV ls dest tr k=decide (stepN ls dest (tr.getD k 0)=some (tr.getD ((k+1)%tr.length) 0))from rfl)
   rw[HGK.out]at HTO
   have HNO:=Hd (fun h=>traceV_no (ls:=ls) (dest:=dest) hlt h)
   have HNX:=Hd (show trOkV ls dest tr k=true->∀i,i<k+1->trOkV ls dest tr i=true from fun h i hi=>by
    rcases Nat.lt_or_ge i k with g|g
    ·exact HG.out i g
    ·rw[show i=k by omega];exact h)
   generalize tr[k]=v at*
   have HSV:=Hd (HS4.out.later HX.out)
   have HLV:=Hd (HL.out.later HXE.out)
   by_cases hc:k+1<tr.length
   case' pos=>
    have hcd:decide ((k:Int)<(tr.length:Int)-1)=true:=dT (by omega)
    obtain⟨b1,o1,he1,q1⟩:=T3.out (k+1) _ (gE hc)
    simp only[Option.some.injEq,Addr.mk.injEq,and_true]at he1
    obtain⟨rfl,rfl⟩:=he1
    replace q1:=HXE.out.cell q1
    have HGY:=Hd (show tr.getD ((k+1)%tr.length) 0=tr[k+1]by rw[Nat.mod_eq_of_lt hc,List.getD_eq_getElem?_getD,gE hc];rfl)
    generalize tr[k+1]=y at*
   case' neg=>
    have hcd:decide ((k:Int)<(tr.length:Int)-1)=false:=dF (by omega)
    have HGY:=Hd (show tr.getD ((k+1)%tr.length) 0=z by rw[show k+1=tr.length by omega,Nat.mod_self];exact HGZ.out)
    generalize hy:z=y at*
    clear hy
   all_goals
    rw[HGY.out]at HTO
    cases hs:stepN ls dest v with
    |none=>
     have HS:=Hd hs
     have HR:=Hd (HNO.out (by rw[HTO.out,hs];rfl))
     clear hs
     go_wp2_with (first
      |(go_at_call 165;(with_reducible refine(stepF_any _ ls dest v sb _ HSV.out HLV.out HOK.out).mono ?_);rintro e w5 ⟨he,hx5⟩;rw[HS.out]at he;subst he;have HX5:=Hd (HX.out.trans hx5);clear hx5))
     go_ret
     exact⟨by rw[HR.out];rfl,HX4.out.trans HX5.out⟩
    |some x=>
     have HS:=Hd hs
     by_cases hxy:x=y
     ·have hxb:(x !=y)=false:=by simp[hxy]
      have HR:=Hd (HNX.out (by rw[HTO.out,hs,hxy];simp))
      clear hs hxy
      go_wp2_with (first
       |(go_at_call 165;(with_reducible refine(stepF_any _ ls dest v sb _ HSV.out HLV.out HOK.out).mono ?_);rintro e w5 ⟨he,hx5⟩;rw[HS.out]at he;subst he;have HX5:=Hd (HX.out.trans hx5);clear hx5))
      go_roundw
      case rel=>exact⟨k+1,by omega,by go_num,HR.out,HX5.out⟩
      case measure=>simp[intOf];omega
     ·have hxb:(x !=y)=true:=by simp[hxy]
      have HR:=Hd (HNO.out (by rw[HTO.out,hs];exact dF (fun e=>hxy (Option.some.inj e))))
      clear hs hxy
      go_wp2_with (first
       |(go_at_call 165;(with_reducible refine(stepF_any _ ls dest v sb _ HSV.out HLV.out HOK.out).mono ?_);rintro e w5 ⟨he,hx5⟩;rw[HS.out]at he;subst he;have HX5:=Hd (HX.out.trans hx5);clear hx5))
      go_ret
      exact⟨by rw[HR.out];rfl,HX4.out.trans HX5.out⟩
  ·have HE:=Hd (traceV_yes hlp (fun i hi=>HG.out i (by omega)))
   go_wp2_with fail
   go_ret
   exact⟨by rw[HE.out];rfl,HX4.out.trans HX.out⟩
theorem cutsS_more:∀(xs:List (BitVec 32)) {S:List Int} {l:List (BitVec 32)},CutsS S l->∃l',CutsS (S++xs.map uv) l'
 |[],S,l,h=>⟨l,by simpa using h⟩
 |x::xs,S,l,h=>by
  obtain⟨l',h'⟩:=cutsS_more xs (h.put x)
  exact⟨l',by simpa using h'⟩
theorem cuts_exist(rs:List Rul):∃l,Cuts rs l:=by
 obtain⟨l,h⟩:=cutsS_more ((rs.flatMap rcut).map (BitVec.ofInt 32)) CutsS.start
 refine⟨l,h.1,fun a=>?_⟩
 rw[h.2 a]
 have e:((rs.flatMap rcut).map (BitVec.ofInt 32)).map uv=rs.flatMap rcut:=by
  rw[List.map_map]
  conv=>rhs;rw[<-List.map_id (rs.flatMap rcut)]
  refine List.map_congr_left fun x hx=>?_
  obtain⟨r,_,hr⟩:=List.mem_flatMap.1 hx
  have:=rcut_bd r x hr
  exact uv_ofInt x this.1 this.2
 rw[e]
 unfold cutI
 simp
def ansV(l:List (BitVec 32))(ls:List (List Rul))(c:Crt):Int × Int:=
 if netMayV ls≠0 then(0,netMayV ls)else if certMayV ls.length c≠0 then(0,certMayV ls.length c)else if c.vd=1 then(if partsZ l ls (c.ps.zip c.rks)≠0 then(0,partsZ l ls (c.ps.zip c.rks))else(1,0))else if traceV ls c.dest c.tr≠0 then(0,17)else(c.vd,0)
theorem certMay_vd{n:Int}{c:Crt}(h:certMayV n c=0):c.vd=1/\meetV c.ps=0/\c.ps.length<=8193\/c.vd=2:=by
 unfold certMayV at h
 by_cases h1:c.vd=1
 ·rw[if_pos h1]at h
  unfold freeV at h
  split at h
  ·cases h
  ·split at h
   ·cases h
   ·split at h
    ·cases h
    ·rename_i g1 g2 g3
     exact .inl ⟨h1,by simpa using g3,by omega⟩
 ·rw[if_neg h1]at h
  by_cases h2:c.vd=2
  ·exact .inr h2
  ·rw[if_neg h2]at h;cases h
theorem checkNet_any(lv pv tv:Value)(ls:List (List Rul))(c:Crt)(l:List (BitVec 32))(w:World)(hl:TablesAt w lv ls)(hok:TablesOk ls)(hs:sizeN ls<=10000000)(hC:Cuts ls.flatten l)(hc:CertAt w pv tv c)(htr:∀x∈c.tr,In64 x):
 Calls Tryz.prog 25 #[.agg #[lv],.agg #[I c.vd,pv,U c.dest,tv]] w fun e w'=>e=.returned (.agg #[I (ansV l ls c).1,I (ansV l ls c).2])/\Ext w w':=by
 have HL:=Hd hl
 have HOK:=Hd hok
 have HS:=Hd hs
 have HC:=Hd hC
 have HCT:=Hd hc
 have HTR:=Hd htr
 obtain⟨ad,cap,rfl,a1,a2,a3⟩:=hl.form
 obtain⟨pa,pc,rfl,p1,p2,p3⟩:=hc.parts.form
 obtain⟨ta,tc,rfl,t1,t2,t3⟩:=hc.tr.form
 clear a3 p3 t3 hl hok hs hC hc htr
 unfold maxLen at a2 p2 t2
 go_enter Tryz.func25,Tryz.ntmps25
 go_upto_region 1 with(fail)
 refine hWp (fun W=>Ext w W/\Blk W w.heap.size [.slice ad ls.length cap] 43/\Blk W (w.heap.size+1) [I c.vd,.slice pa c.ps.length pc,U c.dest,.slice ta c.tr.length tc] 49/\Blk W (w.heap.size+2) [.int .i64 0,.int .i64 0] 33)
  ⟨by(repeat with_reducible first|exact eR _|assumption|refine eA ?_ _|refine eD ?_|refine eW ?_ _|(refine eS ?_ ?_;focus(first|(simp;done)|(simp;omega)|omega))),((Blk.new w [.slice ad ls.length cap] 43).old _).old _,(Blk.newAt [I c.vd,.slice pa c.ps.length pc,U c.dest,.slice ta c.tr.length tc] (by simp)).old _,Blk.newAt [.int .i64 0,.int .i64 0] (by simp)⟩ (fun W1 hW1=>?_)
 obtain⟨hx1,hb1,hk1,hr1⟩:=hW1
 have HX1:=Hd hx1
 have HB1:=Hd hb1
 have HK1:=Hd hk1
 have HR1:=Hd hr1
 have HSC:=Hd (show∀(A:World) (o:Nat) (u:Value),Ext w A->Ext w (A.setCell ⟨w.heap.size+2,o,none⟩ u)from fun A o u h=>h.setCell (by show w.heap.size<=w.heap.size+2;omega) u)
 clear hx1 hb1 hk1 hr1
 generalize w.heap.size+2=rb at*
 generalize w.heap.size+1=cb at*
 generalize w.heap.size=nb at*
 have HEND:=Hd (show∀(W:World) (x y:Int),Ext W1 W->Ext w ((W.setCell ⟨rb,0,none⟩ (I x)).setCell ⟨rb,1,none⟩ (I y))/\Blk ((W.setCell ⟨rb,0,none⟩ (I x)).setCell ⟨rb,1,none⟩ (I y)) rb [I x,I y] 33 from fun W x y hx=>
  ⟨HSC.out _ _ _ (HSC.out _ _ _ (HX1.out.trans hx)),((HR1.out.later hx).set 0 (I x)).set 1 (I y)⟩)
 have hbc:=HB1.out.cells
 have HSZ:=Hd (Nat.le_trans HS.out (by decide:10000000<=100000000))
 go_upto_region 2 with(first
  |(go_at_call 30;(with_reducible refine(netMay_any _ ls _ (HL.out.later HX1.out) HOK.out HSZ.out).mono ?_);rintro e w2 ⟨he,hx2⟩;subst he;have HX2:=Hd hx2;clear hx2))
 clear hbc
 by_cases h1:netMayV ls=0
 ·have HM:=Hd h1
  rw[h1]
  clear h1
  have hbc2:=(HB1.out.later HX2.out).cells
  have hkc2:=(HK1.out.later HX2.out).cells
  have HC2:=Hd (HCT.out.later (HX1.out.trans HX2.out))
  go_upto_region 4 with(first
   |(go_at_call 43;(with_reducible refine(certMay_any _ _ c ls.length _ HC2.out HTR.out).mono ?_);rintro e w3 ⟨he,hx3⟩;subst he;have HX3:=Hd (HX2.out.trans hx3);clear hx3))
  clear hbc2 hkc2
  have hbc3:=(HB1.out.later HX3.out).cells
  have hkc3:=(HK1.out.later HX3.out).cells
  have HC3:=Hd (HCT.out.later (HX1.out.trans HX3.out))
  have HL3:=Hd (HL.out.later (HX1.out.trans HX3.out))
  have hrc3:=(HR1.out.later HX3.out).cells
  have hrf3:=(HR1.out.later HX3.out).frozen
  by_cases h2:certMayV ls.length c=0
  ·have HM2:=Hd h2
   rw[h2]
   rcases certMay_vd h2 with⟨h3,h4,h5⟩|h3
   ·have h3b:(c.vd==1)=true:=by simp[h3]
    have h3c:(c.vd==2)=false:=beq_false_of_ne (by omega)
    have HAV:=Hd (show ansV l ls c=if partsZ l ls (c.ps.zip c.rks)≠0 then(0,partsZ l ls (c.ps.zip c.rks))else(1,0)by unfold ansV;rw[if_neg (by rw[HM.out];simp),if_neg (by rw[h2];simp),if_pos h3])
    have HPA:=Hd (checkParts_any (.slice ad ls.length cap) (.slice pa c.ps.length pc) ls c.ps c.rks l w3 HL3.out HOK.out HS.out HC.out HC3.out.parts (by omega) h4 HC3.out.len HC3.out.rk)
    have HVD:=Hd h3
    clear h2 h3 h4 h5
    by_cases h6:partsZ l ls (c.ps.zip c.rks)=0
    ·have HP:=Hd h6
     have HA2:=Hd (show ansV l ls c=(1,0)by rw[HAV.out,if_neg (by rw[h6];simp)])
     clear h6
     go_upto_region 6 with(first
      |(go_at_call 70;(with_reducible refine HPA.out.mono ?_);rintro e w4 ⟨he,hx4⟩;rw[HP.out]at he;subst he;have HX4:=Hd (HX3.out.trans hx4);clear hx4))
     clear hbc3 hkc3 hrc3 hrf3
     have hkc4:=(HK1.out.later HX4.out).cells
     have hrc4:=(HR1.out.later HX4.out).cells
     have hrf4:=(HR1.out.later HX4.out).frozen
     go_wp2_with fail
     rw[HA2.out]
     refine hideW (Φ:=fun W=>bodyPost _ _ _ _ _ W) (fun W=>Ext w W/\Blk W rb [I c.vd,I 0] 33) (HEND.out _ _ _ HX4.out) (fun W9 hW9=>?_)
     have hc9:=hW9.2.cells
     refine bodyPost_ret (v:=.agg #[I c.vd,I 0]) (by rw[results_cell1 rfl];go_simp) rfl ?_
     exact⟨by rw[HVD.out],hW9.1⟩
    ·have HA2:=Hd (show ansV l ls c=(0,partsZ l ls (c.ps.zip c.rks))by rw[HAV.out,if_pos h6])
     have h6b:(partsZ l ls (c.ps.zip c.rks)==0)=false:=beq_false_of_ne h6
     have h6c:(partsZ l ls (c.ps.zip c.rks) !=0)=true:=by simp[h6]
     clear h6
     generalize partsZ l ls (c.ps.zip c.rks)=z at*
     go_upto_region 6 with(first
      |(go_at_call 70;(with_reducible refine HPA.out.mono ?_);rintro e w4 ⟨he,hx4⟩;subst he;have HX4:=Hd (HX3.out.trans hx4);clear hx4))
     clear hbc3 hkc3 hrc3 hrf3
     have hrc4:=(HR1.out.later HX4.out).cells
     have hrf4:=(HR1.out.later HX4.out).frozen
     go_wp2_with fail
     rw[HA2.out]
     refine hideW (Φ:=fun W=>bodyPost _ _ _ _ _ W) (fun W=>Ext w W/\Blk W rb [I 0,I z] 33) (HEND.out _ _ _ HX4.out) (fun W9 hW9=>?_)
     have hc9:=hW9.2.cells
     refine bodyPost_ret (v:=.agg #[I 0,I z]) (by rw[results_cell1 rfl];go_simp) rfl ?_
     exact⟨rfl,hW9.1⟩
   ·have h3b:(c.vd==1)=false:=beq_false_of_ne (by omega)
    have h3c:(c.vd==2)=true:=by simp[h3]
    have HAV:=Hd (show ansV l ls c=if traceV ls c.dest c.tr≠0 then(0,17)else(c.vd,0)by unfold ansV;rw[if_neg (by rw[HM.out];simp),if_neg (by rw[h2];simp),if_neg (by omega)])
    clear h2 h3
    rcases traceV_two ls c.dest c.tr with h6|h6
    ·have HP:=Hd h6
     have HA2:=Hd (show ansV l ls c=(c.vd,0)by rw[HAV.out,if_neg (by rw[h6];simp)])
     clear h6
     go_upto_region 8 with(first
      |(go_at_call 71;(with_reducible refine(checkTrace_any _ _ ls c.dest c.tr _ HL3.out HOK.out HC3.out.tr).mono ?_);rintro e w4 ⟨he,hx4⟩;rw[HP.out]at he;subst he;have HX4:=Hd (HX3.out.trans hx4);clear hx4))
     clear hbc3 hkc3 hrc3 hrf3
     have hkc4:=(HK1.out.later HX4.out).cells
     have hrc4:=(HR1.out.later HX4.out).cells
     have hrf4:=(HR1.out.later HX4.out).frozen
     go_wp2_with fail
     rw[HA2.out]
     refine hideW (Φ:=fun W=>bodyPost _ _ _ _ _ W) (fun W=>Ext w W/\Blk W rb [I c.vd,I 0] 33) (HEND.out _ _ _ HX4.out) (fun W9 hW9=>?_)
     have hc9:=hW9.2.cells
     refine bodyPost_ret (v:=.agg #[I c.vd,I 0]) (by rw[results_cell1 rfl];go_simp) rfl ?_
     exact⟨rfl,hW9.1⟩
    ·have HP:=Hd h6
     have HA2:=Hd (show ansV l ls c=(0,17)by rw[HAV.out,if_pos (by rw[h6];simp)])
     clear h6
     go_upto_region 8 with(first
      |(go_at_call 71;(with_reducible refine(checkTrace_any _ _ ls c.dest c.tr _ HL3.out HOK.out HC3.out.tr).mono ?_);rintro e w4 ⟨he,hx4⟩;rw[HP.out]at he;subst he;have HX4:=Hd (HX3.out.trans hx4);clear hx4))
     clear hbc3 hkc3 hrc3 hrf3
     have hrc4:=(HR1.out.later HX4.out).cells
     have hrf4:=(HR1.out.later HX4.out).frozen
     go_wp2_with fail
     rw[HA2.out]
     refine hideW (Φ:=fun W=>bodyPost _ _ _ _ _ W) (fun W=>Ext w W/\Blk W rb [I 0,I 17] 33) (HEND.out _ _ _ HX4.out) (fun W9 hW9=>?_)
     have hc9:=hW9.2.cells
     refine bodyPost_ret (v:=.agg #[I 0,I 17]) (by rw[results_cell1 rfl];go_simp) rfl ?_
     exact⟨rfl,hW9.1⟩
  ·have HAV:=Hd (show ansV l ls c=(0,certMayV ls.length c)by unfold ansV;rw[if_neg (by rw[HM.out];simp),if_pos h2])
   have h6b:(certMayV ls.length c==0)=false:=beq_false_of_ne h2
   have h6c:(certMayV ls.length c !=0)=true:=by simp[h2]
   clear h2
   generalize certMayV ls.length c=z at*
   go_wp2_with fail
   rw[HAV.out]
   refine hideW (Φ:=fun W=>bodyPost _ _ _ _ _ W) (fun W=>Ext w W/\Blk W rb [I 0,I z] 33) (HEND.out _ _ _ HX3.out) (fun W9 hW9=>?_)
   have hc9:=hW9.2.cells
   refine bodyPost_ret (v:=.agg #[I 0,I z]) (by rw[results_cell1 rfl];go_simp) rfl ?_
   exact⟨rfl,hW9.1⟩
 ·have HAV:=Hd (show ansV l ls c=(0,netMayV ls)by unfold ansV;rw[if_pos h1])
  have h6b:(netMayV ls==0)=false:=beq_false_of_ne h1
  have h6c:(netMayV ls !=0)=true:=by simp[h1]
  have hrc2:=(HR1.out.later HX2.out).cells
  have hrf2:=(HR1.out.later HX2.out).frozen
  clear h1
  generalize netMayV ls=z at*
  go_wp2_with fail
  rw[HAV.out]
  refine hideW (Φ:=fun W=>bodyPost _ _ _ _ _ W) (fun W=>Ext w W/\Blk W rb [I 0,I z] 33) (HEND.out _ _ _ HX2.out) (fun W9 hW9=>?_)
  have hc9:=hW9.2.cells
  refine bodyPost_ret (v:=.agg #[I 0,I z]) (by rw[results_cell1 rfl];go_simp) rfl ?_
  exact⟨rfl,hW9.1⟩
end Go.Proofs.YtjflkifodfncmaaGreatDoor
