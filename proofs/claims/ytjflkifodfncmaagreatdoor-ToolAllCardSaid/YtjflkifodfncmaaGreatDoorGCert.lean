/- GMeet, GCert: these texts in one. Conditions: each theorem names its own. -/
import Derived.Maps.OwnSet
import Derived.Test.YtjflkifodfncmaaGreatDoorGAtB
namespace Go.Proofs.YtjflkifodfncmaaGreatDoor
set_option maxHeartbeats 4000000
set_option maxRecDepth 100000
open Go.RowKit
def meetG:Int->List Prt->Bool
 |nx,[]=>nx==4294967296
 |nx,p::ps=>(uv p.fr==nx)&&(decide (uv p.fr<=uv p.up)&&meetG (uv p.up+1) ps)
def meetV(ps:List Prt):Int:=if meetG 0 ps=true then 0 else 15
theorem meetV_yes{ps:List Prt}(h:meetG 0 ps=true):meetV ps=0:=by unfold meetV;rw[if_pos h]
theorem meetV_no{ps:List Prt}(h:meetG 0 ps=false):meetV ps=15:=by unfold meetV;rw[h];rfl
theorem meetG_step(nx:Int){ps:List Prt}{k:Nat}(h:k<ps.length):meetG nx (ps.drop k)=((uv ps[k].fr==nx)&&(decide (uv ps[k].fr<=uv ps[k].up)&&meetG (uv ps[k].up+1) (ps.drop (k+1)))):=by
 rw[List.drop_eq_getElem_cons h];rfl
theorem meetG_end(nx:Int){ps:List Prt}{k:Nat}(h:ps.length<=k):meetG nx (ps.drop k)=(nx==4294967296):=by rw[List.drop_of_length_le h];rfl
theorem meetG_last:∀{ps:List Prt} {nx:Int} {m:Nat},meetG nx ps=true->ps.length=m+1->∃p,ps[m]? =some p/\uv p.up=4294967295
 |[],_,_,_,h=>by simp at h
 |[p],nx,m,h,hm=>by
  have:m=0:=by simpa using hm.symm
  subst this
  refine⟨p,rfl,?_⟩
  simp only[meetG,Bool.and_eq_true,beq_iff_eq]at h
  omega
 |p::q::ps,nx,m,h,hm=>by
  simp only[meetG,Bool.and_eq_true]at h
  obtain⟨k,rfl⟩:∃k,m=k+1:=⟨m-1,by simp at hm;omega⟩
  have h2:meetG (uv p.up+1) (q::ps)=true:=by simp only[meetG,Bool.and_eq_true];exact h.2.2
  obtain⟨x,h3,h4⟩:=meetG_last (m:=k) h2 (by simpa using hm)
  exact⟨x,by simpa using h3,h4⟩
def inP(a:BitVec 32)(p:Prt):Bool:=decide (uv p.fr<=uv a)&&decide (uv a<=uv p.up)
def notP(a:BitVec 32)(p:Prt):Bool:=!inP a p
def coN(ps:List Prt)(a:BitVec 32):Nat:=(ps.takeWhile (notP a)).length
theorem coN_le(ps:List Prt)(a:BitVec 32):coN ps a<=ps.length:=(List.takeWhile_sublist _).length_le
theorem coN_lt{ps:List Prt}{a:BitVec 32}{j:Nat}(h:j<coN ps a)(h':j<ps.length):inP a ps[j]=false:=by
 have:=tw_lt (notP a) ps j h h'
 unfold notP at this
 simpa using this
theorem coN_end{ps:List Prt}{a:BitVec 32}(h:coN ps a<ps.length):inP a ps[coN ps a]=true:=by
 have h1:notP a ps[coN ps a]=false:=tw_end (notP a) ps h
 cases hb:inP a ps[coN ps a]
 ·have h2:notP a ps[coN ps a]=true:=by unfold notP;rw[hb];rfl
  rw[h1]at h2;cases h2
 ·rfl
abbrev coverV(ps:List Prt)(a:BitVec 32):Value:=.tuple #[I (if coN ps a<ps.length then(coN ps a:Int)else 0),.bool (decide (coN ps a<ps.length))]
theorem r17Meet_any(pv:Value)(ps:List Prt)(w:World)(hp:PartsAt w pv ps):
 Calls Tryz.prog 157 #[pv] w fun e w'=>e=.returned (I (meetV ps))/\Ext w w':=by
 obtain⟨pd,pcap,rfl,p1,p2,p3⟩:=hp.form
 have P3:=Hd p3
 clear p3 hp
 unfold maxLen at p2
 go_enter Tryz.func157,Tryz.ntmps157
 go_wp2_with fail
 go_loopw[3,4] (fun x i wr=>∃(k:Nat) (nx:Int),k<=ps.length/\i=I k/\x=I nx/\(0<=nx/\nx<=4294967296)/\Hid (meetG 0 ps=meetG nx (ps.drop k))/\Ext w wr) (fun _ i _=>ps.length-(intOf i).toNat)
 case atStart=>exact⟨0,0,by omega,rfl,rfl,by omega,rfl,eR _⟩
 case round=>
  obtain⟨k,nx,hk,rfl,rfl,hnx,HG,hx⟩:=hrel
  by_cases hlt:k<ps.length
  ·obtain⟨b0,o0,rfl,q0,q1,q2⟩:=P3.out k ps[k] (gE hlt)
   replace q0:=hx.cell q0
   replace q1:=hx.cell q1
   clear q2
   have HST:=Hd (meetG_step nx hlt)
   generalize ps[k]=p at*
   have hb:=uv_bd p.up
   by_cases h1:uv p.fr=nx
   ·have hd1:(uv p.fr !=nx)=false:=by simpa using h1
    have hd1':(uv p.fr==nx)=true:=by simpa using h1
    by_cases h2:uv p.fr<=uv p.up
    ·have hd2:decide (uv p.up<uv p.fr)=false:=dF (by omega)
     have HN:=Hd (show meetG 0 ps=meetG (uv p.up+1) (ps.drop (k+1))by rw[HG.out,HST.out,hd1',dT h2];rfl)
     clear h1 h2 hd1'
     go_wp2_with fail
     go_quiet (fail)
     go_wp2_with fail
     go_roundw
     case rel=>exact⟨k+1,uv p.up+1,by omega,by go_num,by go_num,by omega,HN.out,by(repeat with_reducible first|exact eR _|assumption|refine eA ?_ _|refine eD ?_|refine eW ?_ _|(refine eS ?_ ?_;focus(first|(simp;done)|(simp;omega)|omega)))⟩
     case measure=>simp[intOf];omega
    ·have hd2:decide (uv p.up<uv p.fr)=true:=dT (by omega)
     have HN:=Hd (meetV_no (show meetG 0 ps=false by rw[HG.out,HST.out,hd1',dF h2];rfl))
     clear h1 h2 hd1'
     go_wp2_with fail
     go_quiet (fail)
     go_wp2_with fail
     go_ret
     exact⟨by rw[HN.out];rfl,by(repeat with_reducible first|exact eR _|assumption|refine eA ?_ _|refine eD ?_|refine eW ?_ _|(refine eS ?_ ?_;focus(first|(simp;done)|(simp;omega)|omega)))⟩
   ·have hd1:(uv p.fr !=nx)=true:=by simpa using h1
    have HN:=Hd (meetV_no (show meetG 0 ps=false by rw[HG.out,HST.out,show(uv p.fr==nx)=false by simpa using h1];rfl))
    clear h1
    go_wp2_with fail
    go_quiet (fail)
    go_wp2_with fail
    go_ret
    exact⟨by rw[HN.out];rfl,by(repeat with_reducible first|exact eR _|assumption|refine eA ?_ _|refine eD ?_|refine eW ?_ _|(refine eS ?_ ?_;focus(first|(simp;done)|(simp;omega)|omega)))⟩
  ·have HE:=Hd (HG.out.trans (meetG_end nx (show ps.length<=k by omega)))
   by_cases h1:nx=4294967296
   ·subst h1
    have HN:=Hd (meetV_yes HE.out)
    go_wp2_with fail
    go_ret
    exact⟨by rw[HN.out];rfl,hx⟩
   ·have hd1:(nx !=4294967296)=true:=by simpa using h1
    have HN:=Hd (meetV_no (HE.out.trans (show(nx==4294967296)=false by simpa using h1)))
    clear h1
    go_wp2_with fail
    go_ret
    exact⟨by rw[HN.out];rfl,hx⟩
def nxP(ps:List Prt):Nat->Int
 |0=>0
 |k+1=>((ps[k]?).map fun p=>uv p.up+1).getD 0
theorem certMeet_any(pv:Value)(ps:List Prt)(w:World)(hp:PartsAt w pv ps):
 Calls Tryz.prog 149 #[pv] w fun e w'=>e=.returned (I (meetV ps))/\Ext w w':=by
 obtain⟨pd,pcap,rfl,p1,p2,p3⟩:=hp.form
 have P3:=Hd p3
 clear p3 hp
 unfold maxLen at p2
 by_cases hz:ps.length=0
 ·have HN:=Hd (meetV_no (show meetG 0 ps=false by rw[List.eq_nil_of_length_eq_zero hz];rfl))
  rw[hz]
  go_enter Tryz.func149,Tryz.ntmps149
  go_wp2_with fail
  go_ret
  exact⟨by rw[HN.out];rfl,eR _⟩
 ·obtain⟨m,hm⟩:∃m,ps.length=m+1:=⟨ps.length-1,by omega⟩
  obtain⟨b0,o0,rfl,z0,z1,z2⟩:=P3.out 0 (ps[0]'(by omega)) (gE (by omega))
  obtain⟨b1,o1,he1,y0,y1,y2⟩:=P3.out m (ps[m]'(by omega)) (gE (by omega))
  simp only[Option.some.injEq,Addr.mk.injEq,and_true]at he1
  obtain⟨rfl,rfl⟩:=he1
  rw[Nat.zero_mul,Nat.add_zero]at z0
  clear z1 z2 y0 y2
  have HLAST:=Hd (show meetG 0 ps=true->uv (ps[m]'(by omega)).up=4294967295 from fun h=>by
   obtain⟨p,h1,h2⟩:=meetG_last h hm
   rw[gE (show m<ps.length by omega)]at h1
   rw[Option.some.inj h1]
   exact h2)
  have HFST:=Hd (meetG_step 0 (ps:=ps) (k:=0) (by omega))
  have hlm:((ps.length:Int)==0)=false:=beq_false_of_ne (by omega)
  have hnm:(ps.length==0)=false:=beq_false_of_ne (by omega)
  have HLP:=Hd (show ps[m]? =some (ps[m]'(by omega))from gE (by omega))
  have HFP:=Hd (show ps[0]? =some (ps[0]'(by omega))from gE (by omega))
  generalize ps[m]'(by omega)=lp at*
  generalize ps[0]'(by omega)=fp at*
  have HM:=Hd hm
  have hlen1:(ps.length:Int)-1=(m:Int):=by omega
  have hmw:m<ps.length:=by omega
  clear hm
  by_cases h0:fp.fr=0#32
  ·have hd0:(fp.fr !=0#32)=false:=by simpa using h0
   by_cases ht:lp.up=4294967295#32
   ·have hdt:(lp.up !=4294967295#32)=false:=by simpa using ht
    have hdt':(uv lp.up !=4294967295)=false:=by rw[ht];rfl
    have HT:=Hd (show uv lp.up=4294967295 by rw[ht];rfl)
    have H0:=Hd (show uv fp.fr=0 by rw[h0];rfl)
    clear h0 ht hz
    go_enter Tryz.func149,Tryz.ntmps149
    go_wp2_with fail
    clear hlm hnm hlen1 hmw
    go_loopw[27] (fun i wr=>∃k:Nat,k<=ps.length/\i=I k/\Hid (meetG 0 ps=meetG (nxP ps k) (ps.drop k))/\Hid (Ext w wr)) (fun i _=>ps.length-(intOf i).toNat)
    case atStart=>exact⟨0,by omega,rfl,rfl,eR _⟩
    case round=>
     obtain⟨k,hk,rfl,HG,HX⟩:=hrel
     by_cases hlt:k<ps.length
     ·have hlk:k<ps.length:=hlt
      obtain⟨b2,o2,he2,q0,q1,q2⟩:=P3.out k ps[k] (gE hlk)
      simp only[Option.some.injEq,Addr.mk.injEq,and_true]at he2
      obtain⟨rfl,rfl⟩:=he2
      replace q0:=HX.out.cell q0
      replace q1:=HX.out.cell q1
      replace q2:=HX.out.cell q2
      have HST:=Hd (meetG_step (nxP ps k) hlk)
      have HNX:=Hd (show nxP ps (k+1)=uv ps[k].up+1 by simp[nxP,hlk])
      have HPK:=Hd (show ps[k]? =some ps[k]from gE hlk)
      generalize ps[k]=p at*
      clear hlk
      go_upto_region 6 with(fail)
      refine hBk wr [U p.fr,U p.up,p.rk] 85 (fun W2 hW2=>?_)
      obtain⟨hx2,hb2⟩:=hW2
      have HX2:=Hd (HX.out.trans hx2)
      have kc:=hb2.cells
      clear q0 q1 q2 hx2 hb2 HX
      generalize wr.heap.size=kb at*
      by_cases h1:uv p.fr<=uv p.up
      ·have hd1:decide (uv p.up<uv p.fr)=false:=dF (by omega)
       have HLE:=Hd h1
       clear h1
       cases k with
       |zero=>
        have HN:=Hd (show meetG 0 ps=meetG (nxP ps 1) (ps.drop 1)by
         have e:p=fp:=Option.some.inj (HPK.out.symm.trans HFP.out)
         rw[HG.out,HST.out,show nxP ps 0=0 from rfl,e,H0.out,<-e,HNX.out,show decide ((0:Int)<=uv p.up)=true from dT (uv_nonneg _)];rfl)
        go_wp2_with fail
        go_quiet (fail)
        go_wp2_with fail
        go_roundw
        case rel=>exact⟨1,by omega,by go_num,HN.out,by have:=HX2.out;show Ext _ _;(repeat with_reducible first|exact eR _|assumption|refine eA ?_ _|refine eD ?_|refine eW ?_ _|(refine eS ?_ ?_;focus(first|(simp;done)|(simp;omega)|omega)))⟩
        case measure=>simp[intOf];omega
       |succ j=>
        have hlj:j<ps.length:=by omega
        obtain⟨b2,o2,he2,r0,r1,r2⟩:=P3.out j ps[j] (gE hlj)
        simp only[Option.some.injEq,Addr.mk.injEq,and_true]at he2
        obtain⟨rfl,rfl⟩:=he2
        replace r1:=HX2.out.cell r1
        clear r0 r2
        have HNJ:=Hd (show nxP ps (j+1)=uv ps[j].up+1 by simp[nxP,hlj])
        generalize ps[j]=q at*
        clear hlj
        have hkp:decide ((0:Int)<((j+1:Nat):Int))=true:=dT (by omega)
        have hkp2:decide ((0:Int)<(j:Int)+1)=true:=dT (by omega)
        have hjw:IntKind.i64.wrap (j:Int)=j:=by rw[IntKind.wrap_i64];omega
        have hjm:j<ps.length:=by omega
        have hjd:decide ((j:Int)<(ps.length:Int))=true:=dT (by omega)
        by_cases ht2:q.up=4294967295#32
        ·have hdt2:(q.up==4294967295#32)=true:=by simpa using ht2
         have hdt3:(uv q.up==4294967295)=true:=by rw[ht2];rfl
         have HN:=Hd (meetV_no (show meetG 0 ps=false by
          have hb:=uv_bd p.fr
          rw[HG.out,HST.out,HNJ.out,show uv q.up=4294967295 by rw[ht2];rfl,show(uv p.fr==4294967295+1)=false from beq_false_of_ne (by omega)];rfl))
         clear ht2
         go_wp2_with fail
         go_quiet (fail)
         go_wp2_with fail
         go_ret
         exact⟨by rw[HN.out];rfl,by have:=HX2.out;(repeat with_reducible first|exact eR _|assumption|refine eA ?_ _|refine eD ?_|refine eW ?_ _|(refine eS ?_ ?_;focus(first|(simp;done)|(simp;omega)|omega)))⟩
        ·have hdt2:(q.up==4294967295#32)=false:=by simpa using ht2
         have hqt:uv q.up≠4294967295:=fun e=>ht2 (uv_inj (by rw[e];rfl))
         have hdt3:(uv q.up==4294967295)=false:=by simpa using hqt
         have HI:=Hd (show uv (q.up+1#32)=uv q.up+1 by
          have h1:=uv_bd q.up
          unfold uv at*
          rw[BitVec.toNat_add]
          simp
          omega)
         clear ht2 hqt
         by_cases h2:p.fr=q.up+1#32
         ·have hd2:(p.fr !=q.up+1#32)=false:=by simpa using h2
          have HN:=Hd (show meetG 0 ps=meetG (nxP ps (j+1+1)) (ps.drop (j+1+1))by
           rw[HG.out,HST.out,HNJ.out,HNX.out,show(uv p.fr==uv q.up+1)=true by rw[h2,HI.out];simp,dT HLE.out];rfl)
          clear h2
          go_wp2_with fail
          go_quiet (fail)
          go_wp2_with fail
          go_roundw
          case rel=>exact⟨j+1+1,by omega,by go_num,HN.out,by have:=HX2.out;show Ext _ _;(repeat with_reducible first|exact eR _|assumption|refine eA ?_ _|refine eD ?_|refine eW ?_ _|(refine eS ?_ ?_;focus(first|(simp;done)|(simp;omega)|omega)))⟩
          case measure=>simp[intOf];omega
         ·have hd2:(p.fr !=q.up+1#32)=true:=by simpa using h2
          have HN:=Hd (meetV_no (show meetG 0 ps=false by
           rw[HG.out,HST.out,HNJ.out,show(uv p.fr==uv q.up+1)=false from beq_false_of_ne (fun e=>h2 (uv_inj (by rw[HI.out];exact e)))];rfl))
          clear h2
          go_wp2_with fail
          go_quiet (fail)
          go_wp2_with fail
          go_ret
          exact⟨by rw[HN.out];rfl,by have:=HX2.out;(repeat with_reducible first|exact eR _|assumption|refine eA ?_ _|refine eD ?_|refine eW ?_ _|(refine eS ?_ ?_;focus(first|(simp;done)|(simp;omega)|omega)))⟩
      ·have hd1:decide (uv p.up<uv p.fr)=true:=dT (by omega)
       have HN:=Hd (meetV_no (show meetG 0 ps=false by rw[HG.out,HST.out,dF h1];simp))
       clear h1
       go_wp2_with fail
       go_ret
       exact⟨by rw[HN.out];rfl,by have:=HX2.out;(repeat with_reducible first|exact eR _|assumption|refine eA ?_ _|refine eD ?_|refine eW ?_ _|(refine eS ?_ ?_;focus(first|(simp;done)|(simp;omega)|omega)))⟩
     ·have HN:=Hd (meetV_yes (show meetG 0 ps=true by
       have hke:k=m+1:=by have:=HM.out;omega
       subst hke
       rw[HG.out,meetG_end _ (by have:=HM.out;omega)]
       simp[nxP,HLP.out,HT.out]))
      have hkd:decide ((k:Int)<(ps.length:Int))=false:=dF (by omega)
      have hkn:decide (k<ps.length)=false:=dF hlt
      go_wp2_with fail
      go_ret
      exact⟨by rw[HN.out];rfl,HX.out⟩
   ·have hdt:(lp.up !=4294967295#32)=true:=by simpa using ht
    have hlt2:uv lp.up≠4294967295:=fun e=>ht (uv_inj (by rw[e];rfl))
    have hdt':(uv lp.up !=4294967295)=true:=by simpa using hlt2
    have HN:=Hd (meetV_no (show meetG 0 ps=false by
     cases hb:meetG 0 ps
     ·rfl
     ·exact absurd (HLAST.out hb) hlt2))
    clear h0 ht hlt2 hz
    go_enter Tryz.func149,Tryz.ntmps149
    go_wp2_with fail
    go_ret
    exact⟨by rw[HN.out];rfl,eR _⟩
  ·have hd0:(fp.fr !=0#32)=true:=by simpa using h0
   have HN:=Hd (meetV_no (show meetG 0 ps=false by
    have h2:=HFST.out
    rw[List.drop_zero]at h2
    rw[h2,show(uv fp.fr==0)=false from beq_false_of_ne (fun e=>h0 (uv_inj (by rw[e];rfl)))];rfl))
   clear h0 hz
   go_enter Tryz.func149,Tryz.ntmps149
   go_wp2_with fail
   go_ret
   exact⟨by rw[HN.out];rfl,eR _⟩
theorem coverAll_yes(lv pv:Value)(ls:List (List Rul))(ps:List Prt)(w:World)(hl:TablesAt w lv ls)(hok:TablesOk ls)(hs:sizeN ls<=10000000)(hp:PartsAt w pv ps)(hn:ps.length<=1000000)(hm:meetV ps=0):
 Calls Tryz.prog 124 #[.agg #[lv],pv] w fun e w'=>∃v l,e=.returned (.tuple #[v,I 0])/\Cuts ls.flatten l/\OwnUU w' w.heap.size v (pointsL l ps)/\Ext w w':=by
 have HL:=Hd hl
 have HOK:=Hd hok
 have HS:=Hd hs
 have HN:=Hd hn
 have HP:=Hd hp
 have HM:=Hd hm
 obtain⟨ad,cap,rfl,a1,a2,a3⟩:=hl.form
 obtain⟨pd,pcap,hpv,p1,p2,p3⟩:=hp.form
 subst hpv
 clear a3 p3 hl hp hm hs hok
 unfold maxLen at a2 p2
 go_enter Tryz.func124,Tryz.ntmps124
 go_upto_region 1 with(fail)
 refine hBk w [.slice ad ls.length cap] 43 (fun W1 hW1=>?_)
 obtain⟨hx1,hb1⟩:=hW1
 have HX1:=Hd hx1
 have HB1:=Hd hb1
 clear hx1 hb1
 generalize hnb:w.heap.size=nb at*
 have HNB:=Hd hnb
 clear hnb
 go_wp2_with (first
  |(go_at_call 149;(with_reducible refine(certMeet_any _ ps _ (HP.out.later HX1.out)).mono ?_);rintro e w2 ⟨he,hx2⟩;rw[HM.out]at he;subst he;have HX2:=Hd (HX1.out.trans hx2);have hbc:=(HB1.out.later hx2).cells;clear hx2)
  |(go_at_call 164;(with_reducible refine(coverPointsAll_any _ _ ls ps _ (HL.out.later HX2.out) HOK.out HS.out (HP.out.later HX2.out) HN.out).mono ?_);rintro e w3 ⟨v3,l,he,hC,hO,hx3⟩;subst he;have HC:=Hd hC;have HX3:=Hd (HX2.out.trans hx3);have HO:=Hd (hO.low HX2.out.size);obtain⟨va,vcap,hv3,q1,q2,q3⟩:=HO.out.read.form;have hv3':v3=.slice va (pointsL l ps).length vcap:=hv3;subst hv3';clear q1 q2 q3 hv3 hC hO hx3))
 go_ret2
 exact⟨_,l,rfl,HC.out,by rw[<-HNB.out];exact HO.out,HX3.out⟩
theorem r19Points_any(lv:Value)(p:Prt)(ls:List (List Rul))(w:World)(hl:TablesAt w lv ls)(hok:TablesOk ls)(hs:sizeN ls<=10000000):
 Calls Tryz.prog 127 #[.agg #[lv],p.val] w fun e w'=>∃v l,e=.returned v/\Cuts ls.flatten l/\OwnU w' w.heap.size v (insideV l p.fr p.up)/\Ext w w':=by
 have HL:=Hd hl
 have HOK:=Hd hok
 have HS:=Hd hs
 obtain⟨ad,cap,rfl,a1,a2,a3⟩:=hl.form
 clear a3 hl hok
 unfold maxLen at a2
 go_enter Tryz.func127,Tryz.ntmps127
 go_upto_region 1 with(fail)
 refine hWp (fun W=>Ext w W/\Blk W w.heap.size [.slice ad ls.length cap] 43/\Blk W (w.heap.size+1) [U p.fr,U p.up,p.rk] 85)
  ⟨by(repeat with_reducible first|exact eR _|assumption|refine eA ?_ _|refine eD ?_|refine eW ?_ _|(refine eS ?_ ?_;focus(first|(simp;done)|(simp;omega)|omega))),(Blk.new w [.slice ad ls.length cap] 43).old _,Blk.newAt [U p.fr,U p.up,p.rk] (by simp)⟩ (fun W1 hW1=>?_)
 obtain⟨hx1,hb1,hk1⟩:=hW1
 have HX1:=Hd hx1
 have HL1:=Hd (HL.out.later hx1)
 have HB1:=Hd hb1
 have HK1:=Hd hk1
 clear hx1 hb1 hk1
 generalize hnb:w.heap.size=nb at*
 have HNB:=Hd hnb
 clear hnb
 go_wp2_with fail
 refine wp_region_R (RB (W1.heap.size)) 6 rfl (by kernel_rfl) (by kernel_rfl) (fun w0 hx0=>?_)
 have hsz:W1.heap.size<=w0.heap.size:=hx0.size
 have hb0:=RB.keep (p:=⟨nb,0,none⟩) hsz HB1.out.lt ((HB1.out.later hx0).cells 0)
 have hk0:=RB.keep (p:=⟨nb+1,0,none⟩) hsz HK1.out.lt ((HK1.out.later hx0).cells 0)
 have hk1:=RB.keep (p:=⟨nb+1,1,none⟩) hsz HK1.out.lt ((HK1.out.later hx0).cells 1)
 refine WR_q (preRB _) 0 rfl (by decide) (by kernel_rfl) rfl ?_;apply Exists.intro;refine⟨fun w1 hx1=>?_,?_⟩
 ·go_simp;try go_bits
  first|with_reducible rfl|rfl
 go_frame
 refine WRi_at 2 ?_
 iterate 4
  refine WRi_q (preRB _) rfl (by decide) (by kernel_rfl) rfl ?_;apply Exists.intro;refine⟨fun w1 hx1=>?_,?_⟩
  ·go_simp;try go_bits
   first|with_reducible rfl|rfl
  go_frame;try simp only[Nat.reduceAdd]
 refine WRi_out ?_
 refine WR_one 1 rfl (by decide) (by kernel_rfl) rfl (fun K hK=>?_)
 go_simp
 refine(r12Of_any _ ls _ (HL1.out.later hx0) HOK.out HS.out).mono ?_
 rintro e w2 ⟨v2,l,he,hU,hC,hx2⟩
 subst he
 refine hK _ _ (RB.ext hx2) ?_
 clear hK K hb0 hk0 hk1 hsz
 have HU2:=Hd hU
 have HC:=Hd hC
 have HX2:=Hd (hx0.trans hx2)
 have HLN:=Hd (show l.length<=100000000 by have h1:=hC.len;rw[sizeN_flat]at h1;have:=HS.out;omega)
 obtain⟨la,lcap,hlv,l1,l2,l3⟩:=hU.form
 have hlv':v2=.slice la l.length lcap:=hlv
 subst hlv'
 clear hU hC hx2 hx0 l3 hlv
 refine WR_done (by kernel_rfl) ?_
 (try simp only[List.drop_succ_cons,List.drop_zero])
 go_wp2_with (first
  |(go_at_call 167;(with_reducible refine(r12Inside_any _ l p.fr p.up _ HU2.out HLN.out).mono ?_);rintro e w3 ⟨v3,he,hO,hx3⟩;subst he;have HO3:=Hd hO;have HX3:=Hd (HX2.out.trans hx3);have HS3:=Hd HX2.out.size
    obtain⟨va,vcap,hv3,-⟩:=HO3.out.us.form;have hv3':v3=.slice va (insideV l p.fr p.up).length vcap:=hv3;subst hv3';clear hv3 hO hx3))
 go_ret
 exact⟨_,l,rfl,HC.out,own_low HO3.out (Nat.le_trans HX1.out.size HS3.out),HX1.out.trans HX3.out⟩
structure Crt where
 vd:Int
 ps:List Prt
 rks:List (List Int)
 dest:BitVec 32
 tr:List Int
structure CertAt(w:World)(pv tv:Value)(c:Crt):Prop where
 parts:PartsAt w pv c.ps
 len:c.rks.length=c.ps.length
 rk:∀(i:Nat) (p:Prt) (r:List Int),c.ps[i]? =some p->c.rks[i]? =some r->IntsAt w p.rk r
 tr:IntsAt w tv c.tr
theorem CertAt.later{w w':World}{pv tv:Value}{c:Crt}(h:CertAt w pv tv c)(hx:Ext w w'):CertAt w' pv tv c:=
 ⟨h.parts.later hx,h.len,fun i p r h1 h2=>(h.rk i p r h1 h2).later hx,h.tr.later hx⟩
def outB(n:Int)(x:Int):Bool:=decide (x<0)||decide (n<=x)
def rksV(n:Int):List (List Int)->Int
 |[]=>0
 |r::t=>if(r.length:Int)≠n then 1 else if r.any (outB n)then 16 else rksV n t
def freeV(n:Int)(c:Crt):Int:=if c.dest≠0#32\/0<c.tr.length then 3 else if 8193<c.ps.length then 12 else if meetV c.ps≠0 then 15 else rksV n c.rks
def trG(first:Int):List Int->List Int->Bool
 |_,[]=>false
 |seen,x::t=>decide (x∈seen)||(decide (x<first)||trG first (seen++[x]) t)
def loopsV(n:Int)(c:Crt):Int:=if 0<c.ps.length then 3 else if c.tr.length=0\/n<(c.tr.length:Int)then 12 else if c.tr.any (outB n)then 10 else if trG (c.tr.headD 0) [] c.tr then 17 else 0
def certMayV(n:Int)(c:Crt):Int:=if c.vd=1 then freeV n c else if c.vd=2 then loopsV n c else 9
theorem meetV_two(ps:List Prt):meetV ps=0\/meetV ps=15:=by unfold meetV;split<;>simp
theorem rksV_step(n:Int){rks:List (List Int)}{k:Nat}(h:k<rks.length):rksV n (rks.drop k)=if(rks[k].length:Int)≠n then 1 else if rks[k].any (outB n)then 16 else rksV n (rks.drop (k+1)):=by
 rw[List.drop_eq_getElem_cons h];rfl
theorem rksV_end(n:Int){rks:List (List Int)}{k:Nat}(h:rks.length<=k):rksV n (rks.drop k)=0:=by rw[List.drop_of_length_le h];rfl
theorem trG_step(f:Int){tr:List Int}{k:Nat}(h:k<tr.length):trG f (tr.take k) (tr.drop k)=(decide (tr[k]∈tr.take k)||(decide (tr[k]<f)||trG f (tr.take (k+1)) (tr.drop (k+1)))):=by
 conv=>lhs;rw[List.drop_eq_getElem_cons h]
 rw[List.take_succ_eq_append_getElem h];rfl
theorem trG_end(f:Int){tr:List Int}{k:Nat}(h:tr.length<=k)(s:List Int):trG f s (tr.drop k)=false:=by rw[List.drop_of_length_le h];rfl
theorem any_no{l:List Int}{p:Int->Bool}{k:Nat}(h:∀x∈l.take k,p x=false)(hk:l.length<=k):l.any p=false:=by
 rw[List.take_of_length_le hk]at h
 rw[List.any_eq_false]
 intro x hx;rw[h x hx];simp
theorem any_at{l:List Int}{p:Int->Bool}{k:Nat}(hk:k<l.length)(h:p l[k]=true):l.any p=true:=List.any_eq_true.2 ⟨_,List.getElem_mem hk,h⟩
theorem take_no{l:List Int}{p:Int->Bool}{k:Nat}(hk:k<l.length)(h:∀x∈l.take k,p x=false)(h1:p l[k]=false):∀x∈l.take (k+1),p x=false:=by
 rw[List.take_succ_eq_append_getElem hk]
 intro x hx
 rcases List.mem_append.1 hx with hx|hx
 ·exact h x hx
 ·simp only[List.mem_singleton]at hx;rw[hx];exact h1
abbrev outF(nb:Nat):Value:=.func (.func 101) #[] #[.pointer (some ⟨nb,0,none⟩)]
theorem outside_any(x n:Int)(nb:Nat)(w:World)(hb:w.cell? ⟨nb,0,none⟩=some (I n)):
 Calls Tryz.prog 101 #[I x,.pointer (some ⟨nb,0,none⟩)] w fun e w'=>e=.returned (.bool (outB n x))/\w'=w:=by
 by_cases h:x<0
 ·have h1:decide (x<0)=true:=dT h
  have HO:=Hd (show outB n x=true by unfold outB;rw[h1];rfl)
  clear h
  go_enter Tryz.func101,Tryz.ntmps101
  go_wp2
  go_ret
  exact⟨by rw[HO.out];rfl,rfl⟩
 ·have h1:decide (x<0)=false:=dF h
  have HO:=Hd (show outB n x=decide (n<=x)by unfold outB;rw[h1];rfl)
  clear h
  go_enter Tryz.func101,Tryz.ntmps101
  go_wp2
  go_ret
  exact⟨by rw[HO.out];rfl,rfl⟩
theorem indexFunc_any(v:Value)(l:List Int)(n:Int)(nb:Nat)(w:World)(hv:IntsAt w v l)(hb:w.cell? ⟨nb,0,none⟩=some (I n)):
 Calls Tryz.prog 186 #[v,outF nb] w fun e w'=>(∃r:Int,e=.returned (I r)/\decide (0<=r)=l.any (outB n))/\w'=w:=by
 obtain⟨a,cap,rfl,a1,a2,a3⟩:=hv.form
 have A3:=Hd a3
 have HB:=Hd hb
 clear a3 hv hb
 unfold maxLen at a2
 go_enter Tryz.func186,Tryz.ntmps186
 go_wp2_with fail
 go_loopw[8] (fun i wr=>∃k:Nat,k<=l.length/\i=I k/\Hid (∀x∈l.take k,outB n x=false)/\wr=w) (fun i _=>l.length-(intOf i).toNat)
 case atStart=>exact⟨0,by omega,rfl,fun x hx=>by simp at hx,rfl⟩
 case round=>
  obtain⟨k,hk,rfl,HN,rfl⟩:=hrel
  by_cases hlt:k<l.length
  ·obtain⟨b0,o0,rfl,p0⟩:=A3.out k l[k] (gE hlt)
   cases hq:outB n l[k]with
   |true=>
    have HQ:=Hd hq
    have HA:=Hd (any_at hlt hq)
    clear hq
    generalize l[k]=x at*
    go_wp2_with (first
     |(go_at_call 101;(with_reducible refine(outside_any x n nb _ HB.out).mono ?_);rintro e w' ⟨he,hw⟩;rw[HQ.out]at he;subst he;obtain rfl:=hw.symm))
    go_ret
    exact⟨⟨k,rfl,by rw[HA.out];simp⟩,rfl⟩
   |false=>
    have HQ:=Hd hq
    have HT:=Hd (take_no hlt HN.out hq)
    clear hq
    generalize l[k]=x at*
    go_wp2_with (first
     |(go_at_call 101;(with_reducible refine(outside_any x n nb _ HB.out).mono ?_);rintro e w' ⟨he,hw⟩;rw[HQ.out]at he;subst he;obtain rfl:=hw.symm))
    go_roundw
    case rel=>exact⟨k+1,by omega,by go_num,HT.out,by first|trivial|rfl⟩
    case measure=>simp[intOf];omega
  ·have HA:=Hd (any_no HN.out (show l.length<=k by omega))
   go_wp2_with fail
   go_ret
   exact⟨⟨-1,rfl,by rw[HA.out];rfl⟩,rfl⟩
theorem containsFunc_any(v:Value)(l:List Int)(n:Int)(nb:Nat)(w:World)(hv:IntsAt w v l)(hb:w.cell? ⟨nb,0,none⟩=some (I n)):
 Calls Tryz.prog 150 #[v,outF nb] w fun e w'=>e=.returned (.bool (l.any (outB n)))/\w'=w:=by
 have HV:=Hd hv
 have HB:=Hd hb
 clear hv hb
 go_enter Tryz.func150,Tryz.ntmps150
 go_wp2_with (first
  |(go_at_call 186;(with_reducible refine(indexFunc_any v l n nb _ HV.out HB.out).mono ?_);rintro e w' ⟨⟨r,he,hr⟩,hw⟩;subst he;obtain rfl:=hw.symm;have HR:=Hd hr;clear hr))
 go_ret
 exact⟨by rw[<-HR.out];rfl,by first|trivial|rfl⟩
open Go Go.Maps Go.Proofs
def SetI(w:World)(mb:Nat)(seen:List Int):Prop:=
 ∃(n:Nat) (D:DataW Unit),w.ownsMap Tryz.prog 3 (plainElem Tryz.prog 4) mb n D/\n<=seen.length/\∀x,D.atKey (.int .i64 x) (.lit (.bool false))=.lit (.bool (decide (x∈seen)))
theorem SetI.start(w:World):SetI (w.alloc (.map #[] 0)) w.heap.size []:=
 ⟨0,.map [],World.ownsMap_made _ _ _ _,Nat.le_refl _,fun _=>rfl⟩
theorem lawI:Keyed Tryz.prog 3:=int_keyed Tryz.underlying3
theorem wf64{x:Int}(h:In64 x):(Lit.int .i64 x).wf=true:=by
 unfold In64 at h
 show(decide (-9223372036854775808<=x)&&decide (x<=9223372036854775807))=true
 rw[dT h.1,dT h.2];rfl
theorem keyI{x:Int}(h:In64 x):keyOf Tryz.prog 3 (.int .i64 x)=some (.int .i64 x):=keyOf_int_mk Tryz.underlying3 (wf64 h)
theorem zeroBool(w:World):(zeroValue 4).run Tryz.prog w=.ok (.bool false) w:=by kernel_rfl
theorem plain_bool_inv{P:Program}{e:TypeId}(he:P.underlying e=some .bool){v:Value}{b:Bool}{ps:List MemPlace}(h:plainElem (H:=Unit) P e v=some (.lit (.bool b),ps)):v=.bool b:=by
 unfold plainElem at h
 rw[he]at h
 cases v<;>simp at h
 rw[h.1]
theorem plainElem_bool_inv{v:Value}{b:Bool}{ps:List MemPlace}(h:plainElem (H:=Unit) Tryz.prog 4 v=some (.lit (.bool b),ps)):v=.bool b:=plain_bool_inv Tryz.underlying4 h
theorem SetI.look{w:World}{mb:Nat}{seen:List Int}(h:SetI w mb seen){x:Int}(hx:In64 x):(Instr.lookup 211 (.map (some mb)) (.int .i64 x) false).run Tryz.prog w=.ok (.bool (decide (x∈seen))) w:=by
 obtain⟨n,D,⟨es,clock,hb,F,_,rfl⟩,hn,hh⟩:=h
 have hx':=hh x
 rcases Maps.fit_look false lawI Tryz.underlying211 (zeroBool w) hb F (keyI hx)with⟨hrun,_,hat⟩|⟨e0,y,_,_,hrun,hRv,hat,_⟩
 ·rw[hat]at hx'
  rw[hrun]
  have e:decide (x∈seen)=false:=by simpa using hx'.symm
  rw[e];rfl
 ·rw[hat]at hx'
  rw[hrun]
  obtain⟨y1,y2⟩:=y
  simp only at hx'
  subst hx'
  rw[plainElem_bool_inv hRv];rfl
theorem SetI.lt{w:World}{mb:Nat}{seen:List Int}(h:SetI w mb seen):mb<w.heap.size:=by
 obtain⟨n,D,⟨es,clock,hb,r⟩,h2,h3⟩:=h
 rcases Nat.lt_or_ge mb w.heap.size with h'|h'
 ·exact h'
 ·rw[Array.getElem?_eq_none h']at hb;cases hb
theorem SetI.later{w w':World}{mb:Nat}{seen:List Int}(h:SetI w mb seen)(hx:Ext w w'):SetI w' mb seen:=by
 have hlt:=h.lt
 obtain⟨n,D,⟨es,clock,hb,r⟩,h2,h3⟩:=h
 exact⟨n,D,⟨es,clock,by rw[Below.block hx mb hlt];exact hb,r⟩,h2,h3⟩
theorem SetI.put{w w':World}{mb n:Nat}{D:DataW Unit}{seen:List Int}{x:Int}(hown:w.ownsMap Tryz.prog 3 (plainElem Tryz.prog 4) mb n D)(hn:n<=seen.length)(hh:∀y,D.atKey (.int .i64 y) (.lit (.bool false))=.lit (.bool (decide (y∈seen))))
 (ho:w'.ownsMap Tryz.prog 3 (plainElem Tryz.prog 4) mb (n+1) (D.put (.int .i64 x) (.lit (.bool true)))):SetI w' mb (seen++[x]):=by
 refine⟨n+1,_,ho,by simp;omega,fun y=>?_⟩
 by_cases e:y=x
 ·subst e
  rw[atKey_put_same hown.isMap (by first|trivial|simp[WideAt.IsKeyLit])]
  simp
 ·rw[atKey_put_other (by simp[e]),hh y]
  simp[e]
theorem prt_form{w:World}{p:Prt}{r:List Int}(h:IntsAt w p.rk r):p.rn=r.length:=by
 obtain⟨a,cap,h1,_⟩:=h.form
 simp only[Value.slice.injEq]at h1
 exact h1.2.1
theorem certFree_any(pv tv:Value)(c:Crt)(n:Int)(nb:Nat)(w:World)(h:CertAt w pv tv c)(hb:w.cell? ⟨nb,0,none⟩=some (I n)):
 Calls Tryz.prog 102 #[.agg #[I c.vd,pv,U c.dest,tv],I n,outF nb] w fun e w'=>e=.returned (I (freeV n c))/\Ext w w':=by
 have HC:=Hd h
 have HB:=Hd hb
 obtain⟨pa,pc,hpe,p1,p2,p3⟩:=h.parts.form
 obtain⟨ta,tc,hte,t1,t2,t3⟩:=h.tr.form
 subst hpe hte
 have P3:=Hd p3
 clear p3 t3 h hb
 unfold maxLen at p2 t2
 go_enter Tryz.func102,Tryz.ntmps102
 go_upto_region 1 with(fail)
 refine hBk w [I c.vd,.slice pa c.ps.length pc,U c.dest,.slice ta c.tr.length tc] 49 (fun W1 hW1=>?_)
 obtain⟨hx1,hk1⟩:=hW1
 have HX1:=Hd hx1
 have HK1:=Hd hk1
 clear hx1 hk1
 generalize w.heap.size=xb at*
 have hkc:=HK1.out.cells
 by_cases hd:c.dest=0#32/\c.tr.length=0
 ·have hd1:(c.dest !=0#32)=false:=by simp[hd.1]
  have hd2:decide ((0:Int)<(c.tr.length:Int))=false:=dF (by omega)
  have hd2n:decide (0<c.tr.length)=false:=dF (by omega)
  have HF1:=Hd (show freeV n c=if 8193<c.ps.length then 12 else if meetV c.ps≠0 then 15 else rksV n c.rks by unfold freeV;rw[if_neg (by rintro(g|g);exact g hd.1;omega)])
  clear hd
  by_cases hm:8193<c.ps.length
  ·have hm1:decide ((8193:Int)<(c.ps.length:Int))=true:=dT (by omega)
   have HF2:=Hd (HF1.out.trans (if_pos hm))
   go_wp2_with fail
   go_ret
   exact⟨by rw[HF2.out];rfl,HX1.out⟩
  ·have hm1:decide ((8193:Int)<(c.ps.length:Int))=false:=dF (by omega)
   have hm1n:decide (8193<c.ps.length)=false:=dF hm
   have HF2:=Hd (HF1.out.trans (if_neg hm))
   rcases meetV_two c.ps with hq|hq
   ·have HQ:=Hd hq
    have HF3:=Hd (show freeV n c=rksV n c.rks by rw[HF2.out,if_neg (by rw[hq];simp)])
    clear hq
    go_upto_region 9 with(first
     |(go_at_call 149;(with_reducible refine(certMeet_any _ c.ps _ (HC.out.parts.later HX1.out)).mono ?_);rintro e w2 ⟨he,hx2⟩;rw[HQ.out]at he;subst he;have HX2:=Hd (HX1.out.trans hx2);have hkc2:=(HK1.out.later hx2).cells;clear hx2))
    have HRL:=Hd HC.out.len
    go_wp2_with fail
    go_loopw[32] (fun i wr=>∃k:Nat,k<=c.ps.length/\i=I k/\Hid (rksV n c.rks=rksV n (c.rks.drop k))/\Hid (Ext w wr)) (fun i _=>c.ps.length-(intOf i).toNat)
    case atStart=>exact⟨0,by omega,rfl,rfl,HX2.out⟩
    case round=>
     obtain⟨k,hk,rfl,HG,HX⟩:=hrel
     by_cases hlt:k<c.ps.length
     ·have hkr:k<c.rks.length:=by rw[HRL.out];exact hlt
      obtain⟨b0,o0,he0,q0,q1,q2⟩:=P3.out k _ (gE hlt)
      subst he0
      replace q0:=HX.out.cell q0
      replace q1:=HX.out.cell q1
      replace q2:=HX.out.cell q2
      have hik:=HC.out.rk k _ _ (gE hlt) (gE hkr)
      have HRN:=Hd (prt_form hik)
      have HIK:=Hd (hik.later HX.out)
      have HST:=Hd (rksV_step n hkr)
      clear hik
      generalize c.ps[k]=p at*
      generalize c.rks[k]=r at*
      by_cases hl:(p.rn:Int)=n
      ·have hl1:((p.rn:Int) !=n)=false:=by simp[hl]
       have HNB:=Hd (HX.out.cell HB.out)
       cases ho:r.any (outB n)with
       |true=>
        have HO:=Hd ho
        have HR:=Hd (show freeV n c=16 by rw[HF3.out,HG.out,HST.out,if_neg (by rw[<-HRN.out];simp[hl]),if_pos ho])
        clear ho hl
        have HA:=Hd (show Ext wr (wr.alloc (.cells #[U p.fr,U p.up,p.rk] 85))from(eR wr).alloc _)
        go_wp2_with (first
         |(go_at_call 150;(with_reducible refine(containsFunc_any _ r n nb _ (HIK.out.later HA.out) (HA.out.cell HNB.out)).mono ?_);rintro e w' ⟨he,hw⟩;rw[HO.out]at he;subst he;obtain rfl:=hw.symm))
        go_ret
        exact⟨by rw[HR.out];rfl,HX.out.trans HA.out⟩
       |false=>
        have HO:=Hd ho
        have HR:=Hd (show rksV n c.rks=rksV n (c.rks.drop (k+1))by rw[HG.out,HST.out,if_neg (by rw[<-HRN.out];simp[hl]),ho];rfl)
        clear ho hl
        have HA:=Hd (show Ext wr (wr.alloc (.cells #[U p.fr,U p.up,p.rk] 85))from(eR wr).alloc _)
        go_wp2_with (first
         |(go_at_call 150;(with_reducible refine(containsFunc_any _ r n nb _ (HIK.out.later HA.out) (HA.out.cell HNB.out)).mono ?_);rintro e w' ⟨he,hw⟩;rw[HO.out]at he;subst he;obtain rfl:=hw.symm))
        go_roundw
        case rel=>exact⟨k+1,by omega,by go_num,HR.out,HX.out.trans HA.out⟩
        case measure=>simp[intOf];omega
      ·have hl1:((p.rn:Int) !=n)=true:=by simp[hl]
       have HR:=Hd (show freeV n c=1 by rw[HF3.out,HG.out,HST.out,if_pos (by rw[<-HRN.out];exact hl)])
       clear hl
       have HA:=Hd (show Ext wr (wr.alloc (.cells #[U p.fr,U p.up,p.rk] 85))from(eR wr).alloc _)
       go_wp2_with fail
       go_ret
       exact⟨by rw[HR.out];rfl,HX.out.trans HA.out⟩
     ·have HE:=Hd (show freeV n c=0 by rw[HF3.out,HG.out,rksV_end n (by have:=HRL.out;omega)])
      go_wp2_with fail
      go_ret
      exact⟨by rw[HE.out];rfl,HX.out⟩
   ·have HQ:=Hd hq
    have HF3:=Hd (show freeV n c=15 by rw[HF2.out,if_pos (by rw[hq];simp)])
    clear hq
    go_wp2_with (first
     |(go_at_call 149;(with_reducible refine(certMeet_any _ c.ps _ (HC.out.parts.later HX1.out)).mono ?_);rintro e w2 ⟨he,hx2⟩;rw[HQ.out]at he;subst he;have HX2:=Hd (HX1.out.trans hx2);clear hx2))
    go_ret
    exact⟨by rw[HF3.out];rfl,HX2.out⟩
 ·have HF1:=Hd (show freeV n c=3 by unfold freeV;rw[if_pos (by by_cases g:c.dest=0#32;exact .inr (by rcases Nat.eq_zero_or_pos c.tr.length with g2|g2;exact absurd ⟨g,g2⟩ hd;exact g2);exact .inl g)])
  by_cases g:c.dest=0#32
  ·have hd1:(c.dest !=0#32)=false:=by simp[g]
   have hd2:decide ((0:Int)<(c.tr.length:Int))=true:=dT (by
    rcases Nat.eq_zero_or_pos c.tr.length with g2|g2
    ·exact absurd ⟨g,g2⟩ hd
    ·omega)
   have hd2n:decide (0<c.tr.length)=true:=dT (by
    rcases Nat.eq_zero_or_pos c.tr.length with g2|g2
    ·exact absurd ⟨g,g2⟩ hd
    ·exact g2)
   clear hd g
   go_wp2_with fail
   go_ret
   exact⟨by rw[HF1.out];rfl,HX1.out⟩
  ·have hd1:(c.dest !=0#32)=true:=by simp[g]
   clear hd g
   go_wp2_with fail
   go_ret
   exact⟨by rw[HF1.out];rfl,HX1.out⟩
theorem certLoops_any(pv tv:Value)(c:Crt)(n:Int)(nb:Nat)(w:World)(h:CertAt w pv tv c)(hok:∀x∈c.tr,In64 x)(hb:w.cell? ⟨nb,0,none⟩=some (I n)):
 Calls Tryz.prog 103 #[.agg #[I c.vd,pv,U c.dest,tv],I n,outF nb] w fun e w'=>e=.returned (I (loopsV n c))/\Ext w w':=by
 have HC:=Hd h
 have HB:=Hd hb
 have HOK:=Hd hok
 obtain⟨pa,pc,hpe,p1,p2,p3⟩:=h.parts.form
 obtain⟨ta,tc,hte,t1,t2,t3⟩:=h.tr.form
 subst hpe hte
 have T3:=Hd t3
 clear p3 t3 h hb hok
 unfold maxLen at p2 t2
 have hmm:= @run_makeMap Tryz.prog
 go_enter Tryz.func103,Tryz.ntmps103
 go_upto_region 1 with(fail)
 refine hBk w [I c.vd,.slice pa c.ps.length pc,U c.dest,.slice ta c.tr.length tc] 49 (fun W1 hW1=>?_)
 obtain⟨hx1,hk1⟩:=hW1
 have HX1:=Hd hx1
 have HK1:=Hd hk1
 clear hx1 hk1
 have HXL:=Hd HK1.out.lt
 generalize hxb:w.heap.size=xb at*
 have HXB:=Hd hxb
 clear hxb
 have hkc:=HK1.out.cells
 by_cases hp:0<c.ps.length
 ·have h1:decide ((0:Int)<(c.ps.length:Int))=true:=dT (by omega)
  have h1n:decide (0<c.ps.length)=true:=dT hp
  have HF:=Hd (show loopsV n c=3 by unfold loopsV;rw[if_pos hp])
  clear hp
  go_wp2_with fail
  go_ret
  exact⟨by rw[HF.out];rfl,HX1.out⟩
 have h1:decide ((0:Int)<(c.ps.length:Int))=false:=dF (by omega)
 have h1n:decide (0<c.ps.length)=false:=dF hp
 have HF1:=Hd (show loopsV n c=if c.tr.length=0\/n<(c.tr.length:Int)then 12 else if c.tr.any (outB n)then 10 else if trG (c.tr.headD 0) [] c.tr then 17 else 0 by unfold loopsV;rw[if_neg hp])
 clear hp
 by_cases h0:c.tr.length=0
 ·have h2:((c.tr.length:Int)==0)=true:=by simp[h0]
  have HF:=Hd (HF1.out.trans (if_pos (.inl h0)))
  clear h0
  go_wp2_with fail
  go_ret
  exact⟨by rw[HF.out];rfl,HX1.out⟩
 have h2:((c.tr.length:Int)==0)=false:=beq_false_of_ne (by omega)
 by_cases hn:n<(c.tr.length:Int)
 ·have h3:decide (n<(c.tr.length:Int))=true:=dT hn
  have HF:=Hd (HF1.out.trans (if_pos (.inr hn)))
  clear h0 hn
  go_wp2_with fail
  go_ret
  exact⟨by rw[HF.out];rfl,HX1.out⟩
 have h3:decide (n<(c.tr.length:Int))=false:=dF hn
 have HF2:=Hd (HF1.out.trans (if_neg (by rintro(g|g);exact h0 g;exact hn g)))
 have HNB:=Hd (HX1.out.cell HB.out)
 have HT1:=Hd (HC.out.tr.later HX1.out)
 cases ho:c.tr.any (outB n)with
 |true=>
  have HO:=Hd ho
  have HF:=Hd (HF2.out.trans (if_pos ho))
  clear ho h0 hn
  go_wp2_with (first
   |(go_at_call 150;(with_reducible refine(containsFunc_any _ c.tr n nb _ HT1.out HNB.out).mono ?_);rintro e w' ⟨he,hw⟩;rw[HO.out]at he;subst he;obtain rfl:=hw.symm))
  go_ret
  exact⟨by rw[HF.out];rfl,HX1.out⟩
 |false=>
  have HO:=Hd ho
  have HF:=Hd (HF2.out.trans (if_neg (by rw[ho];simp)))
  have hlp:0<c.tr.length:=by omega
  obtain⟨f,hf⟩:∃f,c.tr[0]? =some f:=⟨c.tr[0],gE hlp⟩
  have HHD:=Hd (show c.tr.headD 0=f by cases ht:c.tr with|nil=>rw[ht]at hlp;simp at hlp|cons y t=>rw[ht]at hf;simpa using hf)
  rw[HHD.out]at HF
  clear ho h0 hn HF1 HF2
  obtain⟨bf,of,hef,qf⟩:=T3.out 0 f hf
  subst hef
  have HQF:=Hd qf
  clear qf hf
  go_upto_region 8 with(first
   |(go_at_call 150;(with_reducible refine(containsFunc_any _ c.tr n nb _ HT1.out HNB.out).mono ?_);rintro e w' ⟨he,hw⟩;rw[HO.out]at he;subst he;obtain rfl:=hw.symm))
  refine hWp (fun W=>Ext w W/\Ext W1 W/\SetI W W1.heap.size [])
   ⟨HX1.out.alloc _,by(repeat with_reducible first|exact eR _|assumption|refine eA ?_ _|refine eD ?_|refine eW ?_ _|(refine eS ?_ ?_;focus(first|(simp;done)|(simp;omega)|omega))),SetI.start W1⟩ (fun W2 hW2=>?_)
  obtain⟨hx2,hy2,hs2⟩:=hW2
  have HX2:=Hd hx2
  have HK2:=Hd (HK1.out.later hy2)
  have HS2:=Hd hs2
  have HMB:=Hd (show w.heap.size<=W1.heap.size from HX1.out.size)
  have HXM:=Hd (show xb<W1.heap.size from HXL.out)
  clear hx2 hs2 hy2 hmm hkc
  generalize W1.heap.size=mb at*
  have hkc2:=HK2.out.cells
  go_wp2_with fail
  clear hkc2
  go_loopw[33] (fun i wr=>∃k:Nat,k<=c.tr.length/\i=I k/\Hid (SetI wr mb (c.tr.take k))/\Hid (trG f [] c.tr=trG f (c.tr.take k) (c.tr.drop k))/\Hid (Ext w wr)/\Hid (Blk wr xb [I c.vd,.slice pa c.ps.length pc,U c.dest,.slice (some ⟨bf,of,none⟩) c.tr.length tc] 49)) (fun i _=>c.tr.length-(intOf i).toNat)
  case atStart=>exact⟨0,by omega,rfl,HS2.out,rfl,HX2.out,HK2.out⟩
  case round=>
   obtain⟨k,hk,rfl,HS,HG,HX,HK⟩:=hrel
   have hkr:=HK.out.cells
   by_cases hlt:k<c.tr.length
   ·obtain⟨b0,o0,he0,q0⟩:=T3.out k _ (gE hlt)
    simp only[Option.some.injEq,Addr.mk.injEq,and_true]at he0
    obtain⟨rfl,rfl⟩:=he0
    replace q0:=HX.out.cell q0
    have qf:=HX.out.cell HQF.out
    simp only[Nat.add_zero]at qf
    have HIN:=Hd (HOK.out _ (List.getElem_mem hlt))
    have HST:=Hd (trG_step f hlt)
    have hlk:=HS.out.look HIN.out
    have HTK:=Hd (show c.tr.take (k+1)=c.tr.take k++[c.tr[k]]from List.take_succ_eq_append_getElem hlt)
    have HTL:=Hd (show(c.tr.take k).length<maxLen by rw[List.length_take];unfold maxLen;omega)
    generalize c.tr[k]=x at*
    by_cases hm:x∈c.tr.take k
    ·have hmd:decide (x∈c.tr.take k)=true:=dT hm
     rw[hmd]at hlk
     have HR:=Hd (show loopsV n c=17 by rw[HF.out,HG.out,HST.out,hmd];rfl)
     clear hm hmd
     go_wp2_with fail
     go_ret
     exact⟨by rw[HR.out];rfl,HX.out⟩
    ·have hmd:decide (x∈c.tr.take k)=false:=dF hm
     rw[hmd]at hlk
     by_cases hlf:x<f
     ·have hfd:decide (x<f)=true:=dT hlf
      have HR:=Hd (show loopsV n c=17 by rw[HF.out,HG.out,HST.out,hmd,hfd];rfl)
      clear hm hmd hlf
      go_wp2_with fail
      go_ret
      exact⟨by rw[HR.out];rfl,HX.out⟩
     ·have hfd:decide (x<f)=false:=dF hlf
      have HR:=Hd (show trG f [] c.tr=trG f (c.tr.take (k+1)) (c.tr.drop (k+1))by rw[HG.out,HST.out,hmd,hfd];rfl)
      obtain⟨nn,D,hown,hnn,hh⟩:=HS.out
      have HOWN:=Hd hown
      have HNN:=Hd hnn
      have HH:=Hd hh
      have HLT:=Hd (Nat.lt_of_le_of_lt hnn HTL.out)
      have HKEY:=Hd (keyI HIN.out)
      clear hm hmd hlf hown hnn hh
      go_wp2_with (first
       |(at_mapUpdate;refine wpList_mapUpdate_own _ rfl _ _ _ 211 rfl 3 4 lawI Tryz.underlying211 _ mb nn D rfl HOWN.out HLT.out _ _ _ rfl rfl HKEY.out _ [] (plainElem_bool Tryz.underlying4 true) ?_;intro w7 hown7 hgrow7
         have HS7:=Hd (SetI.put HOWN.out HNN.out HH.out hown7)
         have HX7:=Hd (show Ext w w7 from Below.grown HX.out hgrow7 HX.out.size (fun g e=>by cases e;exact HMB.out))
         have HK7:=Hd (blk_grown HK.out (fun g e=>by cases e;have:=HXM.out;omega) hgrow7)
         clear hown7 hgrow7))
      go_roundw
      case rel=>exact⟨k+1,by omega,by go_num,by show SetI _ _ _;rw[HTK.out];exact HS7.out,HR.out,HX7.out,HK7.out⟩
      case measure=>simp[intOf];omega
   ·have HE:=Hd (show loopsV n c=0 by rw[HF.out,HG.out,trG_end f (by omega)];rfl)
    go_wp2_with fail
    go_ret
    exact⟨by rw[HE.out];rfl,HX.out⟩
theorem certMay_any(pv tv:Value)(c:Crt)(n:Int)(w:World)(h:CertAt w pv tv c)(hok:∀x∈c.tr,In64 x):
 Calls Tryz.prog 43 #[.agg #[I c.vd,pv,U c.dest,tv],I n] w fun e w'=>e=.returned (I (certMayV n c))/\Ext w w':=by
 have HC:=Hd h
 have HOK:=Hd hok
 obtain⟨pa,pc,hpe,p1,p2,p3⟩:=h.parts.form
 obtain⟨ta,tc,hte,t1,t2,t3⟩:=h.tr.form
 subst hpe hte
 clear p3 t3 h hok
 unfold maxLen at p2 t2
 go_enter Tryz.func43,Tryz.ntmps43
 go_upto_region 1 with(fail)
 refine hWp (fun W=>Ext w W/\Blk W w.heap.size [I c.vd,.slice pa c.ps.length pc,U c.dest,.slice ta c.tr.length tc] 49/\Blk W (w.heap.size+1) [I n] 3)
  ⟨by(repeat with_reducible first|exact eR _|assumption|refine eA ?_ _|refine eD ?_|refine eW ?_ _|(refine eS ?_ ?_;focus(first|(simp;done)|(simp;omega)|omega))),(Blk.new w [I c.vd,.slice pa c.ps.length pc,U c.dest,.slice ta c.tr.length tc] 49).old _,Blk.newAt [I n] (by simp)⟩ (fun W1 hW1=>?_)
 obtain⟨hx1,hk1,hb1⟩:=hW1
 have HX1:=Hd hx1
 have HC1:=Hd (HC.out.later hx1)
 have HB1:=Hd (show W1.cell? ⟨w.heap.size+1,0,none⟩=some (I n)from hb1.cells 0)
 have hkc:=hk1.cells
 have hbc:=hb1.cells
 clear hx1 hk1 hb1
 generalize w.heap.size+1=nb at*
 generalize w.heap.size=xb at*
 by_cases h1:c.vd=1
 ·have h1b:(c.vd==1)=true:=by simp[h1]
  have HR:=Hd (show certMayV n c=freeV n c by unfold certMayV;rw[if_pos h1])
  clear h1
  go_wp2_with (first
   |(go_at_call 102;(with_reducible refine(certFree_any _ _ c n nb _ HC1.out HB1.out).mono ?_);rintro e w2 ⟨he,hx2⟩;subst he;have HX2:=Hd (HX1.out.trans hx2);clear hx2))
  go_ret
  exact⟨by rw[HR.out];rfl,HX2.out⟩
 ·have h1b:(c.vd==1)=false:=beq_false_of_ne h1
  by_cases h2:c.vd=2
  ·have h2b:(c.vd==2)=true:=by simp[h2]
   have HR:=Hd (show certMayV n c=loopsV n c by unfold certMayV;rw[if_neg h1,if_pos h2])
   clear h1 h2
   go_wp2_with (first
    |(go_at_call 103;(with_reducible refine(certLoops_any _ _ c n nb _ HC1.out HOK.out HB1.out).mono ?_);rintro e w2 ⟨he,hx2⟩;subst he;have HX2:=Hd (HX1.out.trans hx2);clear hx2))
   go_ret
   exact⟨by rw[HR.out];rfl,HX2.out⟩
  ·have h2b:(c.vd==2)=false:=beq_false_of_ne h2
   have HR:=Hd (show certMayV n c=9 by unfold certMayV;rw[if_neg h1,if_neg h2])
   clear h1 h2
   go_wp2_with fail
   go_ret
   exact⟨by rw[HR.out];rfl,HX1.out⟩
theorem r17In_any(v:Value)(l:List Int)(n:Int)(w:World)(hv:IntsAt w v l):
 Calls Tryz.prog 115 #[v,I n] w fun e w'=>e=.returned (.bool (!l.any (outB n)))/\w'=w:=by
 obtain⟨a,cap,rfl,a1,a2,a3⟩:=hv.form
 have A3:=Hd a3
 clear a3 hv
 unfold maxLen at a2
 go_enter Tryz.func115,Tryz.ntmps115
 go_wp2_with fail
 go_loopw[5] (fun i wr=>∃k:Nat,k<=l.length/\i=I k/\Hid (∀x∈l.take k,outB n x=false)/\wr=w) (fun i _=>l.length-(intOf i).toNat)
 case atStart=>exact⟨0,by omega,rfl,fun x hx=>by simp at hx,rfl⟩
 case round=>
  obtain⟨k,hk,rfl,HN,rfl⟩:=hrel
  by_cases hlt:k<l.length
  ·obtain⟨b0,o0,rfl,p0⟩:=A3.out k l[k] (gE hlt)
   by_cases h1:l[k]<0
   ·have hd1:decide (l[k]<0)=true:=dT h1
    have HA:=Hd (any_at hlt (show outB n l[k]=true by unfold outB;rw[hd1];rfl))
    clear h1
    generalize l[k]=x at*
    go_wp2_with fail
    go_ret
    exact⟨by rw[HA.out];rfl,by first|trivial|rfl⟩
   ·have hd1:decide (l[k]<0)=false:=dF h1
    by_cases h2:n<=l[k]
    ·have hd2:decide (n<=l[k])=true:=dT h2
     have HA:=Hd (any_at hlt (show outB n l[k]=true by unfold outB;rw[hd1,hd2];rfl))
     clear h1 h2
     generalize l[k]=x at*
     go_wp2_with fail
     go_ret
     exact⟨by rw[HA.out];rfl,by first|trivial|rfl⟩
    ·have hd2:decide (n<=l[k])=false:=dF h2
     have HT:=Hd (take_no hlt HN.out (show outB n l[k]=false by unfold outB;rw[hd1,hd2];rfl))
     clear h1 h2
     generalize l[k]=x at*
     go_wp2_with fail
     go_roundw
     case rel=>exact⟨k+1,by omega,by go_num,HT.out,by first|trivial|rfl⟩
     case measure=>simp[intOf];omega
  ·have HA:=Hd (any_no HN.out (show l.length<=k by omega))
   go_wp2_with fail
   go_ret
   exact⟨by rw[HA.out];rfl,by first|trivial|rfl⟩
theorem r17Free_any(pv tv:Value)(c:Crt)(n:Int)(w:World)(h:CertAt w pv tv c):
 Calls Tryz.prog 114 #[.agg #[I c.vd,pv,U c.dest,tv],I n] w fun e w'=>e=.returned (I (freeV n c))/\Ext w w':=by
 have HC:=Hd h
 obtain⟨pa,pc,hpe,p1,p2,p3⟩:=h.parts.form
 obtain⟨ta,tc,hte,t1,t2,t3⟩:=h.tr.form
 subst hpe hte
 have P3:=Hd p3
 clear p3 t3 h
 unfold maxLen at p2 t2
 go_enter Tryz.func114,Tryz.ntmps114
 go_upto_region 1 with(fail)
 refine hBk w [I c.vd,.slice pa c.ps.length pc,U c.dest,.slice ta c.tr.length tc] 49 (fun W1 hW1=>?_)
 obtain⟨hx1,hk1⟩:=hW1
 have HX1:=Hd hx1
 have HK1:=Hd hk1
 clear hx1 hk1
 generalize w.heap.size=xb at*
 have hkc:=HK1.out.cells
 by_cases hd:c.dest=0#32/\c.tr.length=0
 ·have hd1:(c.dest !=0#32)=false:=by simp[hd.1]
  have hd2:decide ((0:Int)<(c.tr.length:Int))=false:=dF (by omega)
  have hd2n:decide (0<c.tr.length)=false:=dF (by omega)
  have HF1:=Hd (show freeV n c=if 8193<c.ps.length then 12 else if meetV c.ps≠0 then 15 else rksV n c.rks by unfold freeV;rw[if_neg (by rintro(g|g);exact g hd.1;omega)])
  clear hd
  by_cases hm:8193<c.ps.length
  ·have hm1:decide ((8193:Int)<(c.ps.length:Int))=true:=dT (by omega)
   have HF2:=Hd (HF1.out.trans (if_pos hm))
   go_wp2_with fail
   go_ret
   exact⟨by rw[HF2.out];rfl,HX1.out⟩
  ·have hm1:decide ((8193:Int)<(c.ps.length:Int))=false:=dF (by omega)
   have hm1n:decide (8193<c.ps.length)=false:=dF hm
   have HF2:=Hd (HF1.out.trans (if_neg hm))
   rcases meetV_two c.ps with hq|hq
   ·have HQ:=Hd hq
    have HF3:=Hd (show freeV n c=rksV n c.rks by rw[HF2.out,if_neg (by rw[hq];simp)])
    clear hq
    have HRL:=Hd HC.out.len
    go_wp2_with (first
     |(go_at_call 157;(with_reducible refine(r17Meet_any _ c.ps _ (HC.out.parts.later HX1.out)).mono ?_);rintro e w2 ⟨he,hx2⟩;rw[HQ.out]at he;subst he;have HX2:=Hd (HX1.out.trans hx2);have HK2:=Hd (HK1.out.later hx2);clear hx2))
    clear hkc
    go_loopw[5] (fun i wr=>∃k:Nat,k<=c.ps.length/\i=I k/\Hid (rksV n c.rks=rksV n (c.rks.drop k))/\Hid (Ext w2 wr)) (fun i _=>c.ps.length-(intOf i).toNat)
    case atStart=>exact⟨0,by omega,rfl,rfl,eR _⟩
    case round=>
     obtain⟨k,hk,rfl,HG,HXX⟩:=hrel
     have HX:=Hd (HX2.out.trans HXX.out)
     have hkr2:=(HK2.out.later HXX.out).cells
     by_cases hlt:k<c.ps.length
     ·have hkr:k<c.rks.length:=by rw[HRL.out];exact hlt
      obtain⟨b0,o0,he0,q0,q1,q2⟩:=P3.out k _ (gE hlt)
      subst he0
      replace q0:=HX.out.cell q0
      replace q1:=HX.out.cell q1
      replace q2:=HX.out.cell q2
      have hik:=HC.out.rk k _ _ (gE hlt) (gE hkr)
      have HRN:=Hd (prt_form hik)
      have HIK:=Hd (hik.later HX.out)
      have HST:=Hd (rksV_step n hkr)
      clear hik
      generalize c.ps[k]=p at*
      generalize c.rks[k]=r at*
      by_cases hl:(p.rn:Int)=n
      ·have hl1:((p.rn:Int) !=n)=false:=by simp[hl]
       cases ho:r.any (outB n)with
       |true=>
        have HO:=Hd (show(!r.any (outB n))=false by rw[ho];rfl)
        have HR:=Hd (show freeV n c=16 by rw[HF3.out,HG.out,HST.out,if_neg (by rw[<-HRN.out];simp[hl]),if_pos ho])
        clear ho hl
        go_wp2_with (first
         |(go_at_call 115;(with_reducible refine(r17In_any _ r n _ HIK.out).mono ?_);rintro e w' ⟨he,hw⟩;rw[HO.out]at he;subst he;obtain rfl:=hw.symm))
        go_ret
        exact⟨by rw[HR.out];rfl,HX.out⟩
       |false=>
        have HO:=Hd (show(!r.any (outB n))=true by rw[ho];rfl)
        have HR:=Hd (show rksV n c.rks=rksV n (c.rks.drop (k+1))by rw[HG.out,HST.out,if_neg (by rw[<-HRN.out];simp[hl]),ho];rfl)
        clear ho hl
        go_wp2_with (first
         |(go_at_call 115;(with_reducible refine(r17In_any _ r n _ HIK.out).mono ?_);rintro e w' ⟨he,hw⟩;rw[HO.out]at he;subst he;obtain rfl:=hw.symm))
        go_roundw
        case rel=>exact⟨k+1,by omega,by go_num,HR.out,HXX.out⟩
        case measure=>simp[intOf];omega
      ·have hl1:((p.rn:Int) !=n)=true:=by simp[hl]
       have HR:=Hd (show freeV n c=1 by rw[HF3.out,HG.out,HST.out,if_pos (by rw[<-HRN.out];exact hl)])
       clear hl
       go_wp2_with fail
       go_ret
       exact⟨by rw[HR.out];rfl,HX.out⟩
     ·have HE:=Hd (show freeV n c=0 by rw[HF3.out,HG.out,rksV_end n (by have:=HRL.out;omega)])
      have hkd:decide ((k:Int)<(c.ps.length:Int))=false:=dF (by omega)
      go_wp2_with fail
      go_ret
      exact⟨by rw[HE.out];rfl,HX.out⟩
   ·have HQ:=Hd hq
    have HF3:=Hd (show freeV n c=15 by rw[HF2.out,if_pos (by rw[hq];simp)])
    clear hq
    go_wp2_with (first
     |(go_at_call 157;(with_reducible refine(r17Meet_any _ c.ps _ (HC.out.parts.later HX1.out)).mono ?_);rintro e w2 ⟨he,hx2⟩;rw[HQ.out]at he;subst he;have HX2:=Hd (HX1.out.trans hx2);clear hx2))
    go_ret
    exact⟨by rw[HF3.out];rfl,HX2.out⟩
 ·have HF1:=Hd (show freeV n c=3 by unfold freeV;rw[if_pos (by by_cases g:c.dest=0#32;exact .inr (by rcases Nat.eq_zero_or_pos c.tr.length with g2|g2;exact absurd ⟨g,g2⟩ hd;exact g2);exact .inl g)])
  by_cases g:c.dest=0#32
  ·have hd1:(c.dest !=0#32)=false:=by simp[g]
   have hd2:decide ((0:Int)<(c.tr.length:Int))=true:=dT (by
    rcases Nat.eq_zero_or_pos c.tr.length with g2|g2
    ·exact absurd ⟨g,g2⟩ hd
    ·omega)
   have hd2n:decide (0<c.tr.length)=true:=dT (by
    rcases Nat.eq_zero_or_pos c.tr.length with g2|g2
    ·exact absurd ⟨g,g2⟩ hd
    ·exact g2)
   clear hd g
   go_wp2_with fail
   go_ret
   exact⟨by rw[HF1.out];rfl,HX1.out⟩
  ·have hd1:(c.dest !=0#32)=true:=by simp[g]
   clear hd g
   go_wp2_with fail
   go_ret
   exact⟨by rw[HF1.out];rfl,HX1.out⟩
theorem r17May_any(pv tv:Value)(c:Crt)(n:Int)(w:World)(h:CertAt w pv tv c):
 Calls Tryz.prog 55 #[.agg #[I c.vd,pv,U c.dest,tv],I n] w fun e w'=>e=.returned (I (certMayV n c))/\Ext w w':=by
 have HC:=Hd h
 obtain⟨pa,pc,hpe,p1,p2,p3⟩:=h.parts.form
 obtain⟨ta,tc,hte,t1,t2,t3⟩:=h.tr.form
 subst hpe hte
 have T3:=Hd t3
 clear p3 t3 h
 unfold maxLen at p2 t2
 go_enter Tryz.func55,Tryz.ntmps55
 go_upto_region 1 with(fail)
 refine hBk w [I c.vd,.slice pa c.ps.length pc,U c.dest,.slice ta c.tr.length tc] 49 (fun W1 hW1=>?_)
 obtain⟨hx1,hk1⟩:=hW1
 have HX1:=Hd hx1
 have HK1:=Hd hk1
 have HC1:=Hd (HC.out.later hx1)
 clear hx1 hk1
 generalize w.heap.size=xb at*
 have hkc:=HK1.out.cells
 by_cases h1:c.vd=1
 ·have h1b:(c.vd==1)=true:=by simp[h1]
  have HR:=Hd (show certMayV n c=freeV n c by unfold certMayV;rw[if_pos h1])
  clear h1
  go_wp2_with (first
   |(go_at_call 114;(with_reducible refine(r17Free_any _ _ c n _ HC1.out).mono ?_);rintro e w2 ⟨he,hx2⟩;subst he;have HX2:=Hd (HX1.out.trans hx2);clear hx2))
  go_ret
  exact⟨by rw[HR.out];rfl,HX2.out⟩
 have h1b:(c.vd==1)=false:=beq_false_of_ne h1
 by_cases h2':c.vd≠2
 ·have h2:=h2'
  have h2b:(c.vd !=2)=true:=by simp[h2]
  have HR:=Hd (show certMayV n c=9 by unfold certMayV;rw[if_neg h1,if_neg h2])
  clear h1 h2 h2'
  go_wp2_with fail
  go_ret
  exact⟨by rw[HR.out];rfl,HX1.out⟩
 have h2:c.vd=2:=by omega
 clear h2'
 have h2b:(c.vd !=2)=false:=by simp[h2]
 have HR0:=Hd (show certMayV n c=loopsV n c by unfold certMayV;rw[if_neg h1,if_pos h2])
 clear h1 h2
 by_cases hp:0<c.ps.length
 ·have g1:decide ((0:Int)<(c.ps.length:Int))=true:=dT (by omega)
  have g1n:decide (0<c.ps.length)=true:=dT hp
  have HF:=Hd (show loopsV n c=3 by unfold loopsV;rw[if_pos hp])
  clear hp
  go_wp2_with fail
  go_ret
  exact⟨by rw[HR0.out,HF.out];rfl,HX1.out⟩
 have g1:decide ((0:Int)<(c.ps.length:Int))=false:=dF (by omega)
 have g1n:decide (0<c.ps.length)=false:=dF hp
 have HF1:=Hd (show loopsV n c=if c.tr.length=0\/n<(c.tr.length:Int)then 12 else if c.tr.any (outB n)then 10 else if trG (c.tr.headD 0) [] c.tr then 17 else 0 by unfold loopsV;rw[if_neg hp])
 clear hp
 by_cases h0:c.tr.length=0
 ·have g2:((c.tr.length:Int)==0)=true:=by simp[h0]
  have HF:=Hd (HF1.out.trans (if_pos (.inl h0)))
  clear h0
  go_wp2_with fail
  go_ret
  exact⟨by rw[HR0.out,HF.out];rfl,HX1.out⟩
 have g2:((c.tr.length:Int)==0)=false:=beq_false_of_ne (by omega)
 by_cases hn:n<(c.tr.length:Int)
 ·have g3:decide (n<(c.tr.length:Int))=true:=dT hn
  have HF:=Hd (HF1.out.trans (if_pos (.inr hn)))
  clear h0 hn
  go_wp2_with fail
  go_ret
  exact⟨by rw[HR0.out,HF.out];rfl,HX1.out⟩
 have g3:decide (n<(c.tr.length:Int))=false:=dF hn
 have HF2:=Hd (HF1.out.trans (if_neg (by rintro(g|g);exact h0 g;exact hn g)))
 have HT1:=Hd (HC.out.tr.later HX1.out)
 cases ho:c.tr.any (outB n)with
 |true=>
  have HO:=Hd (show(!c.tr.any (outB n))=false by rw[ho];rfl)
  have HF:=Hd (HF2.out.trans (if_pos ho))
  clear ho h0 hn
  go_wp2_with (first
   |(go_at_call 115;(with_reducible refine(r17In_any _ c.tr n _ HT1.out).mono ?_);rintro e w' ⟨he,hw⟩;rw[HO.out]at he;subst he;obtain rfl:=hw.symm))
  go_ret
  exact⟨by rw[HR0.out,HF.out];rfl,HX1.out⟩
 |false=>
  have HO:=Hd (show(!c.tr.any (outB n))=true by rw[ho];rfl)
  have HF:=Hd (HF2.out.trans (if_neg (by rw[ho];simp)))
  have hlp:0<c.tr.length:=by omega
  obtain⟨f,hf⟩:∃f,c.tr[0]? =some f:=⟨c.tr[0],gE hlp⟩
  have HHD:=Hd (show c.tr.headD 0=f by cases ht:c.tr with|nil=>rw[ht]at hlp;simp at hlp|cons y t=>rw[ht]at hf;simpa using hf)
  rw[HHD.out]at HF
  clear ho h0 hn HF1 HF2
  obtain⟨bf,of,hef,qf⟩:=T3.out 0 f hf
  subst hef
  have HQF:=Hd (HX1.out.cell qf)
  have HF0:=Hd hf
  clear qf hf
  go_wp2_with (first
   |(go_at_call 115;(with_reducible refine(r17In_any _ c.tr n _ HT1.out).mono ?_);rintro e w' ⟨he,hw⟩;rw[HO.out]at he;subst he;obtain rfl:=hw.symm))
  clear hkc
  go_loopw[5] (fun i wr=>∃k:Nat,k<=c.tr.length/\i=I k/\Hid (trG f [] c.tr=trG f (c.tr.take k) (c.tr.drop k))/\Hid (Ext W1 wr)) (fun i _=>c.tr.length-(intOf i).toNat)
  case atStart=>exact⟨0,by omega,rfl,rfl,eR _⟩
  case round=>
   obtain⟨k,hk,rfl,HG,HX⟩:=hrel
   have HKr:=Hd (HK1.out.later HX.out)
   have hkr:=HKr.out.cells
   by_cases hlt:k<c.tr.length
   ·have hkd:decide ((k:Int)<(c.tr.length:Int))=true:=dT (by omega)
    obtain⟨b0,o0,he0,q0⟩:=T3.out k _ (gE hlt)
    simp only[Option.some.injEq,Addr.mk.injEq,and_true]at he0
    obtain⟨rfl,rfl⟩:=he0
    have HQ0:=Hd (HX1.out.cell q0)
    have HST:=Hd (trG_step f hlt)
    have HK0:=Hd (show k=0->c.tr[k]=f from fun e=>by subst e;have h:=HF0.out;rw[gE hlt]at h;exact Option.some.inj h)
    clear q0
    generalize hx:c.tr[k]=x at*
    clear hx
    go_wp2_with fail
    go_loopw[6] (fun q wr=>∃j:Nat,j<=k/\q=I j/\Hid (x∉c.tr.take j)/\Hid (0<j->f<=x)/\Hid (Ext W1 wr)) (fun q _=>k-(intOf q).toNat)
    case atStart=>exact⟨0,by omega,rfl,fun h=>by simp at h,fun h=>by omega,HX.out⟩
    case round=>
     obtain⟨j,hj,rfl,HN,HL,HXJ⟩:=hrel
     have HKj:=Hd (HK1.out.later HXJ.out)
     have hkj:=HKj.out.cells
     by_cases hjl:j<k
     ·have hjd:decide ((j:Int)<(k:Int))=true:=dT (by omega)
      have hjt:j<c.tr.length:=by omega
      obtain⟨b1,o1,he1,r1⟩:=T3.out j _ (gE hjt)
      simp only[Option.some.injEq,Addr.mk.injEq,and_true]at he1
      obtain⟨rfl,rfl⟩:=he1
      have P0:=Hd (HXJ.out.cell HQ0.out)
      have P1:=Hd (HXJ.out.cell (HX1.out.cell r1))
      have P2:=Hd (show wr.cell? ⟨bf,of,none⟩=some (I f)from by have:=HXJ.out.cell HQF.out;simpa using this)
      have HJT:=Hd (show c.tr.take (j+1)=c.tr.take j++[c.tr[j]]from List.take_succ_eq_append_getElem hjt)
      have HMEM:=Hd (show c.tr[j]∈c.tr.take k from by
       rw[List.mem_iff_getElem]
       exact⟨j,by rw[List.length_take];omega,by rw[List.getElem_take]⟩)
      clear r1
      generalize c.tr[j]=y at*
      by_cases hyx:y=x
      ·have hb1:(y==x)=true:=by simp[hyx]
       have HR:=Hd (show loopsV n c=17 by rw[HF.out,HG.out,HST.out,dT (by rw[<-hyx];exact HMEM.out)];rfl)
       clear hyx
       go_wp2_with fail
       refine wp_region_E 22 rfl (by kernel_rfl) (by kernel_rfl) ?_
       have k1:=HKj.out.keep
       have k2:=Ext.keep P0.out
       have k3:=Ext.keep P1.out
       refine WEi_at 0 ?_
       iterate 12
        refine WEi_q rfl (by decide) (by kernel_rfl) rfl ?_;apply Exists.intro;refine⟨fun w1 hx1=>?_,?_⟩
        ·have hq1:=hx1.cells;go_simp;try go_bits
         first|with_reducible rfl
        go_frame;try simp only[Nat.reduceAdd]
       refine WEi_out ?_
       refine WEi_at 12 ?_
       iterate 10
        refine WEi_s rfl (by decide) (by kernel_rfl) rfl ?_
        go_frame;try simp only[Nat.reduceAdd]
       refine WEi_out ?_
       refine WE_done (by kernel_rfl) (fun w9 hx9=>?_)
       (try simp only[List.drop_succ_cons,List.drop_zero])
       clear k1 k2 k3
       go_wp2_with fail
       go_ret
       exact⟨by rw[HR0.out,HR.out];rfl,HX1.out.trans (HXJ.out.trans hx9)⟩
      ·have hb1:(y==x)=false:=beq_false_of_ne hyx
       by_cases hxf:x<f
       ·have hb2:decide (x<f)=true:=dT hxf
        have HR:=Hd (show loopsV n c=17 by rw[HF.out,HG.out,HST.out,hb2];simp)
        clear hyx hxf
        go_wp2_with fail
        refine wp_region_E 22 rfl (by kernel_rfl) (by kernel_rfl) ?_
        have k1:=HKj.out.keep
        have k2:=Ext.keep P0.out
        have k3:=Ext.keep P1.out
        have k4:=Ext.keep P2.out
        refine WEi_at 0 ?_
        iterate 22
         refine WEi_q rfl (by decide) (by kernel_rfl) rfl ?_;apply Exists.intro;refine⟨fun w1 hx1=>?_,?_⟩
         ·have hq1:=hx1.cells;go_simp;try go_bits
          first|with_reducible rfl
         go_frame;try simp only[Nat.reduceAdd]
        refine WEi_out ?_
        refine WE_done (by kernel_rfl) (fun w9 hx9=>?_)
        (try simp only[List.drop_succ_cons,List.drop_zero])
        clear k1 k2 k3 k4
        go_wp2_with fail
        go_ret
        exact⟨by rw[HR0.out,HR.out];rfl,HX1.out.trans (HXJ.out.trans hx9)⟩
       ·have hb2:decide (x<f)=false:=dF hxf
        have HN2:=Hd (show x∉c.tr.take (j+1)by
         rw[HJT.out]
         intro h
         rcases List.mem_append.1 h with h|h
         ·exact HN.out h
         ·simp only[List.mem_singleton]at h;exact hyx h.symm)
        have HL2:=Hd (show 0<j+1->f<=x from fun _=>by omega)
        clear hyx hxf
        go_wp2_with fail
        refine wp_region_E 22 rfl (by kernel_rfl) (by kernel_rfl) ?_
        have k1:=HKj.out.keep
        have k2:=Ext.keep P0.out
        have k3:=Ext.keep P1.out
        have k4:=Ext.keep P2.out
        refine WEi_at 0 ?_
        iterate 22
         refine WEi_q rfl (by decide) (by kernel_rfl) rfl ?_;apply Exists.intro;refine⟨fun w1 hx1=>?_,?_⟩
         ·have hq1:=hx1.cells;go_simp;try go_bits
          first|with_reducible rfl
         go_frame;try simp only[Nat.reduceAdd]
        refine WEi_out ?_
        refine WE_done (by kernel_rfl) (fun w9 hx9=>?_)
        (try simp only[List.drop_succ_cons,List.drop_zero])
        clear k1 k2 k3 k4
        go_wp2_with fail
        go_roundw
        case rel=>exact⟨j+1,by omega,by go_num,HN2.out,HL2.out,HXJ.out.trans hx9⟩
        case measure=>simp[intOf];omega
     ·have hjd:decide ((j:Int)<(k:Int))=false:=dF (by omega)
      have hjn:decide (j<k)=false:=dF hjl
      have HR:=Hd (show trG f [] c.tr=trG f (c.tr.take (k+1)) (c.tr.drop (k+1))by
       have hjk:j=k:=by omega
       have h1:=HN.out
       rw[hjk]at h1
       have h2:¬x<f:=by
        rcases Nat.eq_zero_or_pos k with e|e
        ·rw[HK0.out e];omega
        ·have:=HL.out (by omega);omega
       rw[HG.out,HST.out,dF h1,dF h2];rfl)
      go_wp2_with fail
      go_roundw
      case rel=>exact⟨k+1,by omega,by go_num,HR.out,HXJ.out⟩
      case measure=>simp[intOf];omega
   ·have HE:=Hd (show loopsV n c=0 by rw[HF.out,HG.out,trG_end f (by omega)];rfl)
    have hkd:decide ((k:Int)<(c.tr.length:Int))=false:=dF (by omega)
    have hkn:decide (k<c.tr.length)=false:=dF hlt
    go_wp2_with fail
    go_ret
    exact⟨by rw[HR0.out,HE.out];rfl,HX1.out.trans HX.out⟩
end Go.Proofs.YtjflkifodfncmaaGreatDoor
