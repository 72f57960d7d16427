/- GSnd, ToolAll: these texts in one. Conditions: each theorem names its own. -/
import Derived.Test.YtjflkifodfncmaaGreatDoorQ22C
import Derived.Test.YtjflkifodfncmaaGreatDoorQ22E
namespace Go.Proofs.YtjflkifodfncmaaGreatDoor
set_option maxHeartbeats 8000000
set_option maxRecDepth 100000
open Go Go.RowKit Go.Maps Go.Proofs
theorem min500(n:Nat):min (n:Int) 500=((min n 500:Nat):Int):=by omega
def fewY(l:List Byt):List Byt:=l.take (min l.length 500)
theorem fewY_len(l:List Byt):(fewY l).length<=500:=by unfold fewY;rw[List.length_take];omega
theorem bs_to{w:World}{a:Option Addr}{n c k:Nat}{l:List Byt}(h:BsAt w (.slice a n c) l)(hk:k<=l.length):BsAt w (.slice a k c) (l.take k):=by
 obtain⟨h0,a',cap,h1,h2,h3,h4,h5⟩:=h
 cases h1
 have hkl:(l.take k).length=k:=by rw[List.length_take];omega
 refine⟨by rw[ycells_len];omega,a,c,by rw[hkl],by omega,h3,fun hn=>?_,fun b hb=>⟨?_,fun j u hj=>(h5 b hb).2 j u ?_⟩⟩
 ·have:=h4 hn;exact⟨by omega,this.2⟩
 ·rcases(h5 b hb).1 with g|g
  ·exact .inl g
  ·have:l=[]:=List.eq_nil_of_length_eq_zero (by rw[<-ycells_len,g];rfl)
   subst this
   exact .inr (by simp[ycells])
 ·unfold ycells at hj ⊢
  rw[List.map_take,List.getElem?_take]at hj
  split at hj
  ·exact hj
  ·cases hj
theorem slv_to1(a:Option Addr)(n c k:Nat):slv 1 (.slice a n c) 0 k=.slice a k c:=by
 unfold slv sliced
 cases a with
 |none=>simp
 |some b=>simp[Addr.add]
theorem l22Few_any(a:Option Addr)(c:Nat)(l:List Byt)(w:World)(h:BsAt w (.slice a l.length c) l):Calls Tryz.prog 5 #[.slice a l.length c] w fun e w'=>(e=.returned (.slice a (fewY l).length c)/\BsAt w' (.slice a (fewY l).length c) (fewY l))/\Ext w w':=by
 have HE:=Hd (show(fewY l).length=min l.length 500 by unfold fewY;rw[List.length_take];omega)
 have HH:=Hd h
 obtain⟨a',c',he',c1,c2,-⟩:=h.form
 cases he'
 clear h
 unfold maxLen at c2
 have HC:=Hd (fun W (h:BsAt W (.slice a l.length c) l)=>show BsAt W (.slice a (min l.length 500) c) (fewY l)from bs_to h (Nat.min_le_left _ _))
 have hmc:min l.length 500<=c:=by omega
 have hmn:=min500 l.length
 go_enter Tryz.func5,Tryz.ntmps5
 go_wp2_with (first
  |(refine wpList_of_run rfl (run_slice_to (o:=⟨some 7,_,_,_,_,_⟩) rfl Tryz.underlying22 sizeU8 rfl rfl hmc) ?_;rw[slv_to1]))
 go_ret
 rw[HE.out]
 exact⟨⟨rfl,HC.out _ HH.out⟩,eR _⟩
def sh1:List (List Rul):=[[⟨167772160#32,8,1,0⟩]]
def shT:List UInt8:=[49,48,46,48,46,48,46,48,47,56,32,110,101,120,116,32,48]
theorem sh1_may:netMayV sh1=0:=by decide+kernel
theorem sh1_expl:(sh1.map fun t=>explT t 167772161#32)=[shT]:=by decide+kernel
structure ShS(w:World)(rb tb:Nat)(W:World):Prop where
 ext:Ext w W
 r0:Blk W rb [U 167772160#32,I 8,I 1,I 0] 39
 ts:Blk W tb [.slice (some ⟨rb,0,none⟩) 1 1] 40
theorem ShS.tabs{w W:World}{rb tb:Nat}(h:ShS w rb tb W):TablesAt W (.slice (some ⟨tb,0,none⟩) 1 1) sh1:=by
 have h0:RulesAt W (.slice (some ⟨rb,0,none⟩) 1 1) [⟨167772160#32,8,1,0⟩]:=reads_blk (n:=1) (s:=4) h.r0 (by simp) (Nat.le_refl _) (by unfold maxLen;omega)
 have ht:=reads_blk (n:=1) (c:=1) (s:=1) h.ts (by simp) (Nat.le_refl _) (by unfold maxLen;omega)
 refine⟨_,ht,fun i l hi=>?_⟩
 match i,hi with
 |0,hi=>cases hi;exact⟨_,rfl,h0⟩
 |i+1,hi=>cases hi
theorem OwnS.one{w:World}{B:Nat}{v:Value}{T:List UInt8}(h:OwnS w B v [T]):∃g c,v=.slice (some ⟨g,0,none⟩) 1 c/\w.cell? ⟨g,0,none⟩=some (S T):=by
 unfold OwnS at h
 rcases h.2 with⟨-,h2⟩|⟨g,cap,cur,hv,-⟩
 ·simp at h2
 ·have hc:=World.ownsRow.cells h (g:=g) (by rw[hv];rfl) 0 (S T) rfl
  exact⟨g,cap,hv,by simpa[Addr.add]using hc⟩
theorem shownTool_any(w:World)(ht:Tab10 w)(hw:Words w):Calls Tryz.prog 4 #[] w fun e w'=>e=.returned (.bool true)/\Ext w w':=by
 have HTT:=Hd ht
 have HWW:=Hd hw
 clear ht hw
 have HPN:=Hd (fun W (h:ShS w w.heap.size (w.heap.size+1) W)=>netfilePut_any _ sh1 W h.tabs (may_ok sh1_may) sh1_may)
 have HTN:=Hd (netTake_put sh1_may)
 have HLN:=Hd (netB_len sh1_may)
 generalize netPut sh1=F at*
 have HEX:=Hd (fun V W (h:BsAt W V F) (h1:Ext w W)=>show Calls Tryz.prog 8 #[V,.int .u32 167772161] W (ExOut W F 167772161#32)from toolExplain_any V F 167772161#32 W h HLN.out (HTT.out.later h1) (HWW.out.later h1))
 go_enter Tryz.func4,Tryz.ntmps4
 go_upto_region 2 with(first
  |(go_at_call 13
    go_loud(
     (with_reducible refine(HPN.out _ ?_).mono ?_)
     (exact⟨by(repeat with_reducible first|exact eR _|assumption|refine eA ?_ _|refine eD ?_|refine eW ?_ _|(refine eS ?_ ?_;focus(first|(simp;done)|(simp;omega)|omega))),(Blk.new w [U 167772160#32,I 8,I 1,I 0] 39).old _,Blk.newAt [.slice (some ⟨w.heap.size,0,none⟩) 1 1] (by simp)⟩)
     rintro e w2 ⟨u2,he,ho,hx⟩
     obtain⟨ua,uc,hue⟩:=ho.form
     subst hue
     subst he
     have HX2:=Hd (show Ext w w2 from Ext.trans (by(repeat with_reducible first|exact eR _|assumption|refine eA ?_ _|refine eD ?_|refine eW ?_ _|(refine eS ?_ ?_;focus(first|(simp;done)|(simp;omega)|omega)))) hx)
     have HF2:=Hd ho.bs
     clear hx ho)))
 go_upto_region 3 with(first
  |(go_at_call 8
    go_loud(
     (with_reducible refine(HEX.out _ _ HF2.out HX2.out).mono ?_)
     rintro e w3 ⟨h1,hx⟩
     rw[HTN.out]at h1
     obtain⟨u3,he,ho⟩:=h1
     rw[sh1_expl]at ho
     obtain⟨g,c,hue,hcl⟩:=ho.one
     subst hue
     subst he
     have HX3:=Hd (HX2.out.trans hx)
     have HC3:=Hd hcl
     clear hx ho hcl)))
 have hcl:=HC3.out
 unfold shT at hcl
 go_wp2_with fail
 go_ret
 exact⟨rfl,HX3.out⟩
theorem bs_conv{w:World}{a:Option Addr}{cap:Nat}{l:List Byt}(h:BsAt w (.slice a l.length cap) l):(convert 22 9 (.slice a l.length cap)).run Tryz.prog w=.ok (.string (strOfNums (l.map yv))) w:=
 h.bytesIn.convert (by simp) cap 22 5 9 Tryz.underlying22 Tryz.underlying5 Tryz.underlying9
def AnL(l L:List Byt)(z:Int):Prop:=
 match netTake l with
 | .error y=>L=[]/\z=y
 | .ok ls=>z=0/\∃c,AnaIs ls c/\c.rks.length=c.ps.length/\certMayV ls.length c=0/\L=certPut c ls.length
theorem AnL.one{l L M:List Byt}{z y:Int}(h:AnL l L z)(k:AnL l M y):L=M/\z=y:=by
 unfold AnL at h k
 cases ht:netTake l with
 |error x=>rw[ht]at h k;exact⟨h.1.trans k.1.symm,h.2.trans k.2.symm⟩
 |ok ls=>
  rw[ht]at h k
  obtain⟨h0,c,h1,-,-,rfl⟩:=h
  obtain⟨k0,d,k1,-,-,rfl⟩:=k
  exact⟨certPut_congr (h1.one k1) _,h0.trans k0.symm⟩
theorem AnL.len{l L:List Byt}{z:Int}(h:AnL l L z):L.length<=1000000000:=by
 unfold AnL at h
 cases ht:netTake l with
 |error x=>rw[ht]at h;rw[h.1];exact Nat.zero_le _
 |ok ls=>
  rw[ht]at h
  obtain⟨-,c,-,h2,h3,rfl⟩:=h
  have:=certP_len (netMay_tabs (netTake_may ht)).1 h2 h3
  omega
theorem AnOut.is{w w':World}{l:List Byt}{e:Ending}(h:AnOut w l e w'):∃u L z,e=.returned (.tuple #[u,I z])/\BsAt w' u L/\AnL l L z/\Ext w w':=by
 obtain⟨h1,h2⟩:=h
 cases ht:netTake l with
 |error x=>
  rw[ht]at h1
  exact⟨_,[],x,h1.2,BsAt.nil _,by unfold AnL;rw[ht];exact⟨rfl,rfl⟩,h2⟩
 |ok ls=>
  rw[ht]at h1
  obtain⟨c,u,a1,a2,a3,a4,a5⟩:=h1
  exact⟨u,_,0,a4,a5.bs,by unfold AnL;rw[ht];exact⟨rfl,c,a1,a2,a3,rfl⟩,h2⟩
def exT(l:List Byt)(a:BitVec 32):List (List UInt8):=
 match netTake l with
 | .error _=>[]
 | .ok ls=>ls.map fun t=>explT t a
def exZ(l:List Byt):Int:=
 match netTake l with
 | .error z=>z
 | .ok _=>0
theorem ExOut.is{w w':World}{l:List Byt}{a:BitVec 32}{e:Ending}(h:ExOut w l a e w'):∃u,e=.returned (.tuple #[u,I (exZ l)])/\OwnS w' w.heap.size u (exT l a)/\Ext w w':=by
 obtain⟨h1,h2⟩:=h
 unfold exT exZ
 cases ht:netTake l with
 |error x=>
  rw[ht]at h1
  exact⟨_,h1.2,⟨rfl,.inl ⟨rfl,rfl⟩⟩,h2⟩
 |ok ls=>
  rw[ht]at h1
  obtain⟨u,a1,a2⟩:=h1
  exact⟨u,a1,a2,h2⟩
theorem OwnS.cellAt{w:World}{B c:Nat}{a:Option Addr}{L:List (List UInt8)}(h:OwnS w B (.slice a L.length c) L){k:Nat}(hk:k<L.length):∃g,a=some ⟨g,0,none⟩/\w.cell? ⟨g,k,none⟩=some (S L[k]):=by
 obtain⟨h0,h1⟩:=h
 rcases h1 with⟨-,h1⟩|⟨g,cap,cur,h1,h2,h3,h4,h5,h6,h7⟩
 ·omega
 ·cases h1
  refine⟨g,rfl,?_⟩
  have hj:(L.map S)[k]? =some (S L[k]):=by rw[List.getElem?_map,gE hk];rfl
  rw[<-h7,List.getElem?_take_of_lt (by omega)]at hj
  simpa[World.cell?,h3]using hj
theorem toolAll_any(v u:Value)(f c:List Byt)(a:BitVec 32)(w:World)(h:BsAt w v f)(k:BsAt w u c)(ht:Tab10 w)(hw:Words w):
 Calls Tryz.prog 3 #[v,u,U a] w fun e w'=>e=.returned (.bool true)/\Ext w w':=by
 have HH:=Hd h
 have HK:=Hd k
 have HTT:=Hd ht
 have HWW:=Hd hw
 have HSH:=Hd (shownTool_any w ht hw)
 obtain⟨va,vc,rfl,-⟩:=h.form
 obtain⟨ua,uc,rfl,-⟩:=k.form
 clear h k ht hw
 have HF1:=Hd (fun W (x:Ext w W)=>l22Few_any va vc f W (HH.out.later x))
 have HF2:=Hd (fun W (x:Ext w W)=>l22Few_any ua uc c W (HK.out.later x))
 have HL1:=Hd (show(fewY f).length<=1000000000 by have:=fewY_len f;omega)
 have HL2:=Hd (show(fewY c).length<=1000000000 by have:=fewY_len c;omega)
 have HM1:=Hd (show(fput magN (fewY f)).length<=1000000000 by rw[fput_len];have:=fewY_len f;omega)
 have HM2:=Hd (show(fput magC (fewY c)).length<=1000000000 by rw[fput_len];have:=fewY_len c;omega)
 generalize fewY f=F at*
 generalize fewY c=C at*
 have HP1:=Hd (fun V W (h:BsAt W V F)=>show Calls Tryz.prog 12 #[.int .u32 1179206193,V] W fun e w'=>∃u,e=.returned u/\OwnY w' W.heap.size u (fput magN F)/\Ext W w' from framePut_any magN V F W h (by have:=HL1.out;omega))
 have HP2:=Hd (fun V W (h:BsAt W V C)=>show Calls Tryz.prog 12 #[.int .u32 1129468977,V] W fun e w'=>∃u,e=.returned u/\OwnY w' W.heap.size u (fput magC C)/\Ext W w' from framePut_any magC V C W h (by have:=HL2.out;omega))
 generalize fput magN F=FN at*
 generalize fput magC C=FC at*
 go_enter Tryz.func3,Tryz.ntmps3
 go_upto_region 2 with(first
  |(go_at_call 4;(with_reducible refine HSH.out.mono ?_);rintro e w1 ⟨he,hx⟩;subst he;have HX1:=Hd hx;clear hx;have K1:=Hd (HF1.out _ HX1.out)))
 go_upto_region 3 with(first
  |(go_at_call 5;(with_reducible refine K1.out.mono ?_);rintro e w2 ⟨⟨he,hb⟩,hx⟩;subst he;have HX2:=Hd (HX1.out.trans hx);have HB2:=Hd hb;clear hx hb K1;have K2:=Hd (HF2.out _ HX2.out)))
 go_upto_region 4 with(first
  |(go_at_call 5;(with_reducible refine K2.out.mono ?_);rintro e w3 ⟨⟨he,hb⟩,hx⟩;subst he;have HX3:=Hd (HX2.out.trans hx);have HB3:=Hd (HB2.out.later hx);have HC3:=Hd hb;clear hx hb K2))
 go_wp2_with fail
 go_loopw[8,9,10] (fun xv yv i wr=>∃(j:Nat) (X Y:List Byt) (xa:Option Addr) (xc:Nat) (ya:Option Addr) (yc:Nat),j<=2/\i=I j/\xv=.slice xa X.length xc/\yv=.slice ya Y.length yc/\Hid (X.length<=1000000000)/\Hid (Y.length<=1000000000)/\Hid (BsAt wr (.slice xa X.length xc) X)/\Hid (BsAt wr (.slice ya Y.length yc) Y)/\Hid (Ext w wr)) (fun _ _ i _=>2-(intOf i).toNat)
 case atStart=>exact⟨0,F,C,_,_,_,_,by decide,rfl,rfl,rfl,HL1,HL2,HB3,HC3,HX3⟩
 case round=>
  obtain⟨j,X,Y,xa,xc,ya,yc,hj,rfl,rfl,rfl,HXL,HYL,HXB,HYB,HX⟩:=hrel
  obtain⟨wo,rfl⟩:∃wo:World,wo=wr:=⟨_,rfl⟩
  by_cases hlt:j<2
  ·have HLT:=Hd hlt
   have hjd:decide ((j:Int)<2)=true:=dT (by omega)
   have HA1:=Hd (toolAnalyze_any _ X wo HXB.out HXL.out)
   go_upto_region 8 with(first
    |(go_at_call 6
      go_loud(
       (with_reducible refine HA1.out.mono ?_)
       rintro e w7 h1
       obtain⟨u7,P,z7,he,hb,ha,hx⟩:=AnOut.is h1
       obtain⟨pa,pc,hue,-⟩:=hb.form
       subst hue
       subst he
       have HX7:=Hd hx
       have HP7:=Hd hb
       have HAN:=Hd ha
       clear h1 hx hb ha)))
   have HPL:=Hd HAN.out.len
   have HA2:=Hd (r22Analyze_any _ X w7 (HXB.out.later HX7.out) HXL.out)
   go_upto_region 9 with(first
    |(go_at_call 7
      go_loud(
       (with_reducible refine HA2.out.mono ?_)
       rintro e w8 h1
       obtain⟨u8,P8,z8,he,hb,ha,hx⟩:=AnOut.is h1
       obtain⟨h2,h3⟩:=HAN.out.one ha
       subst h2
       subst h3
       obtain⟨qa,qc,hue,-⟩:=hb.form
       subst hue
       subst he
       have HX8:=Hd (HX7.out.trans hx)
       have HP8:=Hd (HP7.out.later hx)
       have HQ8:=Hd hb
       clear h1 hx hb ha)))
   have HE1:=Hd (toolExplain_any _ X a w8 (HXB.out.later HX8.out) HXL.out (HTT.out.later (HX.out.trans HX8.out)) (HWW.out.later (HX.out.trans HX8.out)))
   go_upto_region 10 with(first
    |(go_at_call 8
      go_loud(
       (with_reducible refine HE1.out.mono ?_)
       rintro e w9 h1
       obtain⟨u9,he,ho,hx⟩:=ExOut.is h1
       obtain⟨sa,sc,hue,-⟩:=own_bds ho
       subst hue
       subst he
       have HX9:=Hd (HX8.out.trans hx)
       have HP9:=Hd (HP8.out.later hx)
       have HQ9:=Hd (HQ8.out.later hx)
       have HS9:=Hd ho
       clear h1 hx ho)))
   have HE2:=Hd (r22Explain_any _ X a w9 (HXB.out.later HX9.out) HXL.out (HTT.out.later (HX.out.trans HX9.out)))
   go_upto_region 11 with(first
    |(go_at_call 9
      go_loud(
       (with_reducible refine HE2.out.mono ?_)
       rintro e wa h1
       obtain⟨ua',he,ho,hx⟩:=ExOut.is h1
       obtain⟨ta,tc,hue,b1,b2⟩:=own_bds ho
       subst hue
       subst he
       have HXA:=Hd (HX9.out.trans hx)
       have HPA:=Hd (HP9.out.later hx)
       have HQA:=Hd (HQ9.out.later hx)
       have HSA:=Hd (show OwnS wa w8.heap.size _ _ from own_later HS9.out hx)
       have HTA:=Hd ho
       have HTL:=Hd (show(exT X a).length<=maxLen from Nat.le_trans b1 b2)
       clear h1 hx ho b1 b2)))
   have KC1:=Hd (fun W (y:Ext wo W)=>toolCheck_any _ _ X Y W (HXB.out.later y) HXL.out (HYB.out.later y) HYL.out)
   have KR1:=Hd (fun W (y:Ext wo W)=>r22Check_any _ _ X Y W (HXB.out.later y) HXL.out (HYB.out.later y) HYL.out)
   have KC2:=Hd (fun W (y:Ext wa W)=>toolCheck_any _ _ X P W (HXB.out.later (HXA.out.trans y)) HXL.out (HPA.out.later y) HPL.out)
   have KR2:=Hd (fun W (y:Ext wa W)=>r22Check_any _ _ X P W (HXB.out.later (HXA.out.trans y)) HXL.out (HPA.out.later y) HPL.out)
   generalize chkV X Y=a1 at*
   generalize chkV X P=a2 at*
   generalize exT X a=T at*
   generalize exZ X=z9 at*
   obtain⟨m1,y1⟩:=a1
   obtain⟨m2,y2⟩:=a2
   simp only at KC1 KR1 KC2 KR2
   have hcv1:=bs_conv HPA.out
   have hcv2:=bs_conv HQA.out
   generalize strOfNums (P.map yv)=sv at*
   have htl:=HTL.out
   unfold maxLen at htl
   go_upto_region 13 with(first
    |(go_at_call 10;(with_reducible refine(KC1.out _ HXA.out).mono ?_);rintro e wb ⟨he,hx⟩;subst he;have HXB':=Hd hx;clear hx KC1)
    |(go_at_call 11;(with_reducible refine(KR1.out _ (HXA.out.trans HXB'.out)).mono ?_);rintro e wc ⟨he,hx⟩;subst he;have HXC:=Hd (HXB'.out.trans hx);clear hx KR1)
    |(go_at_call 10;(with_reducible refine(KC2.out _ HXC.out).mono ?_);rintro e wd ⟨he,hx⟩;subst he;have HXD:=Hd (HXC.out.trans hx);clear hx KC2)
    |(go_at_call 11;(with_reducible refine(KR2.out _ HXD.out).mono ?_);rintro e we ⟨he,hx⟩;subst he;have HXE:=Hd (HXD.out.trans hx);clear hx KR2))
   clear hcv1 hcv2
   go_wp2_with fail
   go_loopw[19] (fun i wr=>∃(k:Nat),k<=T.length/\i=I k/\Hid (Ext we wr)) (fun i _=>T.length-(intOf i).toNat)
   case atStart=>exact⟨0,Nat.zero_le _,rfl,Hd (eR _)⟩
   case round=>
    obtain⟨k,hk,rfl,HXR⟩:=hrel
    by_cases hlt2:k<T.length
    ·have HL2':=Hd hlt2
     obtain⟨g1,hg1,hc1⟩:=HSA.out.cellAt hlt2
     obtain⟨g2,hg2,hc2⟩:=HTA.out.cellAt hlt2
     subst hg1
     subst hg2
     have HC1:=Hd (HXE.out.cell hc1)
     have HC2:=Hd (HXE.out.cell hc2)
     have hk1:=fun W (h:Ext wr W)=>(HXR.out.trans h).cell HC1.out
     have hk2:=fun W (h:Ext wr W)=>(HXR.out.trans h).cell HC2.out
     clear hc1 hc2
     generalize T[k]=tx at*
     go_upto_region 16 with fail
     refine wp_region_E 8 rfl (by kernel_rfl) (by kernel_rfl) ?_
     refine WEi_at 0 ?_
     iterate 8
      refine WEi_q rfl (by decide) (by kernel_rfl) rfl ?_;apply Exists.intro;refine⟨fun w1 hx1=>?_,?_⟩
      ·have hq1:=hx1.cells;go_simp;try go_bits
       first|with_reducible rfl
      go_frame;try simp only[Nat.reduceAdd]
     refine WEi_out ?_
     refine WE_done (by kernel_rfl) (fun wf hxf=>?_)
     (try simp only[List.drop_succ_cons,List.drop_zero])
     clear hk1 hk2
     go_wp2_with fail
     go_roundw
     case rel=>exact⟨k+1,HL2'.out,by go_num,Hd (HXR.out.trans hxf)⟩
     case measure=>have:=HL2'.out;simp[intOf];omega
    ·obtain rfl:k=T.length:=by omega
     have HXW:=Hd (HX.out.trans (HXA.out.trans (HXE.out.trans HXR.out)))
     have K1:=Hd (HF1.out _ HXW.out)
     go_upto_region 19 with(first
      |(go_at_call 5;(with_reducible refine K1.out.mono ?_);rintro e wg ⟨⟨he,hb⟩,hx⟩;subst he;have HXG:=Hd (HXW.out.trans hx);have K2:=Hd (HP1.out _ _ hb);clear hx hb K1)
      |(go_at_call 12;(with_reducible refine K2.out.mono ?_);rintro e wh ⟨uh,he,ho,hx⟩;obtain⟨fa,fc,hue⟩:=ho.form;subst hue;subst he;have HXH:=Hd (HXG.out.trans hx);have HBH:=Hd ho.bs;clear ho hx K2))
     have K3:=Hd (HF2.out _ HXH.out)
     go_wp2_with (first
      |(go_at_call 5;(with_reducible refine K3.out.mono ?_);rintro e wi ⟨⟨he,hb⟩,hx⟩;subst he;have HXI:=Hd (HXH.out.trans hx);have HBI:=Hd (HBH.out.later hx);have K4:=Hd (HP2.out _ _ hb);clear hx hb K3)
      |(go_at_call 12;(with_reducible refine K4.out.mono ?_);rintro e wj ⟨uj,he,ho,hx⟩;obtain⟨ga,gc,hue⟩:=ho.form;subst hue;subst he;have HXJ:=Hd (HXI.out.trans hx);have HBJ:=Hd (HBI.out.later hx);have HCJ:=Hd ho.bs;clear ho hx K4))
     go_roundw
     case rel=>exact⟨j+1,FN,FC,_,_,_,_,HLT.out,by go_num,rfl,rfl,HM1,HM2,HBJ,HCJ,HXJ⟩
     case measure=>have:=HLT.out;simp[intOf];omega
  ·obtain rfl:j=2:=by omega
   go_wp2_with fail
   go_ret
   exact⟨rfl,HX.out⟩
end Go.Proofs.YtjflkifodfncmaaGreatDoor
