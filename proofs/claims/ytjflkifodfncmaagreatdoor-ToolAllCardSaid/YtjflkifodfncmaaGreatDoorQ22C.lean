/- Q22A, Q22C: these texts in one. Conditions: each theorem names its own. -/
import Derived.Test.YtjflkifodfncmaaGreatDoorQ10T
import Derived.Test.YtjflkifodfncmaaGreatDoorR21
import Derived.Test.YtjflkifodfncmaaGreatDoorGTool
import Derived.Test.YtjflkifodfncmaaGreatDoorQ18U
import Derived.Test.YtjflkifodfncmaaGreatDoorGR20
namespace Go.Proofs.YtjflkifodfncmaaGreatDoor
set_option maxHeartbeats 4000000
set_option maxRecDepth 100000
open Go Go.RowKit Go.Maps Go.Proofs
theorem r22Analyze_any(v:Value)(l:List Byt)(w:World)(h:BsAt w v l)(hl:l.length<=1000000000):Calls Tryz.prog 7 #[v] w (AnOut w l):=by
 have HN:=Hd (r10Take_any v l w h hl)
 obtain⟨a,cap,rfl,-⟩:=h.form
 clear h
 cases ht:netTake l with
 |error z=>
  have HT:=Hd ht
  clear ht
  go_enter Tryz.func7,Tryz.ntmps7
  go_upto_region 2 with(first
   |(go_at_call 17
     go_loud(
      (with_reducible refine HN.out.mono ?_)
      rintro e w2 ⟨h1,hx⟩
      rw[HT.out]at h1
      obtain⟨hz,he⟩:=h1
      subst he
      have HX2:=Hd hx
      have HZ:=Hd hz
      clear hx hz)))
  refine hWp (fun W=>Ext w2 W) (by(repeat with_reducible first|exact eR _|assumption|refine eA ?_ _|refine eD ?_|refine eW ?_ _|(refine eS ?_ ?_;focus(first|(simp;done)|(simp;omega)|omega)))) (fun W3 hW3=>?_)
  have HX3:=Hd (HX2.out.trans hW3)
  have hzb:(z !=0)=true:=by simp[HZ.out]
  clear hW3
  go_wp2_with fail
  go_ret2
  unfold AnOut
  rw[HT.out]
  exact⟨⟨HZ.out,rfl⟩,HX3.out⟩
 |ok ls=>
  have HT:=Hd ht
  have HM:=Hd (netTake_may ht)
  clear ht
  have hlen:=(netMay_tabs HM.out).1
  go_enter Tryz.func7,Tryz.ntmps7
  go_upto_region 2 with(first
   |(go_at_call 17
     go_loud(
      (with_reducible refine HN.out.mono ?_)
      rintro e w2 ⟨h1,hx⟩
      rw[HT.out]at h1
      obtain⟨u2,he,ho⟩:=h1
      obtain⟨va,vc,hue,-⟩:=ho.read.form
      subst hue
      subst he
      have HX2:=Hd hx
      have HR2:=Hd ho.read
      clear hx ho)))
  refine hBk w2 [.slice va ls.length vc] 43 (fun W3 hW3=>?_)
  obtain⟨hx3,hb3⟩:=hW3
  have HX3:=Hd (HX2.out.trans hx3)
  have HB3:=Hd hb3
  have hnc:=hb3.cells
  have HOK:=Hd (may_ok HM.out)
  have HA:=Hd (r21Net_good _ ls W3 (HR2.out.later hx3) HOK.out HM.out)
  clear hx3 hb3
  generalize w2.heap.size=nb at*
  go_upto_region 5 with(first
   |(go_at_call 18
     go_loud(
      (with_reducible refine HA.out.mono ?_)
      rintro e w4 ⟨pv,tv,c,he,hc,ha,hx⟩
      obtain⟨pa,pc,hpe,-⟩:=hc.parts.form
      obtain⟨ta,tc,hte,-⟩:=hc.tr.form
      subst hpe
      subst hte
      subst he
      have HX4:=Hd (HX3.out.trans hx)
      have HB4:=Hd (HB3.out.later hx)
      have HC4:=Hd hc
      have HA4:=Hd ha
      clear hx hc ha hnc)))
  refine hBk w4 [I c.vd,.slice pa c.ps.length pc,U c.dest,.slice ta c.tr.length tc] 49 (fun W5 hW5=>?_)
  obtain⟨hx5,hb5⟩:=hW5
  have HX5:=Hd (HX4.out.trans hx5)
  have hcc:=hb5.cells
  have hnc:=(HB4.out.later hx5).cells
  have HC5:=Hd (HC4.out.later hx5)
  have HMC:=Hd (ana_holds HM.out (cutL_is ls) HA4.out).1
  have HP:=Hd (r18Put_any _ _ c ls.length W5 HC5.out HMC.out hlen)
  clear hx5 hb5
  generalize w4.heap.size=cb at*
  go_wp2_with (first
   |(go_at_call 19
     go_loud(
      (with_reducible refine HP.out.mono ?_)
      rintro e w6 ⟨u6,he,ho,hx⟩
      obtain⟨ua,uc,hue⟩:=ho.form
      subst hue
      subst he
      have HX6:=Hd (HX5.out.trans hx)
      have HO6:=Hd (ho.low HX5.out.size)
      clear hx ho)))
  go_ret2
  unfold AnOut
  rw[HT.out]
  exact⟨⟨c,_,HA4.out,HC4.out.len,HMC.out,rfl,HO6.out⟩,HX6.out⟩
theorem r22Check_any(v u:Value)(f c:List Byt)(w:World)(h:BsAt w v f)(hl:f.length<=1000000000)(k:BsAt w u c)(kl:c.length<=1000000000):
 Calls Tryz.prog 11 #[v,u] w fun e w'=>e=.returned (.agg #[I (chkV f c).1,I (chkV f c).2])/\Ext w w':=by
 have HH:=Hd h
 have HK:=Hd k
 obtain⟨a,cap,rfl,-⟩:=h.form
 obtain⟨a2,cap2,rfl,-⟩:=k.form
 clear h k
 go_enter Tryz.func11,Tryz.ntmps11
 go_upto_region 1 with fail
 refine hBk w [I 0,I 0] 33 (fun W1 hW1=>?_)
 obtain⟨hx1,hb1⟩:=hW1
 have HX1:=Hd hx1
 have HB1:=Hd hb1
 have HN:=Hd (r10Take_any _ f W1 (HH.out.later hx1) hl)
 clear hx1 hb1
 generalize hab:w.heap.size=ab at*
 have HAB:=Hd (show w.heap.size<=ab from Nat.le_of_eq hab)
 clear hab
 cases ht:netTake f with
 |error z=>
  have HT:=Hd ht
  clear ht
  go_upto_region 2 with(first
   |(go_at_call 17
     go_loud(
      (with_reducible refine HN.out.mono ?_)
      rintro e w2 ⟨h1,hx⟩
      rw[HT.out]at h1
      obtain⟨hz,he⟩:=h1
      subst he
      have HX2:=Hd (HX1.out.trans hx)
      have HZ:=Hd hz
      have HB2:=Hd (HB1.out.later hx)
      clear hx hz)))
  refine hWp (fun W=>Ext w2 W) (by(repeat with_reducible first|exact eR _|assumption|refine eA ?_ _|refine eD ?_|refine eW ?_ _|(refine eS ?_ ?_;focus(first|(simp;done)|(simp;omega)|omega)))) (fun W3 hW3=>?_)
  have HX3:=Hd (HX2.out.trans hW3)
  have HB3:=Hd (HB2.out.later hW3)
  have hzb:(z !=0)=true:=by simp[HZ.out]
  have hbf:=HB3.out.frozen
  have hbc:=HB3.out.cells
  clear hW3
  go_wp2_with fail
  refine hideW (Φ:=fun W=>bodyPost _ _ _ _ _ W) (fun W=>Ext w W/\Blk W ab [I 0,I z] 33) ⟨(HX3.out.setCell HAB.out _).setCell HAB.out _,(HB3.out.set 0 _).set 1 _⟩ (fun W9 hW9=>?_)
  obtain⟨hx9,hb9⟩:=hW9
  have hbc:=hb9.cells
  refine bodyPost_ret (v:=.agg #[I 0,I z]) (by rw[results_cell1 rfl];go_simp) rfl ?_
  rw[chk_bad HT.out]
  exact⟨rfl,hx9⟩
 |ok ls=>
  have HT:=Hd ht
  have HM:=Hd (netTake_may ht)
  clear ht
  go_upto_region 2 with(first
   |(go_at_call 17
     go_loud(
      (with_reducible refine HN.out.mono ?_)
      rintro e w2 ⟨h1,hx⟩
      rw[HT.out]at h1
      obtain⟨u2,he,ho⟩:=h1
      obtain⟨va,vc,hue,-⟩:=ho.read.form
      subst hue
      subst he
      have HX2:=Hd (HX1.out.trans hx)
      have HR2:=Hd ho.read
      have HB2:=Hd (HB1.out.later hx)
      clear hx ho)))
  refine hBk w2 [.slice va ls.length vc] 43 (fun W3 hW3=>?_)
  obtain⟨hx3,hb3⟩:=hW3
  have HX3:=Hd (HX2.out.trans hx3)
  have HB3:=Hd (HB2.out.later hx3)
  have HN3:=Hd hb3
  have HR3:=Hd (HR2.out.later hx3)
  have HCT:=Hd (r18Take_any _ c W3 (HK.out.later HX3.out) kl)
  clear hx3 hb3
  generalize w2.heap.size=nb at*
  cases hct:certTake c with
  |error z=>
   have HC:=Hd hct
   clear hct
   go_upto_region 5 with(first
    |(go_at_call 26
      go_loud(
       (with_reducible refine HCT.out.mono ?_)
       rintro e w4 ⟨h1,hx⟩
       rw[HC.out]at h1
       obtain⟨hz,he⟩:=h1
       subst he
       have HX4:=Hd (HX3.out.trans hx)
       have HZ:=Hd hz
       have HB4:=Hd (HB3.out.later hx)
       clear hx hz)))
   refine hWp (fun W=>Ext w4 W) (by(repeat with_reducible first|exact eR _|assumption|refine eA ?_ _|refine eD ?_|refine eW ?_ _|(refine eS ?_ ?_;focus(first|(simp;done)|(simp;omega)|omega)))) (fun W5 hW5=>?_)
   have HX5:=Hd (HX4.out.trans hW5)
   have HB5:=Hd (HB4.out.later hW5)
   have hzb:(z !=0)=true:=by simp[HZ.out]
   have hbf:=HB5.out.frozen
   have hbc:=HB5.out.cells
   clear hW5
   go_wp2_with fail
   refine hideW (Φ:=fun W=>bodyPost _ _ _ _ _ W) (fun W=>Ext w W/\Blk W ab [I 0,I z] 33) ⟨(HX5.out.setCell HAB.out _).setCell HAB.out _,(HB5.out.set 0 _).set 1 _⟩ (fun W9 hW9=>?_)
   obtain⟨hx9,hb9⟩:=hW9
   have hbc:=hb9.cells
   refine bodyPost_ret (v:=.agg #[I 0,I z]) (by rw[results_cell1 rfl];go_simp) rfl ?_
   rw[chk_badC HT.out HC.out]
   exact⟨rfl,hx9⟩
  |ok q=>
   obtain⟨d,n⟩:=q
   have HC:=Hd hct
   clear hct
   go_upto_region 5 with(first
    |(go_at_call 26
      go_loud(
       (with_reducible refine HCT.out.mono ?_)
       rintro e w4 ⟨h1,hx⟩
       rw[HC.out]at h1
       obtain⟨pv,tv,c4,he,hc4,hq4⟩:=h1
       obtain⟨pa,pc,hpe,-⟩:=hc4.parts.form
       obtain⟨ta,tc,hte,-⟩:=hc4.tr.form
       subst hpe
       subst hte
       subst he
       have HX4:=Hd (HX3.out.trans hx)
       have HC4:=Hd hc4
       have HQ4:=Hd hq4
       have HB4:=Hd (HB3.out.later hx)
       have HN4:=Hd (HN3.out.later hx)
       have HR4:=Hd (HR3.out.later hx)
       clear hx hc4 hq4)))
   refine hBk w4 [I c4.vd,.slice pa c4.ps.length pc,U c4.dest,.slice ta c4.tr.length tc] 49 (fun W5 hW5=>?_)
   obtain⟨hx5,hb5⟩:=hW5
   have HX5:=Hd (HX4.out.trans hx5)
   have HB5:=Hd (HB4.out.later hx5)
   have hcc:=hb5.cells
   have hnc:=(HN4.out.later hx5).cells
   have HC5:=Hd (HC4.out.later hx5)
   have HR5:=Hd (HR4.out.later hx5)
   clear hx5 hb5
   generalize w4.heap.size=cb at*
   by_cases hn:n=ls.length
   ·have hnb:((n:Int) !=(ls.length:Int))=false:=by simp[hn]
    have HG:=Hd (chk_good HT.out HC.out hn)
    have HOK:=Hd (may_ok HM.out)
    have hsz:=(netMay_tabs HM.out).2.1
    have HK5:=Hd (r20Net_any _ _ _ ls c4 (cutL ls) W5 HR5.out HOK.out (by omega) (cutL_is ls) HC5.out)
    have HAE:=Hd (show ansV (cutL ls) ls c4=chkV f c by rw[HG.out,ansV_congr HQ4.out])
    clear hn hsz
    rw[HAE.out]at HK5
    obtain⟨an,han⟩:∃an,an=chkV f c:=⟨_,rfl⟩
    rw[<-han]at HK5
    have HAN:=Hd han
    clear han
    go_wp2_with (first
     |(go_at_call 27
       go_loud(
        (with_reducible refine HK5.out.mono ?_)
        rintro e w6 ⟨he,hx⟩
        subst he
        have HX6:=Hd (HX5.out.trans hx)
        have HB6:=Hd (HB5.out.later hx)
        clear hx hcc hnc
        have hbf:=HB6.out.frozen
        have hbc:=HB6.out.cells)))
    refine hideW (Φ:=fun W=>bodyPost _ _ _ _ _ W) (fun W=>Ext w W/\Blk W ab [I an.1,I an.2] 33) ⟨(HX6.out.setCell HAB.out _).setCell HAB.out _,(HB6.out.set 0 _).set 1 _⟩ (fun W9 hW9=>?_)
    obtain⟨hx9,hb9⟩:=hW9
    have hbc:=hb9.cells
    refine bodyPost_ret (v:=.agg #[I an.1,I an.2]) (by rw[results_cell1 rfl];go_simp) rfl ?_
    rw[<-HAN.out]
    exact⟨rfl,hx9⟩
   ·have hnb:((n:Int) !=(ls.length:Int))=true:=by simp;omega
    have HG:=Hd (chk_size HT.out HC.out hn)
    have hbf:=HB5.out.frozen
    have hbc:=HB5.out.cells
    clear hn
    go_wp2_with fail
    refine hideW (Φ:=fun W=>bodyPost _ _ _ _ _ W) (fun W=>Ext w W/\Blk W ab [I 0,I 1] 33) ⟨(HX5.out.setCell HAB.out _).setCell HAB.out _,(HB5.out.set 0 _).set 1 _⟩ (fun W9 hW9=>?_)
    obtain⟨hx9,hb9⟩:=hW9
    have hbc:=hb9.cells
    refine bodyPost_ret (v:=.agg #[I 0,I 1]) (by rw[results_cell1 rfl];go_simp) rfl ?_
    rw[HG.out]
    exact⟨rfl,hx9⟩
end Go.Proofs.YtjflkifodfncmaaGreatDoor
