/- SortP, SortTop, SortedU: these texts in one. Conditions: each theorem names its own. -/
import Derived.Test.YtjflkifodfncmaaGreatDoorGSortC
import Derived.Sort.Walk13a
import Derived.Sort.AssemblyPlain
namespace Go.Proofs.YtjflkifodfncmaaGreatDoor
set_option maxHeartbeats 8000000
set_option maxRecDepth 100000
open Go Go.RowKit Go.Sort Go.Proofs
theorem choose_in(d:Array Int)(a b:Nat)(h:a+12<b):a<(choosePivot ltInt d a b).1/\(choosePivot ltInt d a b).1+1<b:=by
 rw[choosePivot_eq]
 show a<(rawPivot ltInt d a b).1/\(rawPivot ltInt d a b).1+1<b
 obtain⟨l,hl⟩:∃l:Nat,b-a=l:=⟨_,rfl⟩
 unfold rawPivot
 rw[hl,if_pos (by omega)]
 split
 ·have m1:=medianAdjacent_mem ltInt d (a+l/4*1) 0
  have m2:=medianAdjacent_mem ltInt d (a+l/4*2) (medianAdjacent ltInt d (a+l/4*1) 0).2
  have m3:=medianAdjacent_mem ltInt d (a+l/4*3) (medianAdjacent ltInt d (a+l/4*2) (medianAdjacent ltInt d (a+l/4*1) 0).2).2
  have m4:=median_mem ltInt d (medianAdjacent ltInt d (a+l/4*1) 0).1 (medianAdjacent ltInt d (a+l/4*2) (medianAdjacent ltInt d (a+l/4*1) 0).2).1
   (medianAdjacent ltInt d (a+l/4*3) (medianAdjacent ltInt d (a+l/4*2) (medianAdjacent ltInt d (a+l/4*1) 0).2).2).1
   (medianAdjacent ltInt d (a+l/4*3) (medianAdjacent ltInt d (a+l/4*2) (medianAdjacent ltInt d (a+l/4*1) 0).2).2).2
  omega
 ·have m4:=median_mem ltInt d (a+l/4*1) (a+l/4*2) (a+l/4*3) 0
  omega
theorem pivot_in(d:Array Int)(a b limit:Nat)(wb wp:Bool)(h:a+12<b):a<(rd ltInt d a b limit wb wp).pivot/\(rd ltInt d a b limit wb wp).pivot<b:=by
 have hc:=choose_in (rd ltInt d a b limit wb wp).d1 a b h
 rw[<-rd_c]at hc
 by_cases hh:(rd ltInt d a b limit wb wp).c.2=.decreasing
 ·rw[(rd_dec hh).2.1];omega
 ·rw[(rd_not hh).2.1];omega
theorem swoInt:SWO ltInt:=⟨fun x=>by simp[ltInt],fun x y z h1 h2=>by simp[ltInt]at*;omega,fun x y z h1 h2=>by simp[ltInt]at*;omega⟩
theorem ins_n(blk off cap N n a b:Nat)(d:Array Int)(w:World)(hS:Srt w blk off N d w)(hn:d.size=n)(hab:a<=b)(hb:b<=n)(hsz:n<1152921504606846976):
 Calls Tryz.prog 211 #[.slice (some ⟨blk,off,none⟩) n cap,.int .i64 a,.int .i64 b] w fun e w'=>e=.returned (.tuple #[])/\Srt w blk off N (insertionSort ltInt d a b) w':=by
 subst hn
 exact insSort_any blk off cap N a b d w hS hab hb (by omega)
theorem hint_two{h:Hint}(e:h=.decreasing):hintCode h=2:=by subst e;rfl
theorem hint_not{h:Hint}(e:h≠ .decreasing):hintCode h≠2:=by cases h<;>simp[hintCode]at*
theorem hint_one{h:Hint}:(hintCode h==1)=decide (h=.increasing):=by cases h<;>rfl
theorem pdq_any:∀(K blk off cap N n a b limit:Nat) (d:Array Int) (w:World),b-a<K->Srt w blk off N d w->d.size=n->a<=b->b<=n->n<1152921504606846976->limit<4611686018427387904->Go.Sort.Below ltInt a b d->
 Calls Tryz.prog 204 #[.slice (some ⟨blk,off,none⟩) n cap,.int .i64 a,.int .i64 b,.int .i64 limit] w fun e w'=>
  e=.returned (.tuple #[])/\Srt w blk off N (pdq ltInt d a b limit true true) w':=by
 intro K
 induction K with
 |zero=>intro blk off cap N n a b limit d w h;omega
 |succ K ih=>
  intro blk off cap N n a b limit d w hK hS hn hab hb hsz hlim hBel
  have IH:=Hd ih
  clear ih
  go_enter Tryz.func204,Tryz.ntmps204
  go_wp2_with fail
  go_loopw[1,2,3,8,9] (fun va vb vl v8 v9 wr=>∃(x y lm:Nat) (wb wp:Bool) (dk:Array Int),va=.int .i64 x/\vb=.int .i64 y/\vl=.int .i64 lm/\v8=.bool wb/\v9=.bool wp/\x<=y/\y<=n/\y-x<=K/\lm<4611686018427387904/\
   dk.size=n/\Srt w blk off N dk wr/\Hid (Go.Sort.Below ltInt x y dk)/\Hid (pdq ltInt dk x y lm wb wp=pdq ltInt d a b limit true true)) (fun va vb _ _ _ _=>natOf vb-natOf va)
  case atStart=>exact⟨a,b,limit,true,true,d,rfl,rfl,rfl,rfl,rfl,hab,hb,by omega,hlim,hn,hS,Hd hBel,Hd rfl⟩
  case round=>
   obtain⟨x,y,lm,wb,wp,dk,rfl,rfl,rfl,rfl,rfl,hxy,hyn,hyx,hlm,hsk,hSk,HBel,HO⟩:=hrel
   by_cases hsm:y-x<=12
   ·have hsi:(y:Int)-(x:Int)<=12:=by omega
    have HF:=Hd (show pdq ltInt d a b limit true true=insertionSort ltInt dk x y by rw[<-HO.out,Go.Sort.pdq_small hsm])
    go_wp2_with (go_at_call 211;refine(ins_n blk off cap N n x y dk _ hSk.start hsk hxy hyn hsz).mono ?_;rintro e w' ⟨rfl,hS'⟩)
    refine bodyPost_ret (results_none rfl _ _ _) rfl ?_
    rw[HF.out]
    exact⟨rfl,hSk.trans hS'⟩
   ·have hsi:¬(y:Int)-(x:Int)<=12:=by omega
    by_cases hl0:lm=0
    ·have HF:=Hd (show pdq ltInt d a b limit true true=heapSort ltInt dk x y by rw[<-HO.out,Go.Sort.pdq_heap hsm hl0])
     have hq:((lm:Int)==0)=true:=by rw[beq_iff_eq];omega
     clear hl0
     go_wp2_with (go_at_call 212;refine(heapSort_any blk off cap N n x y dk _ hSk.start hsk (by omega) hyn hsz).mono ?_;rintro e w' ⟨rfl,hS'⟩)
     refine bodyPost_ret (results_none rfl _ _ _) rfl ?_
     rw[HF.out]
     exact⟨rfl,hSk.trans hS'⟩
    ·have hq:((lm:Int)==0)=false:=by rw[beq_eq_false_iff_ne];omega
     have HFX:=Hd (rd_facts (wb:=wb) (wp:=wp) (limit:=lm) swoInt partialInsertionSort_holds reverseRange_holds (show x<y by omega) (show y<=dk.size by omega) HBel.out)
     have HPV:=Hd (pivot_in dk x y lm wb wp (by omega))
     have HEQ:=Hd (fun h1 h2 h3=>(Go.Sort.pdq_eq (lt:=ltInt) (d:=dk) (a:=x) (b:=y) (limit:=lm) (wb:=wb) (wp:=wp) hsm hl0 h1 h2 h3).symm.trans HO.out)
     have HLEFT:=Hd (fun h1 h2 h3 h4=>(Go.Sort.pdq_left (lt:=ltInt) (d:=dk) (a:=x) (b:=y) (limit:=lm) (wb:=wb) (wp:=wp) hsm hl0 h1 h2 h3 h4).symm.trans HO.out)
     have HRIGHT:=Hd (fun h1 h2 h3 h4=>(Go.Sort.pdq_right (lt:=ltInt) (d:=dk) (a:=x) (b:=y) (limit:=lm) (wb:=wb) (wp:=wp) hsm hl0 h1 h2 h3 h4).symm.trans HO.out)
     have HDONE:=Hd (fun h1=>(Go.Sort.pdq_done (lt:=ltInt) (d:=dk) (a:=x) (b:=y) (limit:=lm) (wb:=wb) (wp:=wp) hsm hl0 h1).symm.trans HO.out)
     have HLIM:=Hd (rd_lim_le (lt:=ltInt) (d:=dk) (a:=x) (b:=y) (limit:=lm) (wb:=wb) (wp:=wp))
     have HD1:=Hd (show(rd ltInt dk x y lm wb wp).d1=if(!wb)=true then breakPatterns dk x y else dk from rfl)
     have HLM:=Hd (show(rd ltInt dk x y lm wb wp).lim=if(!wb)=true then lm-1 else lm from rfl)
     have HC:=Hd (rd_c (lt:=ltInt) (d:=dk) (a:=x) (b:=y) (limit:=lm) (wb:=wb) (wp:=wp))
     have HDEC:=Hd (rd_dec (lt:=ltInt) (d:=dk) (a:=x) (b:=y) (limit:=lm) (wb:=wb) (wp:=wp))
     have HNOT:=Hd (rd_not (lt:=ltInt) (d:=dk) (a:=x) (b:=y) (limit:=lm) (wb:=wb) (wp:=wp))
     have HPY:=Hd (rd_pi_yes (lt:=ltInt) (d:=dk) (a:=x) (b:=y) (limit:=lm) (wb:=wb) (wp:=wp))
     have HPN:=Hd (rd_pi_no (lt:=ltInt) (d:=dk) (a:=x) (b:=y) (limit:=lm) (wb:=wb) (wp:=wp))
     go_upto_if 35 with fail
     go_cut[3] (fun v wc=>v=.int .i64 (rd ltInt dk x y lm wb wp).lim/\Srt w blk off N (rd ltInt dk x y lm wb wp).d1 wc)
     case first=>
      cases wb
      ·obtain⟨L,hL⟩:∃L:Nat,y=x+L:=⟨y-x,by omega⟩
       have HB:=Hd (break_any blk off cap N n x L dk wr hSk.start hsk (by omega) (by omega) hsz)
       rw[<-hL]at HB
       clear hL
       go_wp2_with (go_at_call 213;refine HB.out.mono ?_;rintro e w' ⟨rfl,hS'⟩)
       go_meet
       case rel=>exact⟨by rw[HLM.out];show _=Value.int .i64 ((lm-1:Nat):Int);congr 1;omega,by rw[HD1.out];exact hSk.trans hS'⟩
      ·go_wp2_with fail
       go_meet
       case rel=>exact⟨by rw[HLM.out];rfl,by rw[HD1.out];exact hSk⟩
     case rest=>
      obtain⟨rfl,hS1⟩:=hcut
      clear hSk HO HD1 HLM
      generalize rd ltInt dk x y lm wb wp=rr at*
      obtain⟨d1,lim,⟨cp,ch⟩,d2,pv,hint,⟨p1,p2⟩⟩:=rr
      simp only at HFX HPV HEQ HLEFT HRIGHT HDONE HLIM HC HDEC HNOT HPY HPN hS1
      obtain⟨f1,-,⟨f2,f3⟩,f4,f5,⟨f6,f7⟩,f8,f9⟩:=HFX.out
      rw[hsk]at f1 f4 f8
      have HB2:=Hd f5
      have HB3:=Hd f9
      obtain⟨v1,v2⟩:=HPV.out
      have HCH:=Hd (choose_any blk off cap N n x y d1 wc hS1.start f1 (by omega) hyn hsz)
      rw[<-HC.out]at HCH
      clear HFX HPV f5 f9 HC
      go_upto_if 50 with(go_at_call 214;refine HCH.out.mono ?_;rintro e w2 ⟨rfl,hS2⟩)
      replace hS2:=hS1.trans hS2
      clear hS1 HCH
      go_cut[11,12] (fun vp vh w3=>vp=.int .i64 pv/\vh=.int .i64 (hintCode hint)/\Srt w blk off N d2 w3)
      case first=>
       by_cases hdec:ch=.decreasing
       ·obtain⟨e1,e2,e3⟩:=HDEC.out hdec
        have hq2:(hintCode ch==2)=true:=by rw[hint_two hdec];rfl
        have E1:=Hd e1
        have E2:=Hd e2
        have E3:=Hd e3
        have HRV:=Hd (reverse_any blk off cap N n x y d1 w2 hS2.start f1 (by omega) hyn (by omega))
        clear hdec e1 e2 e3
        go_wp2_with (go_at_call 215;refine HRV.out.mono ?_;rintro e w3 ⟨rfl,hS3⟩)
        go_meet
        case rel=>exact⟨by rw[E2.out];congr 1;omega,by rw[E3.out];rfl,by rw[E1.out];exact hS2.trans hS3⟩
       ·obtain⟨e1,e2,e3⟩:=HNOT.out hdec
        have hq2:(hintCode ch==2)=false:=by rw[beq_eq_false_iff_ne];exact hint_not hdec
        have E1:=Hd e1
        have E2:=Hd e2
        have E3:=Hd e3
        clear e1 e2 e3
        go_wp2_with fail
        go_meet
        case rel=>exact⟨by rw[E2.out],by rw[E3.out],by rw[E1.out];exact hS2⟩
      case rest=>
       obtain⟨rfl,rfl,hS3⟩:=hcut
       clear hS2
       have HO1:=Hd (hint_one (h:=hint))
       go_upto_region 15 with fail
       go_cut[68] (fun v w4=>v=.bool (wb&&wp&&decide (hint=.increasing))/\Srt w blk off N d2 w4)
       case first=>
        have hh1:(hintCode hint==1)=decide (hint=.increasing):=HO1.out
        generalize decide (hint=Hint.increasing)=hb1 at*
        cases wb<;>cases wp<;>cases hb1
        all_goals
         go_wp2_with fail
         go_meet
         case rel=>exact⟨rfl,hS3⟩
       case rest=>
        obtain⟨rfl,hS4⟩:=hcut
        clear hS3 HDEC HNOT
        generalize hcc:(wb&&wp&&decide (hint=Hint.increasing))=cc at*
        clear hcc HO1
        have HPI:=Hd (pins_any blk off cap N n x y d2 wc hS4.start f4 (by omega) hyn hsz)
        cases p2
        ·go_upto_if 68 with fail
         go_cut[] (fun w5=>Srt w blk off N p1 w5)
         case first=>
          cases cc
          ·have e1:=HPN.out rfl
           have HE1:=Hd (show p1=d2 from congrArg Prod.fst e1)
           clear e1
           go_wp2_with fail
           go_meet
           case rel=>rw[HE1.out];exact hS4
          ·have e1:=HPY.out rfl
           rw[<-e1]at HPI
           clear e1
           go_wp2_with (go_at_call 216;refine HPI.out.mono ?_;rintro e w5 ⟨rfl,hS5⟩)
           go_meet
           case rel=>exact hS4.trans hS5
         case rest=>
          have hS5:=hcut
          clear HPI HPY HPN HDONE hS4
          have HEQ':=Hd (HEQ.out rfl)
          have HLEFT':=Hd (HLEFT.out rfl)
          have HRIGHT':=Hd (HRIGHT.out rfl)
          clear HEQ HLEFT HRIGHT
          obtain⟨G,hG⟩:∃G:Nat->Int,∀t,G t=p1[t]!:=⟨fun t=>p1[t]!,fun _=>rfl⟩
          have HG:=Hd hG
          clear hG hcut
          have HCD:=Hd (show(decide (x>0)&&!ltInt p1[x-1]! p1[pv]!)=(decide (0<x)&&!ltInt (G (x-1)) (G pv))by rw[HG.out,HG.out])
          go_upto_region 17 with fail
          go_cut[87] (fun v w6=>v=.bool (decide (0<x)&&!ltInt (G (x-1)) (G pv))/\Srt w blk off N p1 w6)
          case first=>
           have hcw:=hS5.cells HG.out f8
           have hfw:=hS5.frozens n
           by_cases hx0:0<x
           ·have hxi:decide ((0:Int)<(x:Int))=true:=dT (by omega)
            have hxn:decide (0<x)=true:=dT hx0
            go_wp2_with fail
            go_big_quiet (first|(go_at_call 217;refine Calls.quiet_of_same (lessU_any _ _ _)))
            go_wp2_with fail
            go_meet
            case rel=>exact⟨by first|rfl|simp[hxn]|(rw[hxn,Bool.true_and]),hS5.drewN _⟩
           ·have hxi:decide ((0:Int)<(x:Int))=false:=dF (by omega)
            have hxn:decide (0<x)=false:=dF hx0
            go_wp2_with fail
            go_big_quiet (first|(go_at_call 217;refine Calls.quiet_of_same (lessU_any _ _ _)))
            go_wp2_with fail
            go_meet
            case rel=>exact⟨by first|rfl|simp[hxn]|(rw[hxn,Bool.false_and]),hS5.drewN _⟩
          case rest=>
           obtain⟨rfl,hS6⟩:=hcut
           clear hS5
           rw[HCD.out]at HEQ' HLEFT' HRIGHT'
           have HG1:=Hd (HG.out (x-1))
           have HG2:=Hd (HG.out pv)
           cases hcc:(decide (0<x)&&!ltInt (G (x-1)) (G pv))
           ·obtain⟨mid,ap,d4,hx⟩:∃mid ap d4,partition ltInt p1 x y pv=(mid,ap,d4):=⟨_,_,_,rfl⟩
            obtain⟨r1,r2,r3,r4,r5,r6,r7⟩:=round_part swoInt (partition_holds ltInt) f6 f7 (by omega) HB3.out hx
            have HPT:=Hd (part_any blk off cap N n x y pv p1 wc hS6.start f8 v1 v2 hyn hsz)
            simp only[hx]at HPT HLEFT' HRIGHT'
            have HLF:=Hd (HLEFT'.out hcc ⟨r1,r2⟩)
            have HRT:=Hd (HRIGHT'.out hcc ⟨r1,r2⟩)
            rw[f8]at r3
            have hll:=HLIM.out
            have H8:=Hd (show decide (((y:Int)-(x:Int))/8<=(mid:Int)-(x:Int))=decide (mid-x>=(y-x)/8)by congr 1;apply propext;omega)
            have H9:=Hd (show decide (((y:Int)-(x:Int))/8<=(y:Int)-(mid:Int))=decide (y-mid>=(y-x)/8)by congr 1;apply propext;omega)
            have R4:=Hd r4
            have R5:=Hd r5
            have R6:=Hd r6
            have R7:=Hd r7
            clear r4 r5 r6 r7 hx HEQ' HLEFT' HRIGHT' HCD
            by_cases hlr:mid-x<y-mid
            ·have hlri:(mid:Int)-(x:Int)<(y:Int)-(mid:Int):=by omega
             obtain⟨q1,q2⟩:=pdq_sorts ltInt swoInt d4 x mid lim true true r1 (by omega) R4.out
             have Q3:=Hd (R6.out _ q1 q2).1
             have Q4:=Hd q1.1
             clear q1 q2
             go_wp2_with (first
              |(go_at_call 219;refine HPT.out.mono ?_;rintro e w7 ⟨rfl,hS7⟩)
              |(go_at_call 204;refine(IH.out blk off cap N n x mid lim d4 _ (by omega) hS7.start r3 r1 (by omega) hsz (by omega) R4.out).mono ?_;rintro e w8 ⟨rfl,hS8⟩))
             go_roundw
             case rel=>exact⟨mid+1,y,lim,_,ap,_,by go_num,rfl,rfl,by rw[H8.out],rfl,by omega,hyn,by omega,by omega,by rw[Q4.out];exact r3,(hS6.trans hS7).trans hS8,Q3,Hd (HLF.out hlr)⟩
             case measure=>simp[natOf];omega
            ·have hlri:¬(mid:Int)-(x:Int)<(y:Int)-(mid:Int):=by omega
             obtain⟨q1,q2⟩:=pdq_sorts ltInt swoInt d4 (mid+1) y lim true true (by omega) (by omega) R5.out
             have Q3:=Hd (R7.out _ q1 q2).1
             have Q4:=Hd q1.1
             clear q1 q2
             have IH2:=Hd (fun W (hW:Srt W blk off N d4 W)=>IH.out blk off cap N n (mid+1) y lim d4 W (by omega) hW r3 (by omega) hyn hsz (by omega) R5.out)
             rw[show(((mid+1:Nat):Int))=(mid:Int)+1 by omega]at IH2
             go_wp2_with (first
              |(go_at_call 219;refine HPT.out.mono ?_;rintro e w7 ⟨rfl,hS7⟩)
              |(go_at_call 204;refine(IH2.out _ hS7.start).mono ?_;rintro e w8 ⟨rfl,hS8⟩))
             go_roundw
             case rel=>exact⟨x,mid,lim,_,ap,_,rfl,rfl,rfl,by rw[H9.out],rfl,r1,by omega,by omega,by omega,by rw[Q4.out];exact r3,(hS6.trans hS7).trans hS8,Q3,Hd (HRT.out hlr)⟩
             case measure=>simp[natOf];omega
           ·have hx0:0<x:=by
             rcases Nat.eq_zero_or_pos x with h|h
             ·rw[h]at hcc;exact Bool.noConfusion hcc
             ·exact h
            have hnl:ltInt p1[x-1]! p1[pv]! =false:=by
             rw[<-HG1.out,<-HG2.out]
             cases hq9:ltInt (G (x-1)) (G pv)
             ·rfl
             ·rw[hq9,Bool.not_true,Bool.and_false]at hcc;exact Bool.noConfusion hcc
            obtain⟨mid,d4,hx⟩:∃mid d4,partitionEqual ltInt p1 x y pv=(mid,d4):=⟨_,_,rfl⟩
            obtain⟨r1,r2,r3,r4,-⟩:=round_eq swoInt (partitionEqual_holds ltInt) hx0 f6 f7 (by omega) HB3.out hnl hx
            have HPT:=Hd (partEq_any blk off cap N n x y pv p1 wc hS6.start f8 v1 v2 hyn hsz)
            simp only[hx]at HPT HEQ'
            have HF:=Hd (HEQ'.out hcc ⟨r1,r2⟩)
            rw[f8]at r3
            have hll:=HLIM.out
            have R4:=Hd r4
            clear r4 hx HEQ' HLEFT' HRIGHT' HCD hnl
            go_wp2_with (go_at_call 218;refine HPT.out.mono ?_;rintro e w7 ⟨rfl,hS7⟩)
            go_roundw
            case rel=>exact⟨mid,y,lim,wb,wp,d4,rfl,rfl,rfl,rfl,rfl,r2,hyn,by omega,by omega,r3,hS6.trans hS7,R4,HF⟩
            case measure=>simp[natOf];omega
        ·cases cc
         ·exact absurd (congrArg Prod.snd (HPN.out rfl)) (fun h=>Bool.noConfusion h)
         ·have e1:=HPY.out rfl
          rw[<-e1]at HPI
          clear e1
          have HD:=Hd (HDONE.out rfl)
          go_wp2_with (go_at_call 216;refine HPI.out.mono ?_;rintro e w5 ⟨rfl,hS5⟩)
          refine bodyPost_ret (results_none rfl _ _ _) rfl ?_
          rw[<-HD.out]
          exact⟨rfl,hS4.trans hS5⟩
def SortCap(n:Nat):Prop:=n*4<=140737488355328
theorem SortCap.lt{n:Nat}(h:SortCap n):n<1152921504606846976:=by unfold SortCap at h;omega
theorem sortU_any(blk off cap N:Nat)(d:Array Int)(w:World)(hS:Srt w blk off N d w)(hc:SortCap d.size):
 Calls Tryz.prog 184 #[.slice (some ⟨blk,off,none⟩) d.size cap] w fun e w'=>
  e=.returned (.tuple #[])/\Srt w blk off N (sort ltInt d) w':=by
 have hl:=hc.lt
 have hk:bitsLen d.size<=60:=(bitsLen_le_iff _ 60).2 (by omega)
 have HL:=Hd (show∀W,Calls Tryz.prog 205 #[.int .u64 (d.size:Int)] W fun e w'=>e=.returned (.int .i64 (bitsLen d.size:Nat))/\w'=W from fun W=>by
  have h:=Tryz.bits_Len (d.size:Int) W (by omega) (by omega)
  rwa [Int.toNat_natCast,bitLen_eq _ (by omega)]at h)
 have HP:=Hd (pdq_any (d.size+1) blk off cap N d.size 0 d.size (bitsLen d.size) d w (by omega) hS rfl (Nat.zero_le _) (Nat.le_refl _) hl (by omega) (Or.inl rfl))
 go_enter Tryz.func184,Tryz.ntmps184
 go_wp2_with (first
  |(go_at_call 205;refine(HL.out _).mono ?_;rintro e w' ⟨rfl,rfl⟩)
  |(go_at_call 204;refine HP.out.mono ?_;rintro e w' ⟨rfl,hS'⟩))
 go_end0
 exact⟨rfl,hS'⟩
theorem insNil_any(p:Option Addr)(cap:Nat)(w:World):
 Calls Tryz.prog 211 #[.slice p 0 cap,.int .i64 0,.int .i64 0] w fun e w'=>e=.returned (.tuple #[])/\w'=w:=by
 go_enter Tryz.func211,Tryz.ntmps211
 go_wp2
 refine wp_loop_once ?_
 go_wp2
 go_end0
 exact⟨rfl,rfl⟩
theorem pdqNil_any(p:Option Addr)(cap:Nat)(limit:Int)(w:World):
 Calls Tryz.prog 204 #[.slice p 0 cap,.int .i64 0,.int .i64 0,.int .i64 limit] w fun e w'=>e=.returned (.tuple #[])/\w'=w:=by
 go_enter Tryz.func204,Tryz.ntmps204
 go_wp2
 refine wp_loop_once ?_
 go_wp2_with (go_at_call 211;refine(insNil_any p cap _).mono ?_;rintro e w' ⟨rfl,rfl⟩)
 refine bodyPost_ret (results_none rfl _ _ _) rfl ?_
 exact⟨rfl,rfl⟩
theorem sortU_nil(p:Option Addr)(cap:Nat)(w:World):
 Calls Tryz.prog 184 #[.slice p 0 cap] w fun e w'=>e=.returned (.tuple #[])/\w'=w:=by
 have hb:Lib.bitLen 0=0:=by decide
 go_enter Tryz.func184,Tryz.ntmps184
 go_wp2_with (first
  |(go_at_call 205;refine(Tryz.bits_Len 0 _ (by omega) (by omega)).mono ?_;rintro e w' ⟨rfl,rfl⟩)
  |(go_at_call 204;refine(pdqNil_any p cap _ _).mono ?_;rintro e w' ⟨rfl,rfl⟩))
 go_end0
 exact⟨rfl,rfl⟩
open Go.Maps Go.Shelf
abbrev leU(x y:Int):Bool:=decide (x<=y)
theorem leU_trans(a b c:Int)(h:leU a b=true)(k:leU b c=true):leU a c=true:=dT (Int.le_trans (of_decide_eq_true h) (of_decide_eq_true k))
theorem leU_total(a b:Int):(leU a b||leU b a)=true:=by
 rcases Int.le_total a b with h|h
 ·rw[show leU a b=true from dT h];rfl
 ·rw[show leU b a=true from dT h,Bool.or_true]
theorem sorted_perm{l l':List Int}(h:l.Perm l'):l.mergeSort leU=l'.mergeSort leU:=by
 refine List.Perm.eq_of_pairwise (le:=fun a b=>leU a b=true) ?_ (List.pairwise_mergeSort leU_trans leU_total l) (List.pairwise_mergeSort leU_trans leU_total l') ?_
 ·exact fun a b _ _ h1 h2=>Int.le_antisymm (of_decide_eq_true h1) (of_decide_eq_true h2)
 ·exact((List.mergeSort_perm l leU).trans h).trans (List.mergeSort_perm l' leU).symm
theorem sort_list(ss:List Int):(sort ltInt ss.toArray).toList=ss.mergeSort leU:=sortInt ss
theorem sorted_any(F:Fence)(n:Nat)(h6:F.fn 139)(h8:F.fn 183)(h9:F.fn 184)(h11:F.fn 203)(hro:F.round=none)
 (hsort:∀(gb cap N:Nat) (d:Array Int) (W:World),Srt W gb 0 N d W->SortCap d.size->CallsIn F (n-1) Tryz.prog 184 #[.slice (some ⟨gb,0,none⟩) d.size cap] W fun e w'=>e=.returned (.tuple #[])/\Srt W gb 0 N (sort ltInt d) w')
 (hnone:∀W:World,CallsIn F (n-1) Tryz.prog 184 #[.slice none 0 0] W fun e w'=>e=.returned (.tuple #[])/\w'=W)
 (g:Nat) (lb:Array Value) (hFg:F.fn g) (eg:∀args w,(callFunc g args).run Tryz.prog w=.ok (.enter g args) w) (hn:4<=n)
 (S:List Int->Prop) (N:Nat) (hN:N<=maxLen) (hNb:N*4<=140737488355328) (hcap:SortCap N) (w:World) (hseq:SeqGives F (n-1-1-1) Tryz.prog g lb encU S N w):
 CallsIn F n Tryz.prog 139 #[.func (.func g) #[] lb] w fun e w'=>∃(v:Value) (ss:List Int),e=.returned v/\S ss/\
  w'.ownsRow w.heap.size 23 1 v ss.length ((ss.mergeSort leU).map encU)/\Below w.heap.size w w':=by
 have h1:1<=n:=by omega
 refine callsIn_of_wp Tryz.func139 rfl h6 ?_ hro
 simp only[Tryz.ntmps139,List.size_toArray,List.length_cons,List.length_nil,Nat.reduceAdd,Nat.reduceSub,Array.replicate_succ,Array.replicate_zero,List.push_toArray,List.append_toArray,List.nil_append,List.cons_append]
 gi_wp2_with (gi_at_call 183;refine(collect_in F (n-1) h8 h11 hro (by omega) g lb hFg eg _ N hN hNb _ hseq.bounded).mono ?_;rintro e W ⟨v,ss,rfl,⟨hS,hlen⟩,hrow,hnil,hb⟩)
 have hcs:SortCap ss.toArray.size:=by
  have h9:ss.toArray.size<=N:=by simpa using hlen
  have h8:N*4<=140737488355328:=hcap
  show ss.toArray.size*4<=140737488355328
  omega
 rcases hrow.2 with⟨rfl,hz⟩|⟨gb,cap,cur,rfl,hbase,hgb,r1,r2,r3,r4⟩
 ·have hss:ss=[]:=List.eq_nil_of_length_eq_zero hz
  subst hss
  gi_wp2_with (gi_at_call 184;refine(hnone W).mono ?_;rintro e w' ⟨rfl,rfl⟩)
  go_ret
  exact⟨.slice none 0 0,[],rfl,hS,by simpa using hrow,hb⟩
 ·have hT:Srt W gb 0 cur.size ss.toArray W:=by
   refine⟨grown_refl _ _,cur,hgb,rfl,fun j hj=>?_⟩
   have hj':j<ss.length:=by simpa using hj
   have h2:(cur.toList.take ss.length)[j]? =(ss.map encU)[j]?:=by rw[<-r4,Nat.mul_one]
   rw[List.getElem?_take_of_lt hj']at h2
   rw[Nat.zero_add,<-Array.getElem?_toList,h2]
   simp[hj']
  have cS:=hsort gb cap cur.size ss.toArray W hT hcs
  gi_wp2_with (gi_at_call 184;refine cS.mono ?_;rintro e w' ⟨rfl,hS'⟩)
  go_ret
  obtain⟨c,c1,c2,c3⟩:=hS'.row
  have hlist:=sort_list ss
  have hsz:(sort ltInt ss.toArray).size=ss.length:=by rw[<-Array.length_toList,hlist,List.length_mergeSort]
  refine⟨_,ss,rfl,hS,⟨by simp,.inr ⟨gb,cap,c,rfl,hbase,c1,r1,r2,by rw[c2,r3],?_⟩⟩,hb.grown hS'.grown hb.size (fun j hj=>by cases hj;exact hbase)⟩
  apply List.ext_getElem?
  intro j
  rw[Nat.mul_one]
  by_cases hj:j<ss.length
  ·rw[List.getElem?_take_of_lt hj,Array.getElem?_toList]
   have h3:=c3 j (by omega)
   rw[Nat.zero_add]at h3
   rw[h3,List.getElem?_map,<-hlist,Array.getElem?_toList,getElem!_pos _ j (by omega),Array.getElem?_eq_getElem (by omega)]
   rfl
  ·rw[List.getElem?_take_eq_none (by omega),List.getElem?_eq_none (by simp;omega)]
theorem keysU_any(mb:Option Nat)(w:World):
 Calls Tryz.prog 140 #[.map mb] w fun e w'=>e=.returned (.func (.func 185) #[] #[.pointer (some ⟨w.heap.size,0,none⟩)])/\w'=w.alloc (.cells #[.map mb] 196):=
 callsIn_wide.1 (keys_in Fence.wide 1 trivial rfl mb w)
theorem sortedKeys_any{H:Type}(Bm b nn:Nat)(D0:DataW H){R:Value->Option (DataW H × List MemPlace)}(w:World)(hBm:Bm<w.heap.size)
 (hm:w.cell? ⟨Bm,0,none⟩=some (.map (some b))) (hown:w.ownsMap Tryz.prog 23 R b nn D0) (hmax:Maps.size D0<=maxLen) (hbytes:Maps.size D0*4<=140737488355328) (hcap:SortCap (Maps.size D0)):
 Calls Tryz.prog 139 #[.func (.func 185) #[] #[.pointer (some ⟨Bm,0,none⟩)]] w fun e w'=>∃v,e=.returned v/\
  w'.ownsRow w.heap.size 23 1 v ((u32Keys D0).mergeSort leU).length (((u32Keys D0).mergeSort leU).map encU)/\Below w.heap.size w w':=by
 refine callsIn_wide.1 ((sorted_any Fence.wide 10 trivial trivial trivial trivial rfl (fun gb cap N d W h k=>callsIn_wide.2 (sortU_any gb 0 cap N d W h k)) (fun W=>callsIn_wide.2 (sortU_nil none 0 W)) 185 _ trivial (enters_of Tryz.func185 (by kernel_rfl) rfl) (by omega) _ _ hmax hbytes hcap w
  (keys_gives Fence.wide _ trivial rfl (by omega) Bm b nn D0 w hBm hm hown)).mono ?_)
 rintro e w' ⟨v,ss,rfl,hp,h2,h3⟩
 refine⟨v,rfl,?_,h3⟩
 rw[<-sorted_perm hp,List.length_mergeSort]
 exact h2
end Go.Proofs.YtjflkifodfncmaaGreatDoor
