/- SortG, SortH: these texts in one. Conditions: each theorem names its own. -/
import Derived.Test.YtjflkifodfncmaaGreatDoorGSortB
import Derived.Sort.WalkA14
import Derived.Laws.Bits64
import Derived.Laws.Bits64b
namespace Go.Proofs.YtjflkifodfncmaaGreatDoor
set_option maxHeartbeats 4000000
set_option maxRecDepth 100000
open Go Go.RowKit Go.Sort Go.Proofs
theorem ss_go(d:Array Int)(b i:Nat)(h1:i<b)(h2:ltInt d[i]! d[i-1]! =false):scanSorted ltInt d b i=scanSorted ltInt d b (i+1):=by
 rw[scanSorted];simp[h1,h2]
theorem ss_stop(d:Array Int)(b i:Nat)(h:¬i<b\/ltInt d[i]! d[i-1]! =true):scanSorted ltInt d b i=i:=by
 rw[scanSorted]
 rcases h with h|h
 ·simp[h]
 ·simp[h]
theorem ss_bd(d:Array Int)(b:Nat):∀(m i:Nat),b-i=m->i<=b->i<=scanSorted ltInt d b i/\scanSorted ltInt d b i<=b
 |0,i,h,hi=>by rw[ss_stop d b i (.inl (by omega))];omega
 |m+1,i,h,hi=>by
  cases hA:ltInt d[i]! d[i-1]!
  ·rw[ss_go d b i (by omega) hA]
   have:=ss_bd d b m (i+1) (by omega) (by omega)
   omega
  ·rw[ss_stop d b i (.inr hA)];omega
theorem up2_go(b j:Nat)(d:Array Int)(h:j<b)(hl:ltInt d[j]! d[j-1]! =true):shiftUp ltInt b j d=shiftUp ltInt b (j+1) (swp d j (j-1)):=by
 rw[shiftUp];simp[h,hl]
theorem up2_stop(b j:Nat)(d:Array Int)(h:¬j<b\/ltInt d[j]! d[j-1]! =false):shiftUp ltInt b j d=d:=by
 rw[shiftUp]
 rcases h with h|h
 ·simp[h]
 ·simp[h]
theorem up_size(b j:Nat)(d:Array Int):(shiftUp ltInt b j d).size=d.size:=by
 fun_induction shiftUp ltInt b j d<;>simp_all [size_swp]
theorem dn_go(j:Nat)(d:Array Int)(h:1<=j)(hl:ltInt d[j]! d[j-1]! =true):shiftDown ltInt j d=shiftDown ltInt (j-1) (swp d j (j-1)):=by
 obtain⟨k,rfl⟩:∃k,j=k+1:=⟨j-1,by omega⟩
 rw[shiftDown]
 simp only[Nat.add_sub_cancel]at hl ⊢
 simp[hl]
theorem dn_stop(j:Nat)(d:Array Int)(h:¬1<=j\/ltInt d[j]! d[j-1]! =false):shiftDown ltInt j d=d:=by
 cases j with
 |zero=>rfl
 |succ k=>
  rw[shiftDown]
  simp only[Nat.add_sub_cancel]at h
  rcases h with h|h
  ·omega
  ·simp[h]
theorem dn_size:∀(j:Nat) (d:Array Int),(shiftDown ltInt j d).size=d.size
 |0,d=>rfl
 |j+1,d=>by
  rw[shiftDown]
  split
  ·rfl
  ·rw[dn_size j,size_swp]
theorem pi_step(a b s i:Nat)(d:Array Int):partialIns ltInt a b (s+1) i d=if scanSorted ltInt d b i=b then(d,true)else if b-a<50 then(d,false)else
 partialIns ltInt a b s (scanSorted ltInt d b i) (if b-scanSorted ltInt d b i>=2 then shiftUp ltInt b (scanSorted ltInt d b i+1) (if scanSorted ltInt d b i-a>=2 then shiftDown ltInt (scanSorted ltInt d b i-1) (swp d (scanSorted ltInt d b i) (scanSorted ltInt d b i-1))else swp d (scanSorted ltInt d b i) (scanSorted ltInt d b i-1))
  else(if scanSorted ltInt d b i-a>=2 then shiftDown ltInt (scanSorted ltInt d b i-1) (swp d (scanSorted ltInt d b i) (scanSorted ltInt d b i-1))else swp d (scanSorted ltInt d b i) (scanSorted ltInt d b i-1))):=rfl
theorem pins_any(blk off cap N n a b:Nat)(d:Array Int)(w:World)(hS:Srt w blk off N d w)(hn:d.size=n)(hab:a+1<b)(hb:b<=n)(hsz:n<1152921504606846976):
 Calls Tryz.prog 216 #[.slice (some ⟨blk,off,none⟩) n cap,.int .i64 a,.int .i64 b] w fun e w'=>
  e=.returned (.bool (partialInsertionSort ltInt d a b).2)/\Srt w blk off N (partialInsertionSort ltInt d a b).1 w':=by
 go_enter Tryz.func216,Tryz.ntmps216
 go_wp2_with fail
 go_loopw[7,8] (fun vi vs wr=>∃(i st:Nat) (dk:Array Int),vi=.int .i64 i/\vs=.int .i64 st/\a<i/\i<=b/\st<=5/\dk.size=n/\Srt w blk off N dk wr/\
  Hid (partialIns ltInt a b (5-st) i dk=partialInsertionSort ltInt d a b)) (fun _ vs _=>5-natOf vs)
 case atStart=>exact⟨a+1,0,d,by go_num,rfl,by omega,by omega,by omega,hn,hS,Hd rfl⟩
 case round=>
  obtain⟨i,st,dk,rfl,rfl,hi,hib,hst,hsk,hSk,HO⟩:=hrel
  by_cases hs5:st<5
  ·obtain⟨i2,hi2⟩:∃i2,scanSorted ltInt dk b i=i2:=⟨_,rfl⟩
   have hbd:=ss_bd dk b _ i rfl hib
   rw[hi2]at hbd
   obtain⟨hb1,hb2⟩:=hbd
   have HI2:=Hd hi2
   obtain⟨s1,hs1⟩:∃s1,5-st=s1+1:=⟨4-st,by omega⟩
   have hs2:5-(st+1)=s1:=by omega
   have HS2:=Hd hs2
   have HSTEP:=Hd (show partialInsertionSort ltInt d a b=if i2=b then(dk,true)else if b-a<50 then(dk,false)else
    partialIns ltInt a b s1 i2 (if b-i2>=2 then shiftUp ltInt b (i2+1) (if i2-a>=2 then shiftDown ltInt (i2-1) (swp dk i2 (i2-1))else swp dk i2 (i2-1))else(if i2-a>=2 then shiftDown ltInt (i2-1) (swp dk i2 (i2-1))else swp dk i2 (i2-1)))by
    rw[<-HO.out,hs1,pi_step,hi2])
   clear hi2 hs1 hs2
   go_upto_block 2 with fail
   go_cut[7] (fun v wc=>v=.int .i64 i2/\Srt w blk off N dk wc)
   case first=>
    go_wp2_with fail
    go_loopw[7] (fun v wq=>∃k:Nat,v=.int .i64 k/\i<=k/\k<=b/\Srt w blk off N dk wq/\Hid (scanSorted ltInt dk b k=i2)) (fun v _=>b-natOf v)
    case atStart=>exact⟨i,rfl,Nat.le_refl _,hib,hSk,HI2⟩
    case round=>
     obtain⟨k,rfl,hk0,hk1,hS0,HU⟩:=hrel
     obtain⟨G,hG⟩:∃G:Nat->Int,∀t,G t=dk[t]!:=⟨fun t=>dk[t]!,fun _=>rfl⟩
     have HG:=Hd hG
     clear hG
     have hcw:=hS0.cells HG.out hsk
     have hfw:=hS0.frozens n
     by_cases hkb:k<b
     ·have hd:decide ((k:Int)<(b:Int))=true:=dT (by omega)
      have hdn:decide (k<b)=true:=dT hkb
      cases hA:ltInt (G k) (G (k-1))
      ·go_wp2_with fail
       go_big_quiet (first|(go_at_call 217;refine Calls.quiet_of_same (lessU_any _ _ _)))
       go_wp2_with fail
       go_roundw
       case rel=>exact⟨k+1,by go_num,by omega,by omega,hS0.drewN _,Hd (by rw[<-HU.out,ss_go dk b k hkb (by rw[<-HG.out,<-HG.out];exact hA)])⟩
       case measure=>simp[natOf];omega
      ·have HK2:=Hd (show k=i2 by rw[<-HU.out,ss_stop dk b k (.inr (by rw[<-HG.out,<-HG.out];exact hA))])
       go_wp2_with fail
       go_big_quiet (first|(go_at_call 217;refine Calls.quiet_of_same (lessU_any _ _ _)))
       go_wp2_with fail
       go_meet
       case rel=>exact⟨by rw[HK2.out],hS0.drewN _⟩
     ·have hd:decide ((k:Int)<(b:Int))=false:=dF (by omega)
      have hdn:decide (k<b)=false:=dF hkb
      have HK2:=Hd (show k=i2 by rw[<-HU.out,ss_stop dk b k (.inl hkb)])
      go_wp2_with fail
      go_big_quiet (first|(go_at_call 217;refine Calls.quiet_of_same (lessU_any _ _ _)))
      go_wp2_with fail
      go_meet
      case rel=>exact⟨by rw[HK2.out],hS0.drewN _⟩
   case rest=>
    obtain⟨rfl,hS0⟩:=hcut
    clear hSk
    by_cases hib2:i2=b
    ·have HF:=Hd (show partialInsertionSort ltInt d a b=(dk,true)by rw[HSTEP.out,if_pos hib2])
     have hq:((i2:Int)==(b:Int))=true:=by rw[beq_iff_eq];omega
     have HIB:=Hd hib2
     clear hib2
     go_wp2_with fail
     go_ret
     rw[HF.out]
     exact⟨rfl,hS0⟩
    ·have hq:((i2:Int)==(b:Int))=false:=by rw[beq_eq_false_iff_ne];omega
     by_cases h50:b-a<50
     ·have HF:=Hd (show partialInsertionSort ltInt d a b=(dk,false)by rw[HSTEP.out,if_neg hib2,if_pos h50])
      have h50i:(b:Int)-(a:Int)<50:=by omega
      go_wp2_with fail
      go_ret
      rw[HF.out]
      exact⟨rfl,hS0⟩
     ·have h50i:¬(b:Int)-(a:Int)<50:=by omega
      have hlt2:i2<b:=by omega
      obtain⟨G,hG⟩:∃G:Nat->Int,∀t,G t=dk[t]!:=⟨fun t=>dk[t]!,fun _=>rfl⟩
      have HG:=Hd hG
      clear hG
      have hcw:=hS0.cells HG.out hsk
      have hfw:=hS0.frozens n
      obtain⟨d1,hd1⟩:∃d1,swp dk i2 (i2-1)=d1:=⟨_,rfl⟩
      have hn1:d1.size=n:=by rw[<-hd1,size_swp];exact hsk
      have HSW:=Hd (show∀W:World,Srt w blk off N dk W->Srt w blk off N d1 (((W.setCell ⟨blk,off+i2,none⟩ (.int .u32 (G (i2-1)))).setCell ⟨blk,off+(i2-1),none⟩ (.int .u32 (G i2))).drewN 1)from fun W hW=>by
       rw[<-hd1];exact(hW.swpG HG.out (i:=i2) (j:=i2-1) (by omega) (by omega)).drewN 1)
      rw[hd1,if_neg hib2,if_neg h50]at HSTEP
      clear hd1 HG
      go_wp2_with fail
      go_region
      refine hideW (Φ:=fun W=>Exit.then _ _ _ _ W) (fun W=>Srt w blk off N d1 W) (HSW.out _ hS0) (fun w4 hS4=>?_)
      clear hcw hfw hS0 HSW
      by_cases h1:i2-a>=2
      ·have h1i:2<=(i2:Int)-(a:Int):=by omega
       rw[if_pos h1]at HSTEP
       obtain⟨d2,hd2⟩:∃d2,shiftDown ltInt (i2-1) d1=d2:=⟨_,rfl⟩
       have HD2:=Hd hd2
       have hn2:d2.size=n:=by rw[<-hd2,dn_size];exact hn1
       rw[hd2]at HSTEP
       have HNEXT:∀d3,(if b-i2>=2 then shiftUp ltInt b (i2+1) d2 else d2)=d3->partialIns ltInt a b (5-(st+1)) i2 d3=partialInsertionSort ltInt d a b:=fun d3 h=>by
        rw[HSTEP.out,HS2.out,h]
       clear hd2 HSTEP HO HI2
       go_upto_block 4 with fail
       go_cut[9] (fun _ wc=>Srt w blk off N d2 wc)
       case first=>
        go_wp2_with fail
        go_loopw[9] (fun v wq=>∃(k:Nat) (dq:Array Int),v=.int .i64 k/\k<n/\dq.size=n/\Srt w blk off N dq wq/\Hid (shiftDown ltInt k dq=d2)) (fun v _=>natOf v)
        case atStart=>exact⟨i2-1,d1,by congr 1;omega,by omega,hn1,hS4,HD2⟩
        case round=>
         obtain⟨k,dq,rfl,hk1,hsq,hSq,HU⟩:=hrel
         obtain⟨G,hG⟩:∃G:Nat->Int,∀t,G t=dq[t]!:=⟨fun t=>dq[t]!,fun _=>rfl⟩
         have HG:=Hd hG
         clear hG
         have hcw:=hSq.cells HG.out hsq
         have hfw:=hSq.frozens n
         by_cases hkb:1<=k
         ·cases hA:ltInt (G k) (G (k-1))
          ·have HK:=Hd (show dq=d2 by rw[<-HU.out,dn_stop k dq (.inr (by rw[<-HG.out,<-HG.out];exact hA))])
           go_wp2_with fail
           go_big_quiet (first|(go_at_call 217;refine Calls.quiet_of_same (lessU_any _ _ _)))
           go_wp2_with fail
           go_meet
           case rel=>rw[<-HK.out];exact hSq.drewN _
          ·have HK:=Hd (show shiftDown ltInt k dq=shiftDown ltInt (k-1) (swp dq k (k-1))from dn_go k dq hkb (by rw[<-HG.out,<-HG.out];exact hA))
           go_wp2_with fail
           go_big_quiet (first|(go_at_call 217;refine Calls.quiet_of_same (lessU_any _ _ _)))
           go_wp2_with fail
           revert nq;intro nq1
           have hS5:=hSq.drewN nq1
           clear hcw hfw
           generalize wr.drewN nq1=wz at hS5 ⊢
           have hcw:=hS5.cells HG.out hsq
           have hfw:=hS5.frozens n
           go_region
           go_wp2_with fail
           go_roundw
           case rel=>exact⟨k-1,swp dq k (k-1),by congr 1;omega,by omega,by rw[size_swp];exact hsq,(hS5.swpG HG.out (i:=k) (j:=k-1) (by omega) (by omega)).drewN 1,Hd (by rw[<-HK.out];exact HU.out)⟩
           case measure=>simp[natOf];omega
         ·have HK:=Hd (show dq=d2 by rw[<-HU.out,dn_stop k dq (.inl hkb)])
          go_wp2_with fail
          go_meet
          case rel=>rw[<-HK.out];exact hSq
       case rest=>
        have hS7:=hcut
        by_cases h2:b-i2>=2
        ·have h2i:2<=(b:Int)-(i2:Int):=by omega
         obtain⟨d3,hd3⟩:∃d3,shiftUp ltInt b (i2+1) d2=d3:=⟨_,rfl⟩
         have HD3:=Hd hd3
         have HS3:=Hd (up_size b (i2+1) d2)
         have HE:=Hd (show(if b-i2>=2 then shiftUp ltInt b (i2+1) d2 else d2)=d3 by rw[if_pos h2,hd3])
         have hn3:d3.size=n:=by rw[<-hd3,HS3.out];exact hn2
         clear hd3 HS3
         have HFIN:=Hd (HNEXT d3 HE.out)
         go_wp2_with fail
         go_loopw[10] (fun v wq=>∃(k:Nat) (dq:Array Int),v=.int .i64 k/\i2+1<=k/\k<=b/\dq.size=n/\Srt w blk off N dq wq/\Hid (shiftUp ltInt b k dq=d3)) (fun v _=>b-natOf v)
         case atStart=>exact⟨i2+1,d2,by go_num,by omega,by omega,hn2,hS7,HD3⟩
         case round=>
          obtain⟨k,dq,rfl,hk0,hk1,hsq,hSq,HU⟩:=hrel
          obtain⟨G,hG⟩:∃G:Nat->Int,∀t,G t=dq[t]!:=⟨fun t=>dq[t]!,fun _=>rfl⟩
          have HG:=Hd hG
          clear hG
          have hcw:=hSq.cells HG.out hsq
          have hfw:=hSq.frozens n
          by_cases hkb:k<b
          ·cases hA:ltInt (G k) (G (k-1))
           ·have HK:=Hd (show dq=d3 by rw[<-HU.out,up2_stop b k dq (.inr (by rw[<-HG.out,<-HG.out];exact hA))])
            go_wp2_with fail
            go_big_quiet (first|(go_at_call 217;refine Calls.quiet_of_same (lessU_any _ _ _)))
            go_wp2_with fail
            go_roundw
            case rel=>exact⟨i2,st+1,d3,rfl,by go_num,by omega,by omega,by omega,hn3,(by rw[<-HK.out];exact hSq.drewN _),HFIN⟩
            case measure=>simp[natOf];omega
           ·have HK:=Hd (show shiftUp ltInt b k dq=shiftUp ltInt b (k+1) (swp dq k (k-1))from up2_go b k dq hkb (by rw[<-HG.out,<-HG.out];exact hA))
            go_wp2_with fail
            go_big_quiet (first|(go_at_call 217;refine Calls.quiet_of_same (lessU_any _ _ _)))
            go_wp2_with fail
            revert nq;intro nq1
            have hS5:=hSq.drewN nq1
            clear hcw hfw
            generalize wr.drewN nq1=wz at hS5 ⊢
            have hcw:=hS5.cells HG.out hsq
            have hfw:=hS5.frozens n
            go_region
            go_wp2_with fail
            go_roundw
            case rel=>exact⟨k+1,swp dq k (k-1),by go_num,by omega,by omega,by rw[size_swp];exact hsq,(hS5.swpG HG.out (i:=k) (j:=k-1) (by omega) (by omega)).drewN 1,Hd (by rw[<-HK.out];exact HU.out)⟩
            case measure=>simp[natOf];omega
          ·have HK:=Hd (show dq=d3 by rw[<-HU.out,up2_stop b k dq (.inl hkb)])
           go_wp2_with fail
           go_roundw
           case rel=>exact⟨i2,st+1,d3,rfl,by go_num,by omega,by omega,by omega,hn3,(by rw[<-HK.out];exact hSq),HFIN⟩
           case measure=>simp[natOf];omega
        ·have h2i:¬2<=(b:Int)-(i2:Int):=by omega
         have HFIN:=Hd (HNEXT d2 (by rw[if_neg h2]))
         go_wp2_with fail
         go_roundw
         case rel=>exact⟨i2,st+1,d2,rfl,by go_num,by omega,by omega,by omega,hn2,hS7,HFIN⟩
         case measure=>simp[natOf];omega
      ·have h1i:¬2<=(i2:Int)-(a:Int):=by omega
       rw[if_neg h1]at HSTEP
       have HNEXT:∀d3,(if b-i2>=2 then shiftUp ltInt b (i2+1) d1 else d1)=d3->partialIns ltInt a b (5-(st+1)) i2 d3=partialInsertionSort ltInt d a b:=fun d3 h=>by
        rw[HSTEP.out,HS2.out,h]
       clear HSTEP HO HI2
       by_cases h2:b-i2>=2
       ·have h2i:2<=(b:Int)-(i2:Int):=by omega
        obtain⟨d3,hd3⟩:∃d3,shiftUp ltInt b (i2+1) d1=d3:=⟨_,rfl⟩
        have HD3:=Hd hd3
        have HS3:=Hd (up_size b (i2+1) d1)
        have HE:=Hd (show(if b-i2>=2 then shiftUp ltInt b (i2+1) d1 else d1)=d3 by rw[if_pos h2,hd3])
        have hn3:d3.size=n:=by rw[<-hd3,HS3.out];exact hn1
        clear hd3 HS3
        have HFIN:=Hd (HNEXT d3 HE.out)
        go_wp2_with fail
        go_loopw[10] (fun v wq=>∃(k:Nat) (dq:Array Int),v=.int .i64 k/\i2+1<=k/\k<=b/\dq.size=n/\Srt w blk off N dq wq/\Hid (shiftUp ltInt b k dq=d3)) (fun v _=>b-natOf v)
        case atStart=>exact⟨i2+1,d1,by go_num,by omega,by omega,hn1,hS4,HD3⟩
        case round=>
         obtain⟨k,dq,rfl,hk0,hk1,hsq,hSq,HU⟩:=hrel
         obtain⟨G,hG⟩:∃G:Nat->Int,∀t,G t=dq[t]!:=⟨fun t=>dq[t]!,fun _=>rfl⟩
         have HG:=Hd hG
         clear hG
         have hcw:=hSq.cells HG.out hsq
         have hfw:=hSq.frozens n
         by_cases hkb:k<b
         ·cases hA:ltInt (G k) (G (k-1))
          ·have HK:=Hd (show dq=d3 by rw[<-HU.out,up2_stop b k dq (.inr (by rw[<-HG.out,<-HG.out];exact hA))])
           go_wp2_with fail
           go_big_quiet (first|(go_at_call 217;refine Calls.quiet_of_same (lessU_any _ _ _)))
           go_wp2_with fail
           go_roundw
           case rel=>exact⟨i2,st+1,d3,rfl,by go_num,by omega,by omega,by omega,hn3,(by rw[<-HK.out];exact hSq.drewN _),HFIN⟩
           case measure=>simp[natOf];omega
          ·have HK:=Hd (show shiftUp ltInt b k dq=shiftUp ltInt b (k+1) (swp dq k (k-1))from up2_go b k dq hkb (by rw[<-HG.out,<-HG.out];exact hA))
           go_wp2_with fail
           go_big_quiet (first|(go_at_call 217;refine Calls.quiet_of_same (lessU_any _ _ _)))
           go_wp2_with fail
           revert nq;intro nq1
           have hS5:=hSq.drewN nq1
           clear hcw hfw
           generalize wr.drewN nq1=wz at hS5 ⊢
           have hcw:=hS5.cells HG.out hsq
           have hfw:=hS5.frozens n
           go_region
           go_wp2_with fail
           go_roundw
           case rel=>exact⟨k+1,swp dq k (k-1),by go_num,by omega,by omega,by rw[size_swp];exact hsq,(hS5.swpG HG.out (i:=k) (j:=k-1) (by omega) (by omega)).drewN 1,Hd (by rw[<-HK.out];exact HU.out)⟩
           case measure=>simp[natOf];omega
         ·have HK:=Hd (show dq=d3 by rw[<-HU.out,up2_stop b k dq (.inl hkb)])
          go_wp2_with fail
          go_roundw
          case rel=>exact⟨i2,st+1,d3,rfl,by go_num,by omega,by omega,by omega,hn3,(by rw[<-HK.out];exact hSq),HFIN⟩
          case measure=>simp[natOf];omega
       ·have h2i:¬2<=(b:Int)-(i2:Int):=by omega
        have HFIN:=Hd (HNEXT d1 (by rw[if_neg h2]))
        go_wp2_with fail
        go_roundw
        case rel=>exact⟨i2,st+1,d1,rfl,by go_num,by omega,by omega,by omega,hn1,hS4,HFIN⟩
        case measure=>simp[natOf];omega
  ·have hst5:st=5:=by omega
   have HF:=Hd (show partialInsertionSort ltInt d a b=(dk,false)by rw[<-HO.out,hst5];rfl)
   have hd:decide ((st:Int)<5)=false:=dF (by omega)
   clear hst5
   go_wp2_with fail
   go_ret
   rw[HF.out]
   exact⟨rfl,hSk⟩
def C64(w:World)(rb X:Nat):Prop:=w.heap[rb]? =some (.cells #[.int .u64 (X:Int)] 266 (0,0))
theorem C64.cell{w:World}{rb X:Nat}(h:C64 w rb X):w.cell? ⟨rb,0,none⟩=some (.int .u64 (X:Int)):=by unfold C64 at h;simp[World.cell?,h]
theorem C64.frozen{w:World}{rb X:Nat}(h:C64 w rb X):w.frozen? ⟨rb,0,none⟩=false:=by unfold C64 at h;simp[World.frozen?,h]
theorem C64.set{w:World}{rb X:Nat}(h:C64 w rb X)(Y:Nat):C64 (w.setCell ⟨rb,0,none⟩ (.int .u64 (Y:Int))) rb Y:=by
 unfold C64 at*
 rw[setCell_eq]
 unfold mapBlock
 simp[Array.getElem?_modify,h,onCells]
theorem C64.other{w:World}{rb X blk o:Nat}{v:Value}(h:C64 w rb X)(hne:rb≠blk):C64 (w.setCell ⟨blk,o,none⟩ v) rb X:=by
 unfold C64 at*
 exact(Below.heap_setCell w _ _ rb (by simpa using hne)).trans h
theorem C64.drewN{w:World}{rb X:Nat}(h:C64 w rb X)(n:Nat):C64 (w.drewN n) rb X:=h
theorem set_set(w:World)(blk off:Nat)(v v':Value):(w.setCell ⟨blk,off,none⟩ v).setCell ⟨blk,off,none⟩ v'=w.setCell ⟨blk,off,none⟩ v':=by
 rw[setCell_eq,setCell_eq,setCell_eq,mapBlock_mapBlock]
 congr 1
 funext c
 simp
theorem xorshift_any(rb X:Nat)(hX:X<18446744073709551616)(w:World)(hC:C64 w rb X):
 Calls Tryz.prog 224 #[.pointer (some ⟨rb,0,none⟩)] w fun e w'=>e=.returned (.int .u64 (xorNextN X:Nat))/\w'=(w.setCell ⟨rb,0,none⟩ (.int .u64 (xorNextN X:Nat))).drewN 3:=by
 obtain⟨p,hp⟩:∃p:Nat,p=X^^^(X*8192%18446744073709551616):=⟨_,rfl⟩
 obtain⟨q,hq⟩:∃q:Nat,q=p^^^(p/128):=⟨_,rfl⟩
 obtain⟨z,hz⟩:∃z:Nat,z=q^^^(q*131072%18446744073709551616):=⟨_,rfl⟩
 have lp:p<18446744073709551616:=by rw[hp];exact Nat.xor_lt_two_pow (n:=64) (by omega) (by omega)
 have lq:q<18446744073709551616:=by rw[hq];exact Nat.xor_lt_two_pow (n:=64) (by omega) (by omega)
 have s1:bits .xor .u64 (X:Int) (IntKind.u64.wrap ((X:Int)*8192))=(p:Int):=by
  rw[IntKind.wrap_u64,show(X:Int)*8192%18446744073709551616=((X*8192%18446744073709551616:Nat):Int)by omega,bits_xor_u64_nat _ _ hX (by omega),hp]
 have s2:bits .xor .u64 (p:Int) ((p:Int)/128)=(q:Int):=by
  rw[show(p:Int)/128=((p/128:Nat):Int)by omega,bits_xor_u64_nat _ _ lp (by omega),hq]
 have s3:bits .xor .u64 (q:Int) (IntKind.u64.wrap ((q:Int)*131072))=(z:Int):=by
  rw[IntKind.wrap_u64,show(q:Int)*131072%18446744073709551616=((q*131072%18446744073709551616:Nat):Int)by omega,bits_xor_u64_nat _ _ lq (by omega),hz]
 have HV:=Hd (show xorNextN X=z by unfold xorNextN;simp only[];rw[<-hp,<-hq,<-hz])
 rw[HV.out]
 clear hp hq hz
 have hc:=hC.cell
 have hf:=hC.frozen
 have hss:∀v v',(w.setCell ⟨rb,0,none⟩ v).setCell ⟨rb,0,none⟩ v'=w.setCell ⟨rb,0,none⟩ v':=set_set w rb 0
 go_enter Tryz.func224,Tryz.ntmps224
 go_wp2
 go_region
 all_goals go_wp2
 all_goals go_region
 all_goals go_wp2
 all_goals go_region
 all_goals go_wp2
 go_ret
 exact⟨rfl,rfl⟩
theorem wrap_pow62(k:Nat)(hk:k<=62):IntKind.u64.wrap ((2:Int)^k)=((1<<<k:Nat):Int):=by
 have h:(2:Nat)^k<=2^62:=Nat.pow_le_pow_right (by decide) hk
 rw[IntKind.wrap_u64,Nat.one_shiftLeft,show((2:Int)^k)=((2^k:Nat):Int)by simp]
 generalize (2:Nat)^k=p at h
 omega
theorem nextPow_any(n:Nat)(hn:n<4611686018427387904)(w:World):
 Calls Tryz.prog 223 #[.int .i64 n] w fun e w'=>e=.returned (.int .u64 ((1<<<bitsLen n:Nat):Int))/\w'=w:=by
 have HL:=Hd (show∀W,Calls Tryz.prog 205 #[.int .u64 (n:Int)] W fun e w'=>e=.returned (.int .i64 (bitsLen n:Nat))/\w'=W from fun W=>by
  have h:=Tryz.bits_Len (n:Int) W (by omega) (by omega)
  rwa [Int.toNat_natCast,bitLen_eq _ (by omega)]at h)
 have hk:bitsLen n<=62:=(bitsLen_le_iff n 62).2 (by omega)
 have hp:=wrap_pow62 (bitsLen n) hk
 go_enter Tryz.func223,Tryz.ntmps223
 go_wp2_with (go_at_call 205;refine(HL.out _).mono ?_;rintro e w' ⟨rfl,rfl⟩)
 go_ret
 exact⟨rfl,rfl⟩
def bpR(a L M:Nat):Nat->Nat->UInt64 × Array Int->Array Int
 |_,0,st=>st.2
 |x,k+1,st=>bpR a L M (x+1) k (breakStep a L M st x)
theorem break_eq(d:Array Int)(a L:Nat)(h8:8<=L):breakPatterns d a (a+L)=bpR a L (1<<<bitsLen L) (a+L/4*2-1) 3 (UInt64.ofNat L,d):=by
 unfold breakPatterns
 simp only[Nat.add_sub_cancel_left]
 rw[if_pos h8]
 rfl
theorem bpR_step(a L M x k:Nat)(r:UInt64)(d:Array Int)(o:Nat)(ho:(if(xorNext r).toNat&&&(M-1)>=L then((xorNext r).toNat&&&(M-1))-L else(xorNext r).toNat&&&(M-1))=o):
 bpR a L M x (k+1) (r,d)=bpR a L M (x+1) k (xorNext r,swp d x (a+o)):=by
 rw[bpR]
 unfold breakStep
 simp only[ho]
theorem break_any(blk off cap N n a L:Nat)(d:Array Int)(w:World)(hS:Srt w blk off N d w)(hn:d.size=n)(hb:a+L<=n)(h8:8<=L)(hsz:n<1152921504606846976):
 Calls Tryz.prog 213 #[.slice (some ⟨blk,off,none⟩) n cap,.int .i64 a,.int .i64 ((a+L:Nat):Int)] w fun e w'=>
  e=.returned (.tuple #[])/\Srt w blk off N (breakPatterns d a (a+L)) w':=by
 obtain⟨M,hM⟩:∃M:Nat,M=1<<<bitsLen L:=⟨_,rfl⟩
 have hM1:1<=M:=by rw[hM,Nat.one_shiftLeft];exact Nat.two_pow_pos _
 have hM2:M<=2*L:=by rw[hM,Nat.one_shiftLeft];exact two_pow_bitsLen_le (by omega)
 have HNP:=Hd (show∀W,Calls Tryz.prog 223 #[.int .i64 (L:Int)] W fun e w'=>e=.returned (.int .u64 (M:Int))/\w'=W from fun W=>by rw[hM];exact nextPow_any L (by omega) W)
 obtain⟨i0,hi0⟩:∃i0:Nat,i0=a+L/4*2-1:=⟨_,rfl⟩
 have HB:=Hd (show breakPatterns d a (a+L)=bpR a L M i0 3 (UInt64.ofNat L,d)by rw[break_eq d a L h8,<-hM,<-hi0])
 have hi1:a<i0:=by omega
 have hi2:i0+2<a+L:=by omega
 have hi3:(i0:Int)=(a:Int)+(L:Int)/4*2-1:=by omega
 have HI3:=Hd hi3
 clear hM hi0 hi3
 have HS0:=Hd (hS.alloc (.cells #[.int .u64 (L:Int)] 266))
 have HC0:=Hd (show C64 (w.alloc (.cells #[.int .u64 (L:Int)] 266)) w.heap.size (UInt64.ofNat L).toNat by
  rw[show(UInt64.ofNat L).toNat=L from by simp;omega]
  unfold C64;exact World.alloc_heap_new w _)
 have HNE:=Hd (show w.heap.size≠blk by have:=hS.lt;omega)
 have HLE:=Hd (Nat.le_refl w.heap.size)
 go_enter Tryz.func213,Tryz.ntmps213
 go_wp2_with (go_at_call 223;rw[show((a:Int)+(L:Int)-(a:Int))=(L:Int)by omega];refine(HNP.out _).mono ?_;rintro e w' ⟨rfl,rfl⟩)
 rw[show(a:Int)+(L:Int)/4*2-1=(i0:Int)from HI3.out.symm]
 refine hWp (fun W=>Srt w blk off N d W/\C64 W w.heap.size (UInt64.ofNat L).toNat) ⟨HS0.out,HC0.out⟩ (fun W0 hW0=>?_)
 have HS1:=Hd hW0.1
 have HC1:=Hd hW0.2
 clear hW0 HS0 HC0 hS
 obtain⟨sb,hsb⟩:∃sb,w.heap.size=sb:=⟨_,rfl⟩
 have HSB:=Hd (show w.heap.size<=sb by omega)
 rw[hsb]at HNE HC1
 rw[hsb]
 clear HLE hsb
 go_loopw[9] (fun v wr=>∃(x:Nat) (r:UInt64) (dk:Array Int),v=.int .i64 x/\i0<=x/\x<=i0+3/\dk.size=n/\Srt w blk off N dk wr/\C64 wr sb r.toNat/\
  Hid (bpR a L M x (i0+3-x) (r,dk)=breakPatterns d a (a+L))) (fun v _=>i0+3-natOf v)
 case atStart=>exact⟨i0,UInt64.ofNat L,d,rfl,Nat.le_refl _,by omega,hn,HS1.out,HC1.out,Hd (by rw[HB.out,show i0+3-i0=3 by omega])⟩
 case round=>
  obtain⟨x,r,dk,rfl,hx0,hx1,hsk,hSk,hCk,HO⟩:=hrel
  by_cases hx:x<=i0+2
  ·have hxi:(x:Int)<=(a:Int)+(L:Int)/4*2+1:=by have:=HI3.out;omega
   obtain⟨R,hR⟩:∃R:Nat,R=r.toNat:=⟨_,rfl⟩
   have lR:R<18446744073709551616:=by rw[hR];exact r.toNat_lt
   obtain⟨Y,hY⟩:∃Y:Nat,Y=xorNextN R:=⟨_,rfl⟩
   have lY:Y<18446744073709551616:=by rw[hY];exact xorNextN_lt R lR
   have hYr:Y=(xorNext r).toNat:=by rw[hY,hR,xorNext_toNat]
   obtain⟨O,hO⟩:∃O:Nat,O=Y&&&(M-1):=⟨_,rfl⟩
   have lO:O<=M-1:=by rw[hO];exact Nat.and_le_right
   have hand:bits .and .u64 (Y:Int) ((M:Int)-1)=(O:Int):=by
    rw[show(M:Int)-1=((M-1:Nat):Int)by omega,bits_and_u64_nat _ _ lY (by omega),hO]
   have HNX:=Hd (show Calls Tryz.prog 224 #[.pointer (some ⟨sb,0,none⟩)] wr fun e w'=>e=.returned (.int .u64 (Y:Int))/\w'=(wr.setCell ⟨sb,0,none⟩ (.int .u64 (Y:Int))).drewN 3 by
    rw[hY];exact xorshift_any sb R lR wr (by rw[hR];exact hCk))
   have HST:=Hd (fun o (ho:(if O>=L then O-L else O)=o)=>bpR_step a L M x (i0+2-x) r dk o (by rw[<-hYr,<-hO];exact ho))
   have HK1:=Hd (show i0+3-x=(i0+2-x)+1 by omega)
   have HK2:=Hd (show i0+3-(x+1)=i0+2-x by omega)
   have hS3:=((hSk.aside HSB.out HNE.out (.int .u64 (Y:Int)) (o:=0)).drewN 3)
   have hC3:C64 ((wr.setCell ⟨sb,0,none⟩ (.int .u64 (Y:Int))).drewN 3) sb (xorNext r).toNat:=by rw[<-hYr];exact(hCk.set Y).drewN 3
   clear hR hY hYr hO hSk hCk
   go_upto_region 8 with(go_at_call 224;refine HNX.out.mono ?_;rintro e w' ⟨rfl,rfl⟩)
   generalize (wr.setCell ⟨sb,0,none⟩ (.int .u64 (Y:Int))).drewN 3=w3 at hS3 hC3 ⊢
   obtain⟨G,hG⟩:∃G:Nat->Int,∀t,G t=dk[t]!:=⟨fun t=>dk[t]!,fun _=>rfl⟩
   have HG:=Hd hG
   clear hG HNX
   have hcw:=hS3.cells HG.out hsk
   have hfw:=hS3.frozens n
   by_cases hol:L<=O
   ·have holi:(L:Int)<=(O:Int):=by omega
    obtain⟨o,ho⟩:∃o:Nat,o=O-L:=⟨_,rfl⟩
    have hon:o<L:=by omega
    have HSTEP:=Hd (show bpR a L M (x+1) (i0+3-(x+1)) (xorNext r,swp dk x (a+o))=breakPatterns d a (a+L)by
     rw[<-HO.out,HK1.out,HK2.out,ho];exact(HST.out _ (if_pos hol)).symm)
    go_upto_region 10 with fail
    rw[show(O:Int)-(L:Int)=(o:Int)by omega]
    clear ho HO HST HK1 HK2
    rcases Nat.lt_or_ge x (a+o)with hxo|hxo
    ·go_wp2_with fail
     go_region
     go_wp2_with fail
     go_roundw
     case rel=>exact⟨x+1,xorNext r,swp dk x (a+o),by go_num,by omega,by omega,by rw[size_swp];exact hsk,(hS3.swpG HG.out (i:=x) (j:=a+o) (by omega) (by omega)).drewN 1,((hC3.other HNE.out).other HNE.out).drewN 1,HSTEP⟩
     case measure=>simp[natOf];omega
    ·rcases Nat.lt_or_ge (a+o) x with hxo2|hxo2
     ·go_wp2_with fail
      go_region
      go_wp2_with fail
      go_roundw
      case rel=>exact⟨x+1,xorNext r,swp dk x (a+o),by go_num,by omega,by omega,by rw[size_swp];exact hsk,(hS3.swpG HG.out (i:=x) (j:=a+o) (by omega) (by omega)).drewN 1,((hC3.other HNE.out).other HNE.out).drewN 1,HSTEP⟩
      case measure=>simp[natOf];omega
     ·have hxe:x=a+o:=by omega
      subst hxe
      go_wp2_with fail
      go_region
      go_wp2_with fail
      go_roundw
      case rel=>exact⟨a+o+1,xorNext r,swp dk (a+o) (a+o),by first|go_num|(congr 1;omega),by omega,by omega,by rw[size_swp];exact hsk,(hS3.swpG HG.out (i:=a+o) (j:=a+o) (by omega) (by omega)).drewN 1,((hC3.other HNE.out).other HNE.out).drewN 1,HSTEP⟩
      case measure=>simp[natOf];omega
   ·have holi:¬(L:Int)<=(O:Int):=by omega
    obtain⟨o,ho⟩:∃o:Nat,o=O:=⟨_,rfl⟩
    have hon:o<L:=by omega
    have HSTEP:=Hd (show bpR a L M (x+1) (i0+3-(x+1)) (xorNext r,swp dk x (a+o))=breakPatterns d a (a+L)by
     rw[<-HO.out,HK1.out,HK2.out,ho];exact(HST.out _ (if_neg hol)).symm)
    go_upto_region 10 with fail
    rw[show(O:Int)=(o:Int)by omega]
    clear ho HO HST HK1 HK2
    rcases Nat.lt_or_ge x (a+o)with hxo|hxo
    ·go_wp2_with fail
     go_region
     go_wp2_with fail
     go_roundw
     case rel=>exact⟨x+1,xorNext r,swp dk x (a+o),by go_num,by omega,by omega,by rw[size_swp];exact hsk,(hS3.swpG HG.out (i:=x) (j:=a+o) (by omega) (by omega)).drewN 1,((hC3.other HNE.out).other HNE.out).drewN 1,HSTEP⟩
     case measure=>simp[natOf];omega
    ·rcases Nat.lt_or_ge (a+o) x with hxo2|hxo2
     ·go_wp2_with fail
      go_region
      go_wp2_with fail
      go_roundw
      case rel=>exact⟨x+1,xorNext r,swp dk x (a+o),by go_num,by omega,by omega,by rw[size_swp];exact hsk,(hS3.swpG HG.out (i:=x) (j:=a+o) (by omega) (by omega)).drewN 1,((hC3.other HNE.out).other HNE.out).drewN 1,HSTEP⟩
      case measure=>simp[natOf];omega
     ·have hxe:x=a+o:=by omega
      subst hxe
      go_wp2_with fail
      go_region
      go_wp2_with fail
      go_roundw
      case rel=>exact⟨a+o+1,xorNext r,swp dk (a+o) (a+o),by first|go_num|(congr 1;omega),by omega,by omega,by rw[size_swp];exact hsk,(hS3.swpG HG.out (i:=a+o) (j:=a+o) (by omega) (by omega)).drewN 1,((hC3.other HNE.out).other HNE.out).drewN 1,HSTEP⟩
      case measure=>simp[natOf];omega
  ·have hxe:x=i0+3:=by omega
   have hxi:¬(x:Int)<=(a:Int)+(L:Int)/4*2+1:=by have:=HI3.out;omega
   have HF:=Hd (show breakPatterns d a (a+L)=dk by rw[<-HO.out,hxe,Nat.sub_self];rfl)
   clear hxe
   go_wp2_with fail
   go_end0
   rw[HF.out]
   exact⟨rfl,hSk⟩
end Go.Proofs.YtjflkifodfncmaaGreatDoor
