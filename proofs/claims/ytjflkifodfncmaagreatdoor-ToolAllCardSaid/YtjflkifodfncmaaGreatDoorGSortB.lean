/- SortD, SortE, SortF: these texts in one. Conditions: each theorem names its own. -/
import Derived.Test.YtjflkifodfncmaaGreatDoorGSortA
import Derived.Sort.LotD4
import Derived.Sort.LotC
namespace Go.Proofs.YtjflkifodfncmaaGreatDoor
set_option maxHeartbeats 4000000
set_option maxRecDepth 100000
open Go Go.RowKit Go.Sort Go.Proofs
def Cnt(w:World)(sb s:Nat):Prop:=w.heap[sb]? =some (.cells #[.int .i64 (s:Int)] 3 (0,0))
theorem Cnt.cell{w:World}{sb s:Nat}(h:Cnt w sb s):w.cell? ⟨sb,0,none⟩=some (.int .i64 (s:Int)):=by unfold Cnt at h;simp[World.cell?,h]
theorem Cnt.frozen{w:World}{sb s:Nat}(h:Cnt w sb s):w.frozen? ⟨sb,0,none⟩=false:=by unfold Cnt at h;simp[World.frozen?,h]
theorem Cnt.drewN{w:World}{sb s:Nat}(h:Cnt w sb s)(n:Nat):Cnt (w.drewN n) sb s:=h
theorem Cnt.set{w:World}{sb s:Nat}(h:Cnt w sb s){x:Int}{t:Nat}(hx:x=t):Cnt (w.setCell ⟨sb,0,none⟩ (.int .i64 x)) sb t:=by
 unfold Cnt at*
 subst hx
 rw[setCell_eq]
 unfold mapBlock
 simp[Array.getElem?_modify,h,onCells]
theorem Cnt.lt{w:World}{sb s:Nat}(h:Cnt w sb s):sb<w.heap.size:=(Array.getElem?_eq_some_iff.1 h).1
theorem Srt.aside{w0 w:World}{blk off N:Nat}{d:Array Int}(h:Srt w0 blk off N d w){sb o:Nat}(hb:w0.heap.size<=sb)(hne:sb≠blk)(v:Value):Srt w0 blk off N d (w.setCell ⟨sb,o,none⟩ v):=by
 refine⟨⟨h.grown.os,h.grown.tape,h.grown.output,Nat.le_trans h.grown.size (KeepsWalks.setCell w _ _).size,fun k hk hkb=>?_⟩,?_⟩
 ·exact(Below.heap_setCell w _ _ k (fun e=>by simp at e;omega)).trans (h.grown.block k hk hkb)
 ·obtain⟨c,h1,h2⟩:=h.row
  exact⟨c,(Below.heap_setCell w _ _ blk (fun e=>by simp at e;exact hne e.symm)).trans h1,h2⟩
theorem Srt.alloc{w0 w:World}{blk off N:Nat}{d:Array Int}(h:Srt w0 blk off N d w)(o:Obj):Srt w0 blk off N d (w.alloc o):=
 ⟨World.grownBy.trans h.grown (World.grownBy_alloc w o (some blk)),by
   obtain⟨c,h1,h2⟩:=h.row
   exact⟨c,(Below.heap_alloc _ _ blk h.lt).trans h1,h2⟩⟩
abbrev PairAt(w0:World)(blk off N:Nat)(d:Array Int)(sb s:Nat)(w:World):Prop:=Srt w0 blk off N d w/\Cnt w sb s
theorem order2_any(w0:World)(blk off cap N n a b sb s:Nat)(d:Array Int)(w:World)(hS:Srt w0 blk off N d w)(hC:Cnt w sb s)(hsb:w0.heap.size<=sb)(hne:sb≠blk)(hn:d.size=n)(ha:a<n)(hb:b<n)
 (hs:s<1000000):
 Calls Tryz.prog 227 #[.slice (some ⟨blk,off,none⟩) n cap,.int .i64 a,.int .i64 b,.pointer (some ⟨sb,0,none⟩)] w fun e w'=>
  e=.returned (.tuple #[.int .i64 (order2 ltInt d a b s).1,.int .i64 (order2 ltInt d a b s).2.1])/\Srt w0 blk off N d w'/\Cnt w' sb (order2 ltInt d a b s).2.2:=by
 obtain⟨G,hG⟩:∃G:Nat->Int,∀t,G t=d[t]!:=⟨fun t=>d[t]!,fun _=>rfl⟩
 have HG:=Hd hG
 clear hG
 have hcw:=hS.cells HG.out hn
 have hfw:=hS.frozens n
 have hcc:=hC.cell
 have hcf:=hC.frozen
 go_enter Tryz.func227,Tryz.ntmps227
 go_wp2_with fail
 go_big_quiet (first|(go_at_call 217;refine Calls.quiet_of_same (lessU_any _ _ _)))
 go_wp2_with fail
 ·have hl:ltInt (G b) (G a)=true:=by assumption
  have HO:=Hd (show order2 ltInt d a b s=(b,a,s+1)by unfold order2;rw[<-HG.out,<-HG.out,hl];rfl)
  go_ret2
  rw[HO.out]
  exact⟨rfl,(hS.drewN _).aside hsb hne _,(hC.drewN _).set (t:=s+1) (by omega)⟩
 ·have hl:ltInt (G b) (G a)=false:=by assumption
  have HO:=Hd (show order2 ltInt d a b s=(a,b,s)by unfold order2;rw[<-HG.out,<-HG.out,hl];rfl)
  go_ret2
  rw[HO.out]
  exact⟨rfl,hS.drewN _,hC.drewN _⟩
theorem median_any(w0:World)(blk off cap N n a b c sb s:Nat)(d:Array Int)(w:World)(hS:Srt w0 blk off N d w)(hC:Cnt w sb s)(hsb:w0.heap.size<=sb)(hne:sb≠blk)(hn:d.size=n)(ha:a<n)(hb:b<n)(hc:c<n)
 (hs:s<100000):
 Calls Tryz.prog 226 #[.slice (some ⟨blk,off,none⟩) n cap,.int .i64 a,.int .i64 b,.int .i64 c,.pointer (some ⟨sb,0,none⟩)] w fun e w'=>
  e=.returned (.int .i64 (median ltInt d a b c s).1)/\Srt w0 blk off N d w'/\Cnt w' sb (median ltInt d a b c s).2:=by
 obtain⟨x1,y1,s1,e1⟩:∃x y t,order2 ltInt d a b s=(x,y,t):=⟨_,_,_,rfl⟩
 obtain⟨x2,y2,s2,e2⟩:∃x y t,order2 ltInt d y1 c s1=(x,y,t):=⟨_,_,_,rfl⟩
 obtain⟨x3,y3,s3,e3⟩:∃x y t,order2 ltInt d x1 x2 s2=(x,y,t):=⟨_,_,_,rfl⟩
 have HM:=Hd (show median ltInt d a b c s=(y3,s3)by unfold median;simp only[e1,e2,e3])
 have m1:=order2_mem ltInt d a b s
 have m2:=order2_mem ltInt d y1 c s1
 have c1:=order2_count ltInt d a b s
 have c2:=order2_count ltInt d y1 c s1
 rw[e1]at m1 c1
 rw[e2]at m2 c2
 simp only at m1 c1 m2 c2
 have H1:=Hd (show∀W,Srt w0 blk off N d W->Cnt W sb s->Calls Tryz.prog 227 #[.slice (some ⟨blk,off,none⟩) n cap,.int .i64 a,.int .i64 b,.pointer (some ⟨sb,0,none⟩)] W fun e w'=>
  e=.returned (.tuple #[.int .i64 x1,.int .i64 y1])/\Srt w0 blk off N d w'/\Cnt w' sb s1 from fun W h1 h2=>by
  have:=order2_any w0 blk off cap N n a b sb s d W h1 h2 hsb hne hn ha hb (by omega)
  rwa [e1]at this)
 have H2:=Hd (show∀W,Srt w0 blk off N d W->Cnt W sb s1->Calls Tryz.prog 227 #[.slice (some ⟨blk,off,none⟩) n cap,.int .i64 y1,.int .i64 c,.pointer (some ⟨sb,0,none⟩)] W fun e w'=>
  e=.returned (.tuple #[.int .i64 x2,.int .i64 y2])/\Srt w0 blk off N d w'/\Cnt w' sb s2 from fun W h1 h2=>by
  have:=order2_any w0 blk off cap N n y1 c sb s1 d W h1 h2 hsb hne hn (by omega) hc (by omega)
  rwa [e2]at this)
 have H3:=Hd (show∀W,Srt w0 blk off N d W->Cnt W sb s2->Calls Tryz.prog 227 #[.slice (some ⟨blk,off,none⟩) n cap,.int .i64 x1,.int .i64 x2,.pointer (some ⟨sb,0,none⟩)] W fun e w'=>
  e=.returned (.tuple #[.int .i64 x3,.int .i64 y3])/\Srt w0 blk off N d w'/\Cnt w' sb s3 from fun W h1 h2=>by
  have:=order2_any w0 blk off cap N n x1 x2 sb s2 d W h1 h2 hsb hne hn (by omega) (by omega) (by omega)
  rwa [e3]at this)
 have HS:=Hd hS
 have HC:=Hd hC
 clear e1 e2 e3 m1 m2 c1 c2 hS hC hs hc ha hb
 go_enter Tryz.func226,Tryz.ntmps226
 go_upto_region 2 with(go_at_call 227;refine(H1.out _ HS.out HC.out).mono ?_;rintro e w1 ⟨rfl,hS1,hC1⟩;have HS1:=Hd hS1;have HC1:=Hd hC1;clear hS1 hC1)
 go_upto_region 3 with(go_at_call 227;refine(H2.out _ HS1.out HC1.out).mono ?_;rintro e w2 ⟨rfl,hS2,hC2⟩;have HS2:=Hd hS2;have HC2:=Hd hC2;clear hS2 hC2)
 go_wp2_with (go_at_call 227;refine(H3.out _ HS2.out HC2.out).mono ?_;rintro e w3 ⟨rfl,hS3,hC3⟩)
 go_ret
 rw[HM.out]
 exact⟨rfl,hS3,hC3⟩
theorem medianAdj_any(w0:World)(blk off cap N n a sb s:Nat)(d:Array Int)(w:World)(hS:Srt w0 blk off N d w)(hC:Cnt w sb s)(hsb:w0.heap.size<=sb)(hne:sb≠blk)(hn:d.size=n)(ha:1<=a)(hb:a+1<n)
 (hs:s<100000) (hsz:n<1152921504606846976):
 Calls Tryz.prog 225 #[.slice (some ⟨blk,off,none⟩) n cap,.int .i64 a,.pointer (some ⟨sb,0,none⟩)] w fun e w'=>
  e=.returned (.int .i64 (medianAdjacent ltInt d a s).1)/\Srt w0 blk off N d w'/\Cnt w' sb (medianAdjacent ltInt d a s).2:=by
 have HM:=Hd (median_any w0 blk off cap N n (a-1) a (a+1) sb s d w hS hC hsb hne hn (by omega) (by omega) hb hs)
 rw[show(((a-1:Nat):Int))=(a:Int)-1 by omega,show(((a+1:Nat):Int))=(a:Int)+1 by omega]at HM
 clear hS hC
 go_enter Tryz.func225,Tryz.ntmps225
 go_wp2_with (go_at_call 226;refine HM.out.mono ?_;rintro e w3 ⟨rfl,hS3,hC3⟩)
 go_ret
 exact⟨rfl,hS3,hC3⟩
theorem choose_any(blk off cap N n a b:Nat)(d:Array Int)(w:World)(hS:Srt w blk off N d w)(hn:d.size=n)(hab:a+12<b)(hb:b<=n)(hsz:n<1152921504606846976):
 Calls Tryz.prog 214 #[.slice (some ⟨blk,off,none⟩) n cap,.int .i64 a,.int .i64 b] w fun e w'=>
  e=.returned (.tuple #[.int .i64 (choosePivot ltInt d a b).1,.int .i64 (hintCode (choosePivot ltInt d a b).2)])/\Srt w blk off N d w':=by
 obtain⟨l,hl⟩:∃l:Nat,b-a=l:=⟨_,rfl⟩
 have hl8:8<=l:=by omega
 have hal:a+l<=n:=by omega
 have HSZ:=Hd (Nat.le_refl w.heap.size)
 have HNE:=Hd (show w.heap.size≠blk by have:=hS.lt;omega)
 have HS:=Hd (hS.alloc (.cells #[.int .i64 0] 3))
 have HC:=Hd (show Cnt (w.alloc (.cells #[.int .i64 0] 3)) w.heap.size 0 by unfold Cnt;exact World.alloc_heap_new w _)
 go_enter Tryz.func214,Tryz.ntmps214
 go_upto_region 6 with fail
 obtain⟨i,hi⟩:∃i:Nat,i=a+l/4*1:=⟨_,rfl⟩
 obtain⟨j,hj⟩:∃j:Nat,j=a+l/4*2:=⟨_,rfl⟩
 obtain⟨k,hk⟩:∃k:Nat,k=a+l/4*3:=⟨_,rfl⟩
 rw[show(b:Int)-(a:Int)=(l:Int)by omega,show(a:Int)+(l:Int)/4=(i:Int)by omega,show(a:Int)+(l:Int)/4*2=(j:Int)by omega,show(a:Int)+(l:Int)/4*3=(k:Int)by omega]
 have hi1:1<=i/\i+1<n:=by omega
 have hj1:1<=j/\j+1<n:=by omega
 have hk1:1<=k/\k+1<n:=by omega
 obtain⟨p9,s9,e9⟩:∃p s,rawPivot ltInt d a b=(p,s):=⟨_,_,rfl⟩
 have HR:=Hd (show choosePivot ltInt d a b=(p9,hintOf s9)by rw[choosePivot_eq,e9])
 have hway:(s9=0/\Hid (choosePivot ltInt d a b=(p9,.increasing)))\/(s9≠0/\s9=12/\Hid (choosePivot ltInt d a b=(p9,.decreasing)))\/(s9≠0/\s9≠12/\Hid (choosePivot ltInt d a b=(p9,.unknown))):=by
  by_cases h0:s9=0
  ·exact .inl ⟨h0,Hd (by rw[HR.out];unfold hintOf;rw[if_pos h0])⟩
  ·by_cases h12:s9=12
   ·exact .inr (.inl ⟨h0,h12,Hd (by rw[HR.out];unfold hintOf;rw[if_neg h0,if_pos h12])⟩)
   ·exact .inr (.inr ⟨h0,h12,Hd (by rw[HR.out];unfold hintOf;rw[if_neg h0,if_neg h12])⟩)
 clear HR
 unfold rawPivot at e9
 rw[hl,if_pos hl8,<-hi,<-hj,<-hk]at e9
 clear hi hj hk
 refine hWp (fun W=>Srt w blk off N d W/\Cnt W w.heap.size 0) ⟨HS.out,HC.out⟩ (fun W0 hW0=>?_)
 have HS0:=Hd hW0.1
 have HC0:=Hd hW0.2
 clear hW0 HS HC
 have hlb:8<=(l:Int):=by omega
 obtain⟨sb,hsb⟩:∃sb,w.heap.size=sb:=⟨_,rfl⟩
 have HSB:=Hd (show w.heap.size<=sb by omega)
 rw[hsb]at HNE HC0
 rw[hsb]
 clear HSZ hsb hS
 by_cases h50:50<=l
 ·rw[if_pos h50]at e9
  obtain⟨p1,s1,e1⟩:∃p s,medianAdjacent ltInt d i 0=(p,s):=⟨_,_,rfl⟩
  obtain⟨p2,s2,e2⟩:∃p s,medianAdjacent ltInt d j s1=(p,s):=⟨_,_,rfl⟩
  obtain⟨p3,s3,e3⟩:∃p s,medianAdjacent ltInt d k s2=(p,s):=⟨_,_,rfl⟩
  simp only[e1,e2,e3]at e9
  have n1:=medianAdjacent_mem ltInt d i 0
  have n2:=medianAdjacent_mem ltInt d j s1
  have n3:=medianAdjacent_mem ltInt d k s2
  have c1:=medianAdjacent_count ltInt d i 0
  have c2:=medianAdjacent_count ltInt d j s1
  have c3:=medianAdjacent_count ltInt d k s2
  rw[e1]at n1 c1
  rw[e2]at n2 c2
  rw[e3]at n3 c3
  simp only at n1 n2 n3 c1 c2 c3
  have H1:=Hd (show∀W,Srt w blk off N d W->Cnt W sb 0->Calls Tryz.prog 225 #[.slice (some ⟨blk,off,none⟩) n cap,.int .i64 i,.pointer (some ⟨sb,0,none⟩)] W fun e w'=>
   e=.returned (.int .i64 p1)/\Srt w blk off N d w'/\Cnt w' sb s1 from fun W h1 h2=>by
   have:=medianAdj_any w blk off cap N n i sb 0 d W h1 h2 HSB.out HNE.out hn hi1.1 hi1.2 (by omega) hsz
   rwa [e1]at this)
  have H2:=Hd (show∀W,Srt w blk off N d W->Cnt W sb s1->Calls Tryz.prog 225 #[.slice (some ⟨blk,off,none⟩) n cap,.int .i64 j,.pointer (some ⟨sb,0,none⟩)] W fun e w'=>
   e=.returned (.int .i64 p2)/\Srt w blk off N d w'/\Cnt w' sb s2 from fun W h1 h2=>by
   have:=medianAdj_any w blk off cap N n j sb s1 d W h1 h2 HSB.out HNE.out hn hj1.1 hj1.2 (by omega) hsz
   rwa [e2]at this)
  have H3:=Hd (show∀W,Srt w blk off N d W->Cnt W sb s2->Calls Tryz.prog 225 #[.slice (some ⟨blk,off,none⟩) n cap,.int .i64 k,.pointer (some ⟨sb,0,none⟩)] W fun e w'=>
   e=.returned (.int .i64 p3)/\Srt w blk off N d w'/\Cnt w' sb s3 from fun W h1 h2=>by
   have:=medianAdj_any w blk off cap N n k sb s2 d W h1 h2 HSB.out HNE.out hn hk1.1 hk1.2 (by omega) hsz
   rwa [e3]at this)
  have H4:=Hd (show∀W,Srt w blk off N d W->Cnt W sb s3->Calls Tryz.prog 226 #[.slice (some ⟨blk,off,none⟩) n cap,.int .i64 p1,.int .i64 p2,.int .i64 p3,.pointer (some ⟨sb,0,none⟩)] W fun e w'=>
   e=.returned (.int .i64 p9)/\Srt w blk off N d w'/\Cnt w' sb s9 from fun W h1 h2=>by
   have:=median_any w blk off cap N n p1 p2 p3 sb s3 d W h1 h2 HSB.out HNE.out hn (by omega) (by omega) (by omega) (by omega)
   rwa [e9]at this)
  clear e1 e2 e3 e9 n1 n2 n3 c1 c2 c3
  have h50i:50<=(l:Int):=by omega
  go_upto_region 9 with(go_at_call 225;refine(H1.out _ HS0.out HC0.out).mono ?_;rintro e w1 ⟨rfl,hS1,hC1⟩;have HS1:=Hd hS1;have HC1:=Hd hC1;clear hS1 hC1)
  go_upto_region 10 with(go_at_call 225;refine(H2.out _ HS1.out HC1.out).mono ?_;rintro e w2 ⟨rfl,hS2,hC2⟩;have HS2:=Hd hS2;have HC2:=Hd hC2;clear hS2 hC2)
  go_upto_region 11 with(go_at_call 225;refine(H3.out _ HS2.out HC2.out).mono ?_;rintro e w3 ⟨rfl,hS3,hC3⟩;have HS3:=Hd hS3;have HC3:=Hd hC3;clear hS3 hC3)
  go_upto_region 12 with(go_at_call 226;refine(H4.out _ HS3.out HC3.out).mono ?_;rintro e w9 ⟨rfl,hS9,hC9⟩;have HS9:=Hd hS9;have HC9:=Hd hC9;clear hS9 hC9)
  have hcc:=HC9.out.cell
  rcases hway with⟨hz,HH⟩|⟨hz,hz2,HH⟩|⟨hz,hz2,HH⟩
  ·subst hz
   go_wp2_with fail
   go_ret2
   exact⟨by rw[HH.out];rfl,HS9.out⟩
  ·subst hz2
   go_wp2_with fail
   go_ret2
   exact⟨by rw[HH.out];rfl,HS9.out⟩
  ·have q1:((s9:Int)==0)=false:=by simp;omega
   have q2:((s9:Int)==12)=false:=by simp;omega
   go_wp2_with fail
   go_ret2
   exact⟨by rw[HH.out];rfl,HS9.out⟩
 ·rw[if_neg h50]at e9
  have h50i:¬50<=(l:Int):=by omega
  have H4:=Hd (show∀W,Srt w blk off N d W->Cnt W sb 0->Calls Tryz.prog 226 #[.slice (some ⟨blk,off,none⟩) n cap,.int .i64 i,.int .i64 j,.int .i64 k,.pointer (some ⟨sb,0,none⟩)] W fun e w'=>
   e=.returned (.int .i64 p9)/\Srt w blk off N d w'/\Cnt w' sb s9 from fun W h1 h2=>by
   have:=median_any w blk off cap N n i j k sb 0 d W h1 h2 HSB.out HNE.out hn (by omega) (by omega) (by omega) (by omega)
   rwa [e9]at this)
  clear e9
  go_upto_region 12 with(go_at_call 226;refine(H4.out _ HS0.out HC0.out).mono ?_;rintro e w9 ⟨rfl,hS9,hC9⟩;have HS9:=Hd hS9;have HC9:=Hd hC9;clear hS9 hC9)
  have hcc:=HC9.out.cell
  rcases hway with⟨hz,HH⟩|⟨hz,hz2,HH⟩|⟨hz,hz2,HH⟩
  ·subst hz
   go_wp2_with fail
   go_ret2
   exact⟨by rw[HH.out];rfl,HS9.out⟩
  ·subst hz2
   go_wp2_with fail
   go_ret2
   exact⟨by rw[HH.out];rfl,HS9.out⟩
  ·have q1:((s9:Int)==0)=false:=by simp;omega
   have q2:((s9:Int)==12)=false:=by simp;omega
   go_wp2_with fail
   go_ret2
   exact⟨by rw[HH.out];rfl,HS9.out⟩
theorem up_go(p:Int->Bool)(d:Array Int)(j i:Nat)(h1:i<=j)(h2:p d[i]! =true):scanUp p d j i=scanUp p d j (i+1):=by
 rw[scanUp];simp[h1,h2]
theorem up_stop(p:Int->Bool)(d:Array Int)(j i:Nat)(h:¬i<=j\/p d[i]! =false):scanUp p d j i=i:=by
 rw[scanUp]
 rcases h with h|h
 ·simp[h]
 ·simp[h]
theorem down_go(p:Int->Bool)(d:Array Int)(i j:Nat)(h0:0<j)(h1:i<=j)(h2:p d[j]! =true):scanDown p d i j=scanDown p d i (j-1):=by
 obtain⟨k,rfl⟩:∃k,j=k+1:=⟨j-1,by omega⟩
 rw[scanDown];simp[h1,h2]
theorem down_stop(p:Int->Bool)(d:Array Int)(i j:Nat)(h:¬i<=j\/p d[j]! =false):scanDown p d i j=j:=by
 cases j with
 |zero=>rfl
 |succ k=>
  rw[scanDown]
  rcases h with h|h
  ·simp[h]
  ·simp[h]
theorem partEq_any(blk off cap N n a b pivot:Nat)(d:Array Int)(w:World)(hS:Srt w blk off N d w)(hn:d.size=n)(hp:a<pivot)(hpb:pivot<b)(hb:b<=n)(hsz:n<1152921504606846976):
 Calls Tryz.prog 218 #[.slice (some ⟨blk,off,none⟩) n cap,.int .i64 a,.int .i64 b,.int .i64 pivot] w fun e w'=>
  e=.returned (.int .i64 (partitionEqual ltInt d a b pivot).1)/\Srt w blk off N (partitionEqual ltInt d a b pivot).2 w':=by
 obtain⟨G,hG⟩:∃G:Nat->Int,∀t,G t=d[t]!:=⟨fun t=>d[t]!,fun _=>rfl⟩
 have HG:=Hd hG
 clear hG
 have hcw:=hS.cells HG.out hn
 have hfw:=hS.frozens n
 go_enter Tryz.func218,Tryz.ntmps218
 go_wp2_with fail
 go_region
 refine hideW (Φ:=fun W=>Exit.then _ _ _ _ W) (fun W=>Srt w blk off N (swp d a pivot) W) ((hS.swpG HG.out (i:=a) (j:=pivot) (by omega) (by omega)).drewN 1) (fun w1 hS1=>?_)
 have hn1:(swp d a pivot).size=n:=by rw[size_swp];exact hn
 clear hcw hfw hS
 clear HG
 go_wp2_with fail
 go_loopw[9,10] (fun vi vj wr=>∃(i j:Nat) (dk:Array Int),vi=.int .i64 i/\vj=.int .i64 j/\a<i/\i<=j+1/\j<b/\dk.size=n/\Srt w blk off N dk wr/\
  Hid (partEqLoop ltInt a i j dk=partitionEqual ltInt d a b pivot)) (fun vi vj _=>natOf vj+1-natOf vi)
 case atStart=>exact⟨a+1,b-1,_,by go_num,by congr 1;omega,by omega,by omega,by omega,hn1,hS1,Hd rfl⟩
 case round=>
  obtain⟨i,j,dk,rfl,rfl,hi,hij,hj,hsk,hSk,HO⟩:=hrel
  obtain⟨P,hP⟩:∃P:Int->Bool,P=fun x=>!ltInt dk[a]! x:=⟨_,rfl⟩
  obtain⟨Q,hQ⟩:∃Q:Int->Bool,Q=fun x=>ltInt dk[a]! x:=⟨_,rfl⟩
  obtain⟨i2,hi2⟩:∃i2,scanUp P dk j i=i2:=⟨_,rfl⟩
  obtain⟨j2,hj2⟩:∃j2,scanDown Q dk i2 j=j2:=⟨_,rfl⟩
  have u:=scanUp_spec P dk j _ i rfl
  have v:=scanDown_spec Q dk i2 j
  rw[hi2]at u
  rw[hj2]at v
  have u1:=u.1
  have u2:=u.2.1 hij
  have v1:=v.1
  have v2:=v.2.1 (by omega)
  have HU4:=Hd u.2.2.2
  have HV4:=Hd v.2.2.2
  have HI2:=Hd hi2
  have HJ2:=Hd hj2
  have HEQ:=Hd (show partEqLoop ltInt a i j dk=if i2>j2 then(i2,dk)else partEqLoop ltInt a (i2+1) (j2-1) (swp dk i2 j2)by
   rw[partEqLoop_eq,<-hP,<-hQ,hi2,hj2])
  have HP:=Hd hP
  have HQ:=Hd hQ
  clear u v hi2 hj2 hP hQ
  obtain⟨G,hG⟩:∃G:Nat->Int,∀t,G t=dk[t]!:=⟨fun t=>dk[t]!,fun _=>rfl⟩
  have HG:=Hd hG
  clear hG
  have HPG:=Hd (show∀t,P dk[t]! =!ltInt (G a) (G t)from fun t=>by rw[HP.out,HG.out,HG.out])
  have HQG:=Hd (show∀t,Q dk[t]! =ltInt (G a) (G t)from fun t=>by rw[HQ.out,HG.out,HG.out])
  go_upto_block 2 with fail
  go_cut[9] (fun vi wc=>vi=.int .i64 i2/\Srt w blk off N dk wc)
  case first=>
   go_wp2_with fail
   go_loopw[9] (fun v wq=>∃k:Nat,v=.int .i64 k/\i<=k/\k<=j+1/\Srt w blk off N dk wq/\Hid (scanUp P dk j k=i2)) (fun v _=>j+1-natOf v)
   case atStart=>exact⟨i,rfl,Nat.le_refl _,by omega,hSk,HI2⟩
   case round=>
    obtain⟨k,rfl,hk0,hk1,hS0,HU⟩:=hrel
    have hcw:=hS0.cells HG.out hsk
    have hfw:=hS0.frozens n
    by_cases hkj:k<=j
    ·have hd:decide ((k:Int)<=(j:Int))=true:=dT (by omega)
     have hdn:decide (k<=j)=true:=dT hkj
     cases hA:ltInt (G a) (G k)
     ·go_wp2_with fail
      go_big_quiet (first|(go_at_call 217;refine Calls.quiet_of_same (lessU_any _ _ _)))
      go_wp2_with fail
      go_roundw
      case rel=>exact⟨k+1,by go_num,by omega,by omega,hS0.drewN _,Hd (by rw[<-HU.out,up_go P dk j k hkj (by rw[HPG.out,hA];rfl)])⟩
      case measure=>simp[natOf];omega
     ·go_wp2_with fail
      go_big_quiet (first|(go_at_call 217;refine Calls.quiet_of_same (lessU_any _ _ _)))
      go_wp2_with fail
      have HK2:=Hd (show k=i2 by rw[<-HU.out,up_stop P dk j k (.inr (by rw[HPG.out,hA];rfl))])
      go_meet
      case rel=>exact⟨by rw[HK2.out],hS0.drewN _⟩
    ·have hd:decide ((k:Int)<=(j:Int))=false:=dF (by omega)
     have hdn:decide (k<=j)=false:=dF hkj
     have HK2:=Hd (show k=i2 by rw[<-HU.out,up_stop P dk j k (.inl hkj)])
     go_wp2_with fail
     go_big_quiet (first|(go_at_call 217;refine Calls.quiet_of_same (lessU_any _ _ _)))
     go_wp2_with fail
     go_meet
     case rel=>exact⟨by rw[HK2.out],hS0.drewN _⟩
  case rest=>
   obtain⟨rfl,hS0⟩:=hcut
   clear hSk
   go_upto_block 4 with fail
   go_cut[10] (fun vj wc=>vj=.int .i64 j2/\Srt w blk off N dk wc)
   case first=>
    go_wp2_with fail
    go_loopw[10] (fun v wq=>∃k:Nat,v=.int .i64 k/\k<=j/\i2<=k+1/\Srt w blk off N dk wq/\Hid (scanDown Q dk i2 k=j2)) (fun v _=>natOf v)
    case atStart=>exact⟨j,rfl,Nat.le_refl _,by omega,hS0,HJ2⟩
    case round=>
     obtain⟨k,rfl,hk0,hk1,hS0,HU⟩:=hrel
     have hcw:=hS0.cells HG.out hsk
     have hfw:=hS0.frozens n
     by_cases hkj:i2<=k
     ·have hd:decide ((i2:Int)<=(k:Int))=true:=dT (by omega)
      have hdn:decide (i2<=k)=true:=dT hkj
      cases hA:ltInt (G a) (G k)
      ·go_wp2_with fail
       go_big_quiet (first|(go_at_call 217;refine Calls.quiet_of_same (lessU_any _ _ _)))
       go_wp2_with fail
       have HK2:=Hd (show k=j2 by rw[<-HU.out,down_stop Q dk i2 k (.inr (by rw[HQG.out,hA]))])
       go_meet
       case rel=>exact⟨by rw[HK2.out],hS0.drewN _⟩
      ·go_wp2_with fail
       go_big_quiet (first|(go_at_call 217;refine Calls.quiet_of_same (lessU_any _ _ _)))
       go_wp2_with fail
       go_roundw
       case rel=>exact⟨k-1,by congr 1;omega,by omega,by omega,hS0.drewN _,Hd (by rw[<-HU.out,down_go Q dk i2 k (by omega) hkj (by rw[HQG.out,hA])])⟩
       case measure=>simp[natOf];omega
     ·have hd:decide ((i2:Int)<=(k:Int))=false:=dF (by omega)
      have hdn:decide (i2<=k)=false:=dF hkj
      have HK2:=Hd (show k=j2 by rw[<-HU.out,down_stop Q dk i2 k (.inl hkj)])
      go_wp2_with fail
      go_big_quiet (first|(go_at_call 217;refine Calls.quiet_of_same (lessU_any _ _ _)))
      go_wp2_with fail
      go_meet
      case rel=>exact⟨by rw[HK2.out],hS0.drewN _⟩
   case rest=>
    obtain⟨rfl,hS2⟩:=hcut
    clear hS0
    have hcw:=hS2.cells HG.out hsk
    have hfw:=hS2.frozens n
    by_cases hgt:i2>j2
    ·have hd:decide ((j2:Int)<(i2:Int))=true:=dT (by omega)
     have hdn:decide (j2<i2)=true:=dT hgt
     have HF:=Hd (show partitionEqual ltInt d a b pivot=(i2,dk)by rw[<-HO.out,HEQ.out,if_pos hgt])
     go_wp2_with fail
     go_ret
     rw[HF.out]
     exact⟨rfl,hS2⟩
    ·have hd:decide ((j2:Int)<(i2:Int))=false:=dF (by omega)
     have hdn:decide (j2<i2)=false:=dF hgt
     have hne:i2<j2:=by
      rcases Nat.lt_or_ge i2 j2 with h|h
      ·exact h
      ·exfalso
       have e:i2=j2:=by omega
       have h1:=HU4.out (by omega)
       have h2:=HV4.out (by omega) (by omega)
       rw[HPG.out]at h1
       rw[HQG.out,<-e]at h2
       rw[h2]at h1
       exact Bool.noConfusion h1
     have HF:=Hd (show partEqLoop ltInt a (i2+1) (j2-1) (swp dk i2 j2)=partitionEqual ltInt d a b pivot by rw[<-HO.out,HEQ.out,if_neg hgt])
     go_wp2_with fail
     go_region
     go_wp2_with fail
     go_roundw
     case rel=>
      exact⟨i2+1,j2-1,swp dk i2 j2,by go_num,by congr 1;omega,by omega,by omega,by omega,by rw[size_swp];exact hsk,(hS2.swpG HG.out (i:=i2) (j:=j2) (by omega) (by omega)).drewN 1,HF⟩
     case measure=>simp[natOf];omega
theorem part_any(blk off cap N n a b pivot:Nat)(d:Array Int)(w:World)(hS:Srt w blk off N d w)(hn:d.size=n)(hp:a<pivot)(hpb:pivot<b)(hb:b<=n)(hsz:n<1152921504606846976):
 Calls Tryz.prog 219 #[.slice (some ⟨blk,off,none⟩) n cap,.int .i64 a,.int .i64 b,.int .i64 pivot] w fun e w'=>
  e=.returned (.tuple #[.int .i64 (partition ltInt d a b pivot).1,.bool (partition ltInt d a b pivot).2.1])/\Srt w blk off N (partition ltInt d a b pivot).2.2 w':=by
 obtain⟨G0,hG⟩:∃G:Nat->Int,∀t,G t=d[t]!:=⟨fun t=>d[t]!,fun _=>rfl⟩
 have HG:=Hd hG
 clear hG
 have hcw:=hS.cells HG.out hn
 have hfw:=hS.frozens n
 obtain⟨dk,hdk⟩:∃dk,dk=swp d a pivot:=⟨_,rfl⟩
 obtain⟨i,hi⟩:∃i:Nat,i=a+1:=⟨_,rfl⟩
 obtain⟨j,hj⟩:∃j:Nat,j=b-1:=⟨_,rfl⟩
 have hsk:dk.size=n:=by rw[hdk,size_swp];exact hn
 have hij:i<=j+1:=by omega
 go_enter Tryz.func219,Tryz.ntmps219
 go_wp2_with fail
 go_region
 refine hideW (Φ:=fun W=>Exit.then _ _ _ _ W) (fun W=>Srt w blk off N dk W) (by rw[hdk];exact(hS.swpG HG.out (i:=a) (j:=pivot) (by omega) (by omega)).drewN 1) (fun w1 hSk=>?_)
 clear hcw hfw hS HG
 go_upto_block 0 with fail
 rw[show(a:Int)+1=(i:Int)by omega,show(b:Int)-1=(j:Int)by omega]
 obtain⟨P,hP⟩:∃P:Int->Bool,P=fun x=>ltInt x dk[a]!:=⟨_,rfl⟩
 obtain⟨Q,hQ⟩:∃Q:Int->Bool,Q=fun x=>!ltInt x dk[a]!:=⟨_,rfl⟩
 obtain⟨i2,hi2⟩:∃i2,scanUp P dk j i=i2:=⟨_,rfl⟩
 obtain⟨j2,hj2⟩:∃j2,scanDown Q dk i2 j=j2:=⟨_,rfl⟩
 have u:=scanUp_spec P dk j _ i rfl
 have v:=scanDown_spec Q dk i2 j
 rw[hi2]at u
 rw[hj2]at v
 have u1:=u.1
 have u2:=u.2.1 hij
 have v1:=v.1
 have v2:=v.2.1 (by omega)
 have HU4:=Hd u.2.2.2
 have HV4:=Hd v.2.2.2
 have HI2:=Hd hi2
 have HJ2:=Hd hj2
 have HEQ:=Hd (show partition ltInt d a b pivot=if i2>j2 then(j2,true,swp dk j2 a)else((partLoop ltInt a (i2+1) (j2-1) (swp dk i2 j2)).1,false,swp (partLoop ltInt a (i2+1) (j2-1) (swp dk i2 j2)).2 (partLoop ltInt a (i2+1) (j2-1) (swp dk i2 j2)).1 a)by
  unfold partition
  simp only[]
  rw[<-hdk,<-hi,<-hj,<-hP,<-hQ,hi2,hj2])
 have HP:=Hd hP
 have HQ:=Hd hQ
 clear u v hi2 hj2 hP hQ
 obtain⟨G,hG⟩:∃G:Nat->Int,∀t,G t=dk[t]!:=⟨fun t=>dk[t]!,fun _=>rfl⟩
 have HG:=Hd hG
 clear hG
 have HPG:=Hd (show∀t,P dk[t]! =ltInt (G t) (G a)from fun t=>by rw[HP.out,HG.out,HG.out])
 have HQG:=Hd (show∀t,Q dk[t]! =!ltInt (G t) (G a)from fun t=>by rw[HQ.out,HG.out,HG.out])
 have hai:a<i:=by omega
 have hjb:j<b:=by omega
 clear hdk hi hj
 go_upto_block 0 with fail
 go_cut[10] (fun vi wc=>vi=.int .i64 i2/\Srt w blk off N dk wc)
 case first=>
  go_wp2_with fail
  go_loopw[10] (fun v wq=>∃k:Nat,v=.int .i64 k/\i<=k/\k<=j+1/\Srt w blk off N dk wq/\Hid (scanUp P dk j k=i2)) (fun v _=>j+1-natOf v)
  case atStart=>exact⟨i,rfl,Nat.le_refl _,by omega,hSk,HI2⟩
  case round=>
   obtain⟨k,rfl,hk0,hk1,hS0,HU⟩:=hrel
   have hcw:=hS0.cells HG.out hsk
   have hfw:=hS0.frozens n
   by_cases hkj:k<=j
   ·have hd:decide ((k:Int)<=(j:Int))=true:=dT (by omega)
    have hdn:decide (k<=j)=true:=dT hkj
    cases hA:ltInt (G k) (G a)
    ·go_wp2_with fail
     go_big_quiet (first|(go_at_call 217;refine Calls.quiet_of_same (lessU_any _ _ _)))
     go_wp2_with fail
     have HK2:=Hd (show k=i2 by rw[<-HU.out,up_stop P dk j k (.inr (by rw[HPG.out,hA]))])
     go_meet
     case rel=>exact⟨by rw[HK2.out],hS0.drewN _⟩
    ·go_wp2_with fail
     go_big_quiet (first|(go_at_call 217;refine Calls.quiet_of_same (lessU_any _ _ _)))
     go_wp2_with fail
     go_roundw
     case rel=>exact⟨k+1,by go_num,by omega,by omega,hS0.drewN _,Hd (by rw[<-HU.out,up_go P dk j k hkj (by rw[HPG.out,hA])])⟩
     case measure=>simp[natOf];omega
   ·have hd:decide ((k:Int)<=(j:Int))=false:=dF (by omega)
    have hdn:decide (k<=j)=false:=dF hkj
    have HK2:=Hd (show k=i2 by rw[<-HU.out,up_stop P dk j k (.inl hkj)])
    go_wp2_with fail
    go_big_quiet (first|(go_at_call 217;refine Calls.quiet_of_same (lessU_any _ _ _)))
    go_wp2_with fail
    go_meet
    case rel=>exact⟨by rw[HK2.out],hS0.drewN _⟩
 case rest=>
  obtain⟨rfl,hS0⟩:=hcut
  clear hSk
  go_upto_block 2 with fail
  go_cut[11] (fun vj wc=>vj=.int .i64 j2/\Srt w blk off N dk wc)
  case first=>
   go_wp2_with fail
   go_loopw[11] (fun v wq=>∃k:Nat,v=.int .i64 k/\k<=j/\i2<=k+1/\Srt w blk off N dk wq/\Hid (scanDown Q dk i2 k=j2)) (fun v _=>natOf v)
   case atStart=>exact⟨j,rfl,Nat.le_refl _,by omega,hS0,HJ2⟩
   case round=>
    obtain⟨k,rfl,hk0,hk1,hS0,HU⟩:=hrel
    have hcw:=hS0.cells HG.out hsk
    have hfw:=hS0.frozens n
    by_cases hkj:i2<=k
    ·have hd:decide ((i2:Int)<=(k:Int))=true:=dT (by omega)
     have hdn:decide (i2<=k)=true:=dT hkj
     cases hA:ltInt (G k) (G a)
     ·go_wp2_with fail
      go_big_quiet (first|(go_at_call 217;refine Calls.quiet_of_same (lessU_any _ _ _)))
      go_wp2_with fail
      go_roundw
      case rel=>exact⟨k-1,by congr 1;omega,by omega,by omega,hS0.drewN _,Hd (by rw[<-HU.out,down_go Q dk i2 k (by omega) hkj (by rw[HQG.out,hA];rfl)])⟩
      case measure=>simp[natOf];omega
     ·go_wp2_with fail
      go_big_quiet (first|(go_at_call 217;refine Calls.quiet_of_same (lessU_any _ _ _)))
      go_wp2_with fail
      have HK2:=Hd (show k=j2 by rw[<-HU.out,down_stop Q dk i2 k (.inr (by rw[HQG.out,hA];rfl))])
      go_meet
      case rel=>exact⟨by rw[HK2.out],hS0.drewN _⟩
    ·have hd:decide ((i2:Int)<=(k:Int))=false:=dF (by omega)
     have hdn:decide (i2<=k)=false:=dF hkj
     have HK2:=Hd (show k=j2 by rw[<-HU.out,down_stop Q dk i2 k (.inl hkj)])
     go_wp2_with fail
     go_big_quiet (first|(go_at_call 217;refine Calls.quiet_of_same (lessU_any _ _ _)))
     go_wp2_with fail
     go_meet
     case rel=>exact⟨by rw[HK2.out],hS0.drewN _⟩
  case rest=>
   obtain⟨rfl,hS2⟩:=hcut
   clear hS0
   have hcw:=hS2.cells HG.out hsk
   have hfw:=hS2.frozens n
   by_cases hgt:i2>j2
   ·have hd:decide ((j2:Int)<(i2:Int))=true:=dT (by omega)
    have hdn:decide (j2<i2)=true:=dT hgt
    have HF:=Hd (show partition ltInt d a b pivot=(j2,true,swp dk j2 a)by rw[HEQ.out,if_pos hgt])
    rcases Nat.eq_or_lt_of_le (show a<=j2 by omega)with hja|hja
    ·subst hja
     go_wp2_with fail
     go_region
     refine hideW (Φ:=fun W=>Exit.then _ _ _ _ W) (fun W=>Srt w blk off N (swp dk a a) W) ((hS2.swpG HG.out (i:=a) (j:=a) (by omega) (by omega)).drewN 1) (fun w9 hS9=>?_)
     go_wp2_with fail
     go_ret2
     rw[HF.out]
     exact⟨rfl,hS9⟩
    ·go_wp2_with fail
     go_region
     refine hideW (Φ:=fun W=>Exit.then _ _ _ _ W) (fun W=>Srt w blk off N (swp dk j2 a) W) ((hS2.swpG HG.out (i:=j2) (j:=a) (by omega) (by omega)).drewN 1) (fun w9 hS9=>?_)
     go_wp2_with fail
     go_ret2
     rw[HF.out]
     exact⟨rfl,hS9⟩
   ·have hd:decide ((j2:Int)<(i2:Int))=false:=dF (by omega)
    have hdn:decide (j2<i2)=false:=dF hgt
    have hne:i2<j2:=by
     rcases Nat.lt_or_ge i2 j2 with h|h
     ·exact h
     ·exfalso
      have e:i2=j2:=by omega
      have h1:=HU4.out (by omega)
      have h2:=HV4.out (by omega) (by omega)
      rw[HPG.out]at h1
      rw[HQG.out,<-e,h1]at h2
      exact Bool.noConfusion h2
    obtain⟨rr,hrr⟩:∃rr,partLoop ltInt a (i2+1) (j2-1) (swp dk i2 j2)=rr:=⟨_,rfl⟩
    have HR:=Hd (show partition ltInt d a b pivot=(rr.1,false,swp rr.2 rr.1 a)by rw[HEQ.out,if_neg hgt,hrr])
    obtain⟨i3,hi3⟩:∃i3:Nat,i3=i2+1:=⟨_,rfl⟩
    obtain⟨j3,hj3⟩:∃j3:Nat,j3=j2-1:=⟨_,rfl⟩
    obtain⟨d3,hd3⟩:∃d3,d3=swp dk i2 j2:=⟨_,rfl⟩
    have HR3:=Hd (show partLoop ltInt a i3 j3 d3=rr by rw[hi3,hj3,hd3];exact hrr)
    have hn3:d3.size=n:=by rw[hd3,size_swp];exact hsk
    clear hrr
    go_wp2_with fail
    go_region
    refine hideW (Φ:=fun W=>Exit.then _ _ _ _ W) (fun W=>Srt w blk off N d3 W) (by rw[hd3];exact(hS2.swpG HG.out (i:=i2) (j:=j2) (by omega) (by omega)).drewN 1) (fun w3 hS3=>?_)
    go_upto_block 4 with fail
    rw[show(i2:Int)+1=(i3:Int)by omega,show(j2:Int)-1=(j3:Int)by omega]
    have hi3a:a+1<i3:=by omega
    have hij3:i3<=j3+1:=by omega
    have hj3b:j3<b:=by omega
    clear hcw hfw hS2 HEQ HPG HQG HU4 HV4 HI2 HJ2 HP HQ HG hd3 hd hdn hgt hne u1 u2 v1 v2 hi3 hj3
    go_wp2_with fail
    go_loopw[10,11] (fun vi vj wr=>∃(i j:Nat) (dk:Array Int),vi=.int .i64 i/\vj=.int .i64 j/\a+1<i/\i<=j+1/\j<b/\dk.size=n/\Srt w blk off N dk wr/\
     Hid (partLoop ltInt a i j dk=rr)) (fun vi vj _=>natOf vj+1-natOf vi)
    case atStart=>exact⟨i3,j3,d3,rfl,rfl,by omega,by omega,by omega,hn3,hS3,HR3⟩
    case round=>
     obtain⟨i,j,dk,rfl,rfl,hi,hij,hj,hsk,hSk,HO⟩:=hrel
     obtain⟨P,hP⟩:∃P:Int->Bool,P=fun x=>ltInt x dk[a]!:=⟨_,rfl⟩
     obtain⟨Q,hQ⟩:∃Q:Int->Bool,Q=fun x=>!ltInt x dk[a]!:=⟨_,rfl⟩
     obtain⟨i2,hi2⟩:∃i2,scanUp P dk j i=i2:=⟨_,rfl⟩
     obtain⟨j2,hj2⟩:∃j2,scanDown Q dk i2 j=j2:=⟨_,rfl⟩
     have u:=scanUp_spec P dk j _ i rfl
     have v:=scanDown_spec Q dk i2 j
     rw[hi2]at u
     rw[hj2]at v
     have u1:=u.1
     have u2:=u.2.1 hij
     have v1:=v.1
     have v2:=v.2.1 (by omega)
     have HU4:=Hd u.2.2.2
     have HV4:=Hd v.2.2.2
     have HI2:=Hd hi2
     have HJ2:=Hd hj2
     have HEQ:=Hd (show partLoop ltInt a i j dk=if i2>j2 then(j2,dk)else partLoop ltInt a (i2+1) (j2-1) (swp dk i2 j2)by
      rw[partLoop_eq,<-hP,<-hQ,hi2,hj2])
     have HP:=Hd hP
     have HQ:=Hd hQ
     clear u v hi2 hj2 hP hQ
     obtain⟨G,hG⟩:∃G:Nat->Int,∀t,G t=dk[t]!:=⟨fun t=>dk[t]!,fun _=>rfl⟩
     have HG:=Hd hG
     clear hG
     have HPG:=Hd (show∀t,P dk[t]! =ltInt (G t) (G a)from fun t=>by rw[HP.out,HG.out,HG.out])
     have HQG:=Hd (show∀t,Q dk[t]! =!ltInt (G t) (G a)from fun t=>by rw[HQ.out,HG.out,HG.out])
     go_upto_block 6 with fail
     go_cut[10] (fun vi wc=>vi=.int .i64 i2/\Srt w blk off N dk wc)
     case first=>
      go_wp2_with fail
      go_loopw[10] (fun v wq=>∃k:Nat,v=.int .i64 k/\i<=k/\k<=j+1/\Srt w blk off N dk wq/\Hid (scanUp P dk j k=i2)) (fun v _=>j+1-natOf v)
      case atStart=>exact⟨i,rfl,Nat.le_refl _,by omega,hSk,HI2⟩
      case round=>
       obtain⟨k,rfl,hk0,hk1,hS0,HU⟩:=hrel
       have hcw:=hS0.cells HG.out hsk
       have hfw:=hS0.frozens n
       by_cases hkj:k<=j
       ·have hd:decide ((k:Int)<=(j:Int))=true:=dT (by omega)
        have hdn:decide (k<=j)=true:=dT hkj
        cases hA:ltInt (G k) (G a)
        ·go_wp2_with fail
         go_big_quiet (first|(go_at_call 217;refine Calls.quiet_of_same (lessU_any _ _ _)))
         go_wp2_with fail
         have HK2:=Hd (show k=i2 by rw[<-HU.out,up_stop P dk j k (.inr (by rw[HPG.out,hA]))])
         go_meet
         case rel=>exact⟨by rw[HK2.out],hS0.drewN _⟩
        ·go_wp2_with fail
         go_big_quiet (first|(go_at_call 217;refine Calls.quiet_of_same (lessU_any _ _ _)))
         go_wp2_with fail
         go_roundw
         case rel=>exact⟨k+1,by go_num,by omega,by omega,hS0.drewN _,Hd (by rw[<-HU.out,up_go P dk j k hkj (by rw[HPG.out,hA])])⟩
         case measure=>simp[natOf];omega
       ·have hd:decide ((k:Int)<=(j:Int))=false:=dF (by omega)
        have hdn:decide (k<=j)=false:=dF hkj
        have HK2:=Hd (show k=i2 by rw[<-HU.out,up_stop P dk j k (.inl hkj)])
        go_wp2_with fail
        go_big_quiet (first|(go_at_call 217;refine Calls.quiet_of_same (lessU_any _ _ _)))
        go_wp2_with fail
        go_meet
        case rel=>exact⟨by rw[HK2.out],hS0.drewN _⟩
     case rest=>
      obtain⟨rfl,hS0⟩:=hcut
      clear hSk
      go_upto_block 8 with fail
      go_cut[11] (fun vj wc=>vj=.int .i64 j2/\Srt w blk off N dk wc)
      case first=>
       go_wp2_with fail
       go_loopw[11] (fun v wq=>∃k:Nat,v=.int .i64 k/\k<=j/\i2<=k+1/\Srt w blk off N dk wq/\Hid (scanDown Q dk i2 k=j2)) (fun v _=>natOf v)
       case atStart=>exact⟨j,rfl,Nat.le_refl _,by omega,hS0,HJ2⟩
       case round=>
        obtain⟨k,rfl,hk0,hk1,hS0,HU⟩:=hrel
        have hcw:=hS0.cells HG.out hsk
        have hfw:=hS0.frozens n
        by_cases hkj:i2<=k
        ·have hd:decide ((i2:Int)<=(k:Int))=true:=dT (by omega)
         have hdn:decide (i2<=k)=true:=dT hkj
         cases hA:ltInt (G k) (G a)
         ·go_wp2_with fail
          go_big_quiet (first|(go_at_call 217;refine Calls.quiet_of_same (lessU_any _ _ _)))
          go_wp2_with fail
          go_roundw
          case rel=>exact⟨k-1,by congr 1;omega,by omega,by omega,hS0.drewN _,Hd (by rw[<-HU.out,down_go Q dk i2 k (by omega) hkj (by rw[HQG.out,hA];rfl)])⟩
          case measure=>simp[natOf];omega
         ·go_wp2_with fail
          go_big_quiet (first|(go_at_call 217;refine Calls.quiet_of_same (lessU_any _ _ _)))
          go_wp2_with fail
          have HK2:=Hd (show k=j2 by rw[<-HU.out,down_stop Q dk i2 k (.inr (by rw[HQG.out,hA];rfl))])
          go_meet
          case rel=>exact⟨by rw[HK2.out],hS0.drewN _⟩
        ·have hd:decide ((i2:Int)<=(k:Int))=false:=dF (by omega)
         have hdn:decide (i2<=k)=false:=dF hkj
         have HK2:=Hd (show k=j2 by rw[<-HU.out,down_stop Q dk i2 k (.inl hkj)])
         go_wp2_with fail
         go_big_quiet (first|(go_at_call 217;refine Calls.quiet_of_same (lessU_any _ _ _)))
         go_wp2_with fail
         go_meet
         case rel=>exact⟨by rw[HK2.out],hS0.drewN _⟩
      case rest=>
       obtain⟨rfl,hS2⟩:=hcut
       clear hS0
       have hcw:=hS2.cells HG.out hsk
       have hfw:=hS2.frozens n
       by_cases hgt:i2>j2
       ·have hd:decide ((j2:Int)<(i2:Int))=true:=dT (by omega)
        have hdn:decide (j2<i2)=true:=dT hgt
        have HF:=Hd (show partition ltInt d a b pivot=(j2,false,swp dk j2 a)by rw[HR.out,<-HO.out,HEQ.out,if_pos hgt])
        have hja:a<j2:=by omega
        go_wp2_with fail
        go_region
        refine hideW (Φ:=fun W=>Exit.then _ _ _ _ W) (fun W=>Srt w blk off N (swp dk j2 a) W) ((hS2.swpG HG.out (i:=j2) (j:=a) (by omega) (by omega)).drewN 1) (fun w9 hS9=>?_)
        go_wp2_with fail
        go_ret2
        rw[HF.out]
        exact⟨rfl,hS9⟩
       ·have hd:decide ((j2:Int)<(i2:Int))=false:=dF (by omega)
        have hdn:decide (j2<i2)=false:=dF hgt
        have hne:i2<j2:=by
         rcases Nat.lt_or_ge i2 j2 with h|h
         ·exact h
         ·exfalso
          have e:i2=j2:=by omega
          have h1:=HU4.out (by omega)
          have h2:=HV4.out (by omega) (by omega)
          rw[HPG.out]at h1
          rw[HQG.out,<-e,h1]at h2
          exact Bool.noConfusion h2
        have HF:=Hd (show partLoop ltInt a (i2+1) (j2-1) (swp dk i2 j2)=rr by rw[<-HO.out,HEQ.out,if_neg hgt])
        go_wp2_with fail
        go_region
        go_wp2_with fail
        go_roundw
        case rel=>
         exact⟨i2+1,j2-1,swp dk i2 j2,by go_num,by congr 1;omega,by omega,by omega,by omega,by rw[size_swp];exact hsk,(hS2.swpG HG.out (i:=i2) (j:=j2) (by omega) (by omega)).drewN 1,HF⟩
        case measure=>simp[natOf];omega
end Go.Proofs.YtjflkifodfncmaaGreatDoor
