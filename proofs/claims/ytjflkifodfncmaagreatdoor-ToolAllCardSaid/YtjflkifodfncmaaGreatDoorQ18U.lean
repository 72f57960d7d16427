/- Q18R, Q18S, Q18T, Q18U: these texts in one. Conditions: each theorem names its own. -/
import Derived.Test.YtjflkifodfncmaaGreatDoorQ18Q
import Derived.Test.YtjflkifodfncmaaGreatDoorGCTk
namespace Go.Proofs.YtjflkifodfncmaaGreatDoor
set_option maxHeartbeats 16000000
set_option maxRecDepth 100000
open Go Go.RowKit Go.Maps Go.Proofs
structure RdQ(w0:World)(rb:Nat)(w:World)(u:Value)(s:RS):Prop where
 rd:Blk w rb [u,I s.2] 126
 bs:∀W,Ext w0 W->BsAt W u s.1
 ext:Ext w0 w
 lo:w0.heap.size<=rb
theorem RdQ.later{w0 w w':World}{rb:Nat}{u:Value}{s:RS}(h:RdQ w0 rb w u s)(hx:Ext w w'):RdQ w0 rb w' u s:=⟨h.rd.later hx,h.bs,h.ext.trans hx,h.lo⟩
theorem RdQ.now{w0 w:World}{rb:Nat}{u:Value}{s:RS}(h:RdQ w0 rb w u s):BsAt w u s.1:=h.bs w h.ext
theorem RdQ.setE{w0 w:World}{rb:Nat}{u:Value}{s:RS}(h:RdQ w0 rb w u s)(e:Int):RdQ w0 rb (w.setCell ⟨rb,1,none⟩ (I e)) u (s.1,e):=⟨h.rd.set 1 _,h.bs,h.ext.setCell h.lo _,h.lo⟩
theorem RdQ.setB{w0 w:World}{rb:Nat}{u u':Value}{s:RS}{l:List Byt}(h:RdQ w0 rb w u s)(hu:∀W,Ext w0 W->BsAt W u' l):RdQ w0 rb (w.setCell ⟨rb,0,none⟩ u') u' (l,s.2):=⟨h.rd.set 0 _,hu,h.ext.setCell h.lo _,h.lo⟩
theorem RdQ.other{w0 w:World}{rb p:Nat}{u:Value}{s:RS}(h:RdQ w0 rb w u s)(hp:p≠rb)(hw:w0.heap.size<=p)(i:Nat)(x:Value):RdQ w0 rb (w.setCell ⟨p,i,none⟩ x) u s:=⟨h.rd.other hp x,h.bs,h.ext.setCell hw _,h.lo⟩
def RdQTo(w0:World)(rb:Nat)(W:World)(v:Value)(s:RS)(e:Ending)(w':World):Prop:=e=.returned v/\(∃u',RdQ w0 rb w' u' s)/\Rx rb W w'
def qGroup(most:Nat)(s:RS):Nat × RS:=if s.2≠0 then(0,s)else if(gtake s.1).2.2≠0 then(0,(s.1,(gtake s.1).2.2))else if most<(gtake s.1).1 then(0,(s.1,12))else((gtake s.1).1,(s.1.drop (gtake s.1).2.1,0))
def SimQ(s t:RS):Prop:=s.2=t.2/\(s.2=0->s.1=t.1)
theorem SimQ.refl(s:RS):SimQ s s:=⟨rfl,fun _=>rfl⟩
theorem SimQ.num{k:Nat}{s t:RS}(h:SimQ s t):(rNum k s).1=(rNum k t).1/\SimQ (rNum k s).2 (rNum k t).2:=by
 obtain⟨h1,h2⟩:=h
 by_cases hz:s.2=0
 ·have e:s=t:=Prod.ext (h2 hz) h1
  subst e
  exact⟨rfl,SimQ.refl _⟩
 ·unfold rNum
  rw[if_pos hz,if_pos (by rw[<-h1];exact hz)]
  exact⟨rfl,h1,h2⟩
theorem SimQ.group{m:Nat}{s t:RS}(h:SimQ s t):(qGroup m s).1=(rCount m t).1/\SimQ (qGroup m s).2 (rCount m t).2:=by
 obtain⟨h1,h2⟩:=h
 by_cases hz:s.2=0
 ·have e:s=t:=Prod.ext (h2 hz) h1
  subst e
  by_cases hg:(gtake s.1).2.2=0
  ·have hr:rGroup s=((gtake s.1).1,(s.1.drop (gtake s.1).2.1,0)):=by unfold rGroup;rw[if_neg (by simp[hz]),if_neg (by simp[hg])]
   have hq:qGroup m s=if m<(gtake s.1).1 then(0,(s.1,12))else((gtake s.1).1,(s.1.drop (gtake s.1).2.1,0)):=by unfold qGroup;rw[if_neg (by simp[hz]),if_neg (by simp[hg])]
   unfold rCount
   rw[hr,hq]
   by_cases hm:m<(gtake s.1).1
   ·rw[if_pos hm,if_pos hm]
    exact⟨rfl,rfl,fun h=>by cases h⟩
   ·rw[if_neg hm,if_neg hm]
    exact⟨rfl,SimQ.refl _⟩
  ·have hr:rGroup s=(0,(s.1,(gtake s.1).2.2)):=by unfold rGroup;rw[if_neg (by simp[hz]),if_pos hg]
   have hq:qGroup m s=(0,(s.1,(gtake s.1).2.2)):=by unfold qGroup;rw[if_neg (by simp[hz]),if_pos hg]
   unfold rCount
   rw[hr,hq,if_neg (Nat.not_lt_zero _)]
   exact⟨rfl,SimQ.refl _⟩
 ·have hzt:t.2≠0:=by rw[<-h1];exact hz
  have hr:rGroup t=(0,t):=by unfold rGroup;rw[if_pos hzt]
  have hq:qGroup m s=(0,s):=by unfold qGroup;rw[if_pos hz]
  unfold rCount
  rw[hr,hq,if_neg (Nat.not_lt_zero _)]
  exact⟨rfl,h1,h2⟩
theorem bs_cutQ{w0:World}{a:Option Addr}{n cap j:Nat}{l:List Byt}(h:∀W,Ext w0 W->BsAt W (.slice a n cap) l)(hj:j<=n):∀W,Ext w0 W->BsAt W (.slice (if cap=j then a else Option.map (fun x=>x.add j) a) (n-j) (cap-j)) (l.drop j):=fun W hW=>bs_cut (h W hW) hj
theorem r18Fixed_any(w0:World)(rb:Nat)(u:Value)(s:RS)(k:Nat)(hk:k=1\/k=2\/k=4)(w:World)(h:RdQ w0 rb w u s):
 Calls Tryz.prog 72 #[.pointer (some ⟨rb,0,none⟩),I k] w (RdQTo w0 rb w (I (rNum k s).1) (rNum k s).2):=by
 have HS:=Hd h
 have hc:=h.rd.cells
 have hf:=h.rd.frozen
 obtain⟨a,cap,rfl,c1,c2,-⟩:=h.now.form
 clear h
 unfold maxLen at c2
 by_cases hz:s.2=0
 ·have hzb:(s.2 !=0)=false:=by simp[hz]
  have HZ:=Hd hz
  have HN:=Hd (show∀w',Ext w0 w'->Calls Tryz.prog 105 #[.slice a s.1.length cap,I k] w' fun e w2=>e=.returned (.tuple #[I (numTake s.1 k).1,I (numTake s.1 k).2])/\Ext w' w2 from fun w' hx=>r01Take_any _ s.1 k hk w' (HS.out.bs _ hx))
  clear hz
  by_cases hl:s.1.length<k
  ·have HF:=Hd (show rNum k s=(0,(s.1,2))by unfold rNum;rw[if_neg (by simp[HZ.out]),if_pos hl])
   have HT:=Hd (show numTake s.1 k=(0,2)by unfold numTake;rw[if_neg (by omega),if_pos (by omega)])
   go_enter Tryz.func72,Tryz.ntmps72
   go_wp2_with (first
    |(go_at_call 105;(with_reducible refine(HN.out _ HS.out.ext).mono ?_);rintro e w2 ⟨he,hx⟩;rw[HT.out]at he;subst he;have HX:=Hd hx;have HS2:=Hd (HS.out.later hx);clear hx hc hf;have hc:=HS2.out.rd.cells;have hf:=HS2.out.rd.frozen))
   go_ret
   rw[HF.out]
   exact⟨rfl,⟨_,HS2.out.setE 2⟩,(Rx.ext HX.out).set _ _⟩
  ·have HF:=Hd (show rNum k s=(deN (s.1.take k),(s.1.drop k,0))by unfold rNum;rw[if_neg (by simp[HZ.out]),if_neg hl])
   have HT:=Hd (show numTake s.1 k=(((deN (s.1.take k):Nat):Int),0)by unfold numTake;rw[if_neg (by omega),if_neg (by omega),Int.toNat_natCast])
   have HD:=Hd (bs_cutQ HS.out.bs (show k<=s.1.length by omega))
   have hkl:(k:Int)<=(s.1.length:Int):=by omega
   have hlc:(s.1.length:Int)<=(cap:Int):=by omega
   go_enter Tryz.func72,Tryz.ntmps72
   go_upto_region 5 with(first
    |(go_at_call 105;(with_reducible refine(HN.out _ HS.out.ext).mono ?_);rintro e w2 ⟨he,hx⟩;rw[HT.out]at he;subst he;have HX:=Hd hx;have HS2:=Hd (HS.out.later hx);clear hx hc hf;have hc:=HS2.out.rd.cells;have hf:=HS2.out.rd.frozen))
   refine hWp (fun W=>RdQ w0 rb W (.slice a s.1.length cap) (s.1,0)/\Rx rb w W) ⟨HS2.out.setE 0,(Rx.ext HX.out).set _ _⟩ (fun W3 hW3=>?_)
   obtain⟨hs3,hx3⟩:=hW3
   have HS3:=Hd hs3
   have HX3:=Hd hx3
   clear hc hf hs3 hx3
   have hc:=HS3.out.rd.cells
   have hf:=HS3.out.rd.frozen
   by_cases hck:cap=k
   ·subst hck
    go_wp2_with fail
    go_ret
    rw[HF.out]
    exact⟨rfl,⟨_,HS3.out.setB (fun W hW=>by have h:=HD.out W hW;have hz0:s.1.length-cap=0:=(by omega);simpa[hz0]using h)⟩,HX3.out.set _ _⟩
   ·rw[if_neg hck]at HD
    go_wp2_with fail
    go_ret
    rw[HF.out]
    exact⟨rfl,⟨_,HS3.out.setB HD.out⟩,HX3.out.set _ _⟩
 ·have hzb:(s.2 !=0)=true:=by simp[hz]
  have HF:=Hd (show rNum k s=(0,s)by unfold rNum;rw[if_pos hz])
  clear hz
  go_enter Tryz.func72,Tryz.ntmps72
  go_wp2_with fail
  go_ret
  rw[HF.out]
  exact⟨rfl,⟨_,HS.out⟩,Rx.refl _ _⟩
theorem r18Group_any(w0:World)(rb:Nat)(u:Value)(s:RS)(most:Nat)(w:World)(h:RdQ w0 rb w u s):
 Calls Tryz.prog 73 #[.pointer (some ⟨rb,0,none⟩),I most] w (RdQTo w0 rb w (I (qGroup most s).1) (qGroup most s).2):=by
 have HS:=Hd h
 have hc:=h.rd.cells
 have hf:=h.rd.frozen
 obtain⟨a,cap,rfl,c1,c2,-⟩:=h.now.form
 clear h
 unfold maxLen at c2
 by_cases hz:s.2=0
 ·have hzb:(s.2 !=0)=false:=by simp[hz]
  have HZ:=Hd hz
  have HN:=Hd (show∀w',Ext w0 w'->Calls Tryz.prog 47 #[.slice a s.1.length cap] w' fun e w2=>e=.returned (.tuple #[I ((gtake s.1).1:Nat),I ((gtake s.1).2.1:Nat),I (gtake s.1).2.2])/\Ext w' w2 from fun w' hx=>r02Take_any _ s.1 w' (HS.out.bs _ hx))
  clear hz
  by_cases hg:(gtake s.1).2.2=0
  ·obtain⟨hu,-⟩:=gtake_used hg
   have HF:=Hd (show qGroup most s=if most<(gtake s.1).1 then(0,(s.1,12))else((gtake s.1).1,(s.1.drop (gtake s.1).2.1,0))by unfold qGroup;rw[if_neg (by simp[HZ.out]),if_neg (by simp[hg])])
   have HT:=Hd hg
   have HD:=Hd (bs_cutQ HS.out.bs hu)
   have hkl:((gtake s.1).2.1:Int)<=(s.1.length:Int):=by omega
   have hlc:(s.1.length:Int)<=(cap:Int):=by omega
   clear hg hu
   generalize gtake s.1=g at*
   obtain⟨g1,g2,g3⟩:=g
   simp only at HF HT HD hkl HN
   go_enter Tryz.func73,Tryz.ntmps73
   go_upto_region 5 with(first
    |(go_at_call 47;(with_reducible refine(HN.out _ HS.out.ext).mono ?_);rintro e w2 ⟨he,hx⟩;rw[HT.out]at he;subst he;have HX:=Hd hx;have HS2:=Hd (HS.out.later hx);clear hx hc hf;have hc:=HS2.out.rd.cells;have hf:=HS2.out.rd.frozen))
   refine hWp (fun W=>RdQ w0 rb W (.slice a s.1.length cap) (s.1,0)/\Rx rb w W) ⟨HS2.out.setE 0,(Rx.ext HX.out).set _ _⟩ (fun W3 hW3=>?_)
   obtain⟨hs3,hx3⟩:=hW3
   have HS3:=Hd hs3
   have HX3:=Hd hx3
   clear hc hf hs3 hx3
   have hc:=HS3.out.rd.cells
   have hf:=HS3.out.rd.frozen
   by_cases hm:most<g1
   ·have hd:decide ((most:Int)<(g1:Int))=true:=dT (by omega)
    rw[if_pos hm]at HF
    have hdn:decide (most<g1)=decide ((most:Int)<(g1:Int)):=by simp
    go_wp2_with fail
    go_ret
    rw[HF.out]
    exact⟨rfl,⟨_,HS3.out.setE 12⟩,HX3.out.set _ _⟩
   ·have hd:decide ((most:Int)<(g1:Int))=false:=dF (by omega)
    rw[if_neg hm]at HF
    have hdn:decide (most<g1)=decide ((most:Int)<(g1:Int)):=by simp
    by_cases hck:cap=g2
    ·subst hck
     go_wp2_with fail
     go_ret
     rw[HF.out]
     exact⟨rfl,⟨_,HS3.out.setB (fun W hW=>by have h:=HD.out W hW;have hz0:s.1.length-cap=0:=(by omega);simpa[hz0]using h)⟩,HX3.out.set _ _⟩
    ·rw[if_neg hck]at HD
     go_wp2_with fail
     go_ret
     rw[HF.out]
     exact⟨rfl,⟨_,HS3.out.setB HD.out⟩,HX3.out.set _ _⟩
  ·have HF:=Hd (show qGroup most s=(0,(s.1,(gtake s.1).2.2))by unfold qGroup;rw[if_neg (by simp[HZ.out]),if_pos hg])
   have HG:=Hd hg
   have hgb:((gtake s.1).2.2 !=0)=true:=by simp[hg]
   have hge:((gtake s.1).2.2==0)=false:=by simp[hg]
   clear hg
   generalize gtake s.1=g at*
   obtain⟨g1,g2,g3⟩:=g
   simp only at HF hgb hge HN
   go_enter Tryz.func73,Tryz.ntmps73
   go_wp2_with (first
    |(go_at_call 47;(with_reducible refine(HN.out _ HS.out.ext).mono ?_);rintro e w2 ⟨he,hx⟩;subst he;have HX:=Hd hx;have HS2:=Hd (HS.out.later hx);clear hx hc hf;have hc:=HS2.out.rd.cells;have hf:=HS2.out.rd.frozen))
   go_ret
   rw[HF.out]
   exact⟨rfl,⟨_,HS2.out.setE _⟩,(Rx.ext HX.out).set _ _⟩
 ·have hzb:(s.2 !=0)=true:=by simp[hz]
  have HF:=Hd (show qGroup most s=(0,s)by unfold qGroup;rw[if_pos hz])
  clear hz
  go_enter Tryz.func73,Tryz.ntmps73
  go_wp2_with fail
  go_ret
  rw[HF.out]
  exact⟨rfl,⟨_,HS.out⟩,Rx.refl _ _⟩
def qList{α:Type}(one:RS->α × RS):Nat->List α->RS->List α × RS
 |0,acc,s=>(acc,s)
 |n+1,acc,s=>if s.2≠0 then(acc,s)else qList one n (acc++[(one s).1]) (one s).2
theorem qList_bad{α:Type}(one:RS->α × RS)(n:Nat)(acc:List α)(s:RS)(h:s.2≠0):qList one n acc s=(acc,s):=by
 cases n with
 |zero=>rfl
 |succ n=>unfold qList;rw[if_pos h]
theorem qList_next{α:Type}{one:RS->α × RS}{n k:Nat}{acc:List α}{s:RS}(hk:k<n)(h:s.2=0):qList one (n-k) acc s=qList one (n-(k+1)) (acc++[(one s).1]) (one s).2:=by
 obtain⟨d,hd⟩:∃d,n-k=d+1:=⟨n-k-1,by omega⟩
 rw[hd,show n-(k+1)=d by omega]
 conv=>lhs;unfold qList
 rw[if_neg (by simp[h])]
theorem qList_sim{α:Type}{one two:RS->α × RS}(H:∀s t,SimQ s t->SimQ (one s).2 (two t).2/\((one s).2.2=0->(one s).1=(two t).1))(H2:∀s,s.2≠0->(one s).2.2=s.2):
 ∀(n:Nat) (acc:List α) (s t:RS),SimQ s t->SimQ (qList one n acc s).2 (rList two n acc t).2/\((qList one n acc s).2.2=0->(qList one n acc s).1=(rList two n acc t).1)
 |0,acc,s,t,h=>⟨h,fun _=>rfl⟩
 |n+1,acc,s,t,h=>by
  obtain⟨h1,h2⟩:=H s t h
  unfold qList rList
  by_cases hs:s.2≠0
  ·have h3:=H2 s hs
   have h4:(two t).2.2=s.2:=by rw[<-h1.1,h3]
   rw[if_pos hs,if_pos (by rw[h4];exact hs)]
   exact⟨⟨h4.symm,fun e=>absurd e hs⟩,fun e=>absurd e hs⟩
  ·rw[if_neg hs]
   by_cases ht:(two t).2.2≠0
   ·have h5:(one s).2.2≠0:=by rw[h1.1];exact ht
    rw[if_pos ht,qList_bad _ _ _ _ h5]
    exact⟨h1,fun e=>absurd e h5⟩
   ·rw[if_neg ht,<-h2 (by rw[h1.1];simpa using ht)]
    exact qList_sim H H2 n _ _ _ h1
theorem qGroup_bad{m:Nat}{s:RS}(h:s.2≠0):qGroup m s=(0,s):=by unfold qGroup;rw[if_pos h]
theorem rCount_max(s:RS):rCount 268435455 s=rGroup s:=by
 unfold rCount
 rw[if_neg (by have:=rGroup_lt s;omega)]
def qRow(n:Nat)(s:RS):List Nat × RS:=qList (qGroup 268435455) n [] s
theorem qRow_sim{n:Nat}{s t:RS}(h:SimQ s t):SimQ (qRow n s).2 (rList rGroup n [] t).2/\((qRow n s).2.2=0->(qRow n s).1=(rList rGroup n [] t).1):=
 qList_sim (fun s t h=>by
  obtain⟨h1,h2⟩:=h.group (m:=268435455)
  rw[rCount_max]at h1 h2
  exact⟨h2,fun _=>h1⟩) (fun s hs=>by rw[qGroup_bad hs]) n [] s t h
theorem qRow_bad{n:Nat}{s:RS}(h:s.2≠0):(qRow n s).2=s:=by unfold qRow;rw[qList_bad _ _ _ _ h]
def RowQTo(w0:World)(rb:Nat)(W:World)(r:List Nat × RS)(e:Ending)(w':World):Prop:=
 ∃v,e=.returned v/\OwnI w' W.heap.size v (intsN r.1)/\(∃u',RdQ w0 rb w' u' r.2)/\Rx rb W w'
theorem RdQ.grown{w0 w w':World}{rb B n k:Nat}{T:TypeId}{u v:Value}{s:RS}{xs:List Value}(h:RdQ w0 rb w u s)(ho:w.ownsRow B T k v n xs)(hT:126≠T)(hl:w0.heap.size<=B)(hg:w.grownBy w' v.ownBlock):RdQ w0 rb w' u s:=
 ⟨blk_grownT h.rd ho hT hg,h.bs,Ext.grown h.ext hg ho hl,h.lo⟩
theorem r18Row_any(w0:World)(rb:Nat)(u:Value)(s:RS)(n:Nat)(hn:n<=1000)(w:World)(h:RdQ w0 rb w u s):
 Calls Tryz.prog 74 #[.pointer (some ⟨rb,0,none⟩),I n] w (RowQTo w0 rb w (qRow n s)):=by
 have HS:=Hd h
 have HRB:=Hd (show rb<w.heap.size from h.rd.lt)
 have HW0:=Hd h.ext.size
 clear h
 go_enter Tryz.func74,Tryz.ntmps74
 go_upto_region 2 with fail
 refine hWp (fun W=>Ext w W/\OwnI W w.heap.size (.slice (some ⟨w.heap.size,0,none⟩) 0 0) (intsN [])) ⟨by(repeat with_reducible first|exact eR _|assumption|refine eA ?_ _|refine eD ?_|refine eW ?_ _|(refine eS ?_ ?_;focus(first|(simp;done)|(simp;omega)|omega))),by unfold OwnI;exact own_made w 1 3 0 [] rfl (Nat.zero_le _)⟩ (fun W1 hW1=>?_)
 obtain⟨hx1,ho1⟩:=hW1
 have HX1:=Hd (Rx.ext (rb:=rb) hx1)
 have HO1:=Hd ho1
 have HS1:=Hd (HS.out.later hx1)
 clear hx1 ho1
 go_wp2_with fail
 go_loopw[5,6] (fun v i wr=>∃(k:Nat) (acc:List Nat) (s':RS) (u':Value),k<=n/\i=I k/\Hid (qRow n s=qList (qGroup 268435455) (n-k) acc s')/\Hid (acc.length=k)/\Hid (RdQ w0 rb wr u' s')/\Hid (OwnI wr w.heap.size v (intsN acc))/\Hid (Rx rb w wr)) (fun _ i _=>n-(intOf i).toNat)
 case atStart=>exact⟨0,[],s,_,by omega,rfl,Hd rfl,Hd rfl,HS1,HO1,HX1⟩
 case round=>
  obtain⟨k,acc,s',u',hk,rfl,HR,HL,HT,HO,HX⟩:=hrel
  have hrc:=HT.out.rd.cells
  obtain⟨va,vc,hvf,-⟩:=HO.out.ints.form
  rw[show(intsN acc).length=k by rw[intsN_len];exact HL.out]at hvf
  subst hvf
  have HAL:=Hd (show(intsN acc).length<=n by rw[intsN_len,HL.out];exact hk)
  by_cases hlt:k<n
  ·by_cases hz:s'.2=0
   ·have HRN:=Hd (qList_next (one:=qGroup 268435455) (acc:=acc) hlt hz)
    have hzb:(s'.2==0)=true:=by simp[hz]
    have HON:=Hd (show Calls Tryz.prog 73 #[.pointer (some ⟨rb,0,none⟩),.int .i64 268435455] wr (RdQTo w0 rb wr (I (qGroup 268435455 s').1) (qGroup 268435455 s').2)from r18Group_any w0 rb u' s' 268435455 wr HT.out)
    clear hz
    generalize qGroup 268435455 s'=g at*
    obtain⟨x,t⟩:=g
    simp only at HRN HON
    go_upto_region 5 with fail
    go_wp2_with (first
     |(go_at_call 73
       go_loud(
        with_reducible refine HON.out.mono ?_
        rintro e w2 ⟨he,⟨u2,hs2⟩,hx⟩
        subst he
        have HX2:=Hd (Rx.trans HX.out hx)
        have HS2:=Hd hs2
        have HO2:=Hd (Rx.ownI hx HO.out HRB.out)
        have HSC:=Hd (Reads.made w2 1 3 1 [I x] rfl (by unfold maxLen;omega))
        have HOA:=Hd (show OwnI (w2.alloc (.cells #[I x] 3)) w.heap.size _ (intsN acc)from HO2.out.later ((eR w2).alloc _))
        have HSA:=Hd (HS2.out.later ((eR w2).alloc (.cells #[I x] 3)))
        have HXA:=Hd (Rx.trans HX2.out (Rx.ext ((eR w2).alloc (.cells #[I x] 3))))
        clear hx hs2 hrc))
     |(at_builtin;refine wpList_app rfl _ _ 47 rfl w.heap.size 3 _ 1 8 Tryz.underlying47 infoInt rfl (by decide) (by decide) _ _ _ rfl HOA.out _ _ _ rfl HSC.out (icells_one [(x:Int)]) (by have:=HAL.out;omega) HXA.out.size ?_
       intro v8 w8 ho8 hg8
       have HO8:=Hd (show OwnI w8 w.heap.size v8 (intsN (acc++[x]))from by rw[intsN_snoc];unfold OwnI;rw[icells_app,List.length_append];exact ho8)
       have HS8:=Hd (HSA.out.grown HOA.out (by decide) HW0.out hg8)
       have HY8:=Hd (Rx.grown HXA.out HOA.out (Nat.le_refl _) hg8)
       clear ho8 hg8))
    go_roundw
    case rel=>exact⟨k+1,acc++[x],t,_,by omega,by go_num,Hd (HR.out.trans HRN.out),Hd (by rw[List.length_append,HL.out];rfl),HS8,HO8,HY8⟩
    case measure=>simp[intOf];omega
   ·have HE:=Hd (show qRow n s=(acc,s')by rw[HR.out,qList_bad _ _ _ _ hz])
    have hzb:(s'.2==0)=false:=by simp[hz]
    clear hz
    go_wp2_with fail
    go_ret
    rw[HE.out]
    exact⟨_,rfl,HO.out,⟨_,HT.out⟩,HX.out⟩
  ·obtain rfl:k=n:=by omega
   have HE:=Hd (show qRow k s=(acc,s')by rw[HR.out,Nat.sub_self];rfl)
   go_wp2_with fail
   go_ret
   rw[HE.out]
   exact⟨_,rfl,HO.out,⟨_,HT.out⟩,HX.out⟩
def qPart(nd:Nat)(s:RS):PV × RS:=
 (⟨BitVec.ofNat 32 (rNum 4 s).1,BitVec.ofNat 32 (rNum 4 (rNum 4 s).2).1,(qRow nd (rNum 4 (rNum 4 s).2).2).1⟩,(qRow nd (rNum 4 (rNum 4 s).2).2).2)
theorem rNum_bad{k:Nat}{s:RS}(h:s.2≠0):rNum k s=(0,s):=by unfold rNum;rw[if_pos h]
theorem rGroup_bad{s:RS}(h:s.2≠0):rGroup s=(0,s):=by unfold rGroup;rw[if_pos h]
theorem rCount_bad{m:Nat}{s:RS}(h:s.2≠0):rCount m s=(0,s):=by unfold rCount;rw[rGroup_bad h,if_neg (Nat.not_lt_zero _)]
theorem qPart_bad{nd:Nat}{s:RS}(h:s.2≠0):(qPart nd s).2=s:=by unfold qPart;rw[rNum_bad h];show(qRow nd (rNum 4 s).2).2=s;rw[rNum_bad h];exact qRow_bad h
theorem qPart_sim(nd:Nat)(s t:RS)(h:SimQ s t):SimQ (qPart nd s).2 (rPart nd t).2/\((qPart nd s).2.2=0->(qPart nd s).1=(rPart nd t).1):=by
 obtain⟨e1,h1⟩:=h.num (k:=4)
 obtain⟨e2,h2⟩:=h1.num (k:=4)
 obtain⟨h3,e3⟩:=qRow_sim (n:=nd) h2
 unfold qPart rPart
 refine⟨h3,fun hz=>?_⟩
 show PV.mk _ _ _=PV.mk _ _ _
 rw[e1,e2,e3 hz]
def qVd(s:RS):Nat:=(rNum 1 s).1
def qS2(s:RS):RS:=if qVd s≠1/\qVd s≠2 then rFail (rNum 1 s).2 9 else(rNum 1 s).2
def qNd(s:RS):Nat:=(qGroup 256 (qS2 s)).1
def qS3(s:RS):RS:=(qGroup 256 (qS2 s)).2
def qTr(s:RS):List Nat × RS:=qRow (qGroup 256 (rNum 4 (qS3 s)).2).1 (qGroup 256 (rNum 4 (qS3 s)).2).2
def qPs(s:RS):List PV × RS:=qList (qPart (qNd s)) (qGroup 8193 (qS3 s)).1 [] (qGroup 8193 (qS3 s)).2
def qCrt(s:RS):Crt:=if qVd s=2 then crtL 2 (BitVec.ofNat 32 (rNum 4 (qS3 s)).1) (qTr s).1 else{crtP (qPs s).1 with vd:=qVd s}
def qS(s:RS):RS:=if qVd s=2 then(qTr s).2 else(qPs s).2
def qEnd(s:RS):RS:=if 0<(qS s).1.length then rFail (qS s) 4 else qS s
def qErr(s:RS):Int:=if(qEnd s).2=0 then certMayV (qNd s) (qCrt s)else(qEnd s).2
theorem rFail_bad{s:RS}{z:Int}(h:s.2≠0):rFail s z=s:=by unfold rFail;rw[if_neg h]
theorem qS_bad{s:RS}(h:(qS2 s).2≠0):qS s=qS2 s:=by
 have h3:qS3 s=qS2 s:=by unfold qS3;rw[qGroup_bad h]
 unfold qS
 split
 ·unfold qTr;rw[h3,rNum_bad h];show(qRow (qGroup 256 (qS2 s)).1 (qGroup 256 (qS2 s)).2).2=_;rw[qGroup_bad h];exact qRow_bad h
 ·unfold qPs;rw[h3,qGroup_bad h];rfl
theorem qErr_bad{s:RS}(h:(qS2 s).2≠0):qErr s=(qS2 s).2:=by
 have h1:=qS_bad h
 have h2:qEnd s=qS2 s:=by unfold qEnd;rw[h1,rFail_bad h];split<;>rfl
 unfold qErr;rw[h2,if_neg h]
theorem rdS_bad{l:List Byt}(h:(rdS2 l).2≠0):rdS l=rdS2 l:=by
 have h3:rdS3 l=rdS2 l:=by unfold rdS3;rw[rCount_bad h]
 unfold rdS
 split
 ·unfold rdParts;rw[h3,rCount_bad h];rfl
 ·unfold rdTrace;rw[h3,rNum_bad h];show(rList rGroup (rCount 256 (rdS2 l)).1 [] (rCount 256 (rdS2 l)).2).2=_;rw[rCount_bad h];rfl
theorem rdErr_bad{l:List Byt}(h:(rdS2 l).2≠0):rdErr l=(rdS2 l).2:=by
 have h1:=rdS_bad h
 have h2:rdEnd l=rdS2 l:=by unfold rdEnd;rw[h1,rFail_bad h];split<;>rfl
 unfold rdErr;rw[h2,if_neg h]
theorem qTake_good{l:List Byt}(h:(qS2 (l,0)).2=0):qErr (l,0)=rdErr l/\(rdErr l=0->qCrt (l,0)=rdCrt l/\qNd (l,0)=rdNodes l):=by
 obtain⟨n1,s3⟩:=(SimQ.refl (qS2 (l,0))).group (m:=256)
 have n1:qNd (l,0)=rdNodes l:=n1
 have s3:SimQ (qS3 (l,0)) (rdS3 l):=s3
 have hv:qVd (l,0)=rdVd l:=rfl
 have hvv:rdVd l=1\/rdVd l=2:=by
  rcases Decidable.em (rdVd l=1)with h1|h1
  ·exact .inl h1
  ·rcases Decidable.em (rdVd l=2)with h2|h2
   ·exact .inr h2
   ·exfalso
    have:qS2 (l,0)=rFail (rNum 1 (l,0)).2 9:=by unfold qS2;rw[if_pos ⟨h1,h2⟩]
    rw[this]at h
    unfold rFail at h
    split at h
    ·cases h
    ·rename_i k;exact k h
 have key:SimQ (qS (l,0)) (rdS l)/\((qS (l,0)).2=0->qCrt (l,0)=rdCrt l):=by
  rcases hvv with h1|h2
  ·obtain⟨e4,s4⟩:=s3.group (m:=8193)
   obtain⟨s5,e5⟩:=qList_sim (qPart_sim (rdNodes l)) (fun s hs=>by rw[qPart_bad hs]) (rCount 8193 (rdS3 l)).1 [] _ _ s4
   have hq:qPs (l,0)=qList (qPart (rdNodes l)) (rCount 8193 (rdS3 l)).1 [] (qGroup 8193 (qS3 (l,0))).2:=by unfold qPs;rw[n1,e4]
   have hqs:qS (l,0)=(qPs (l,0)).2:=by unfold qS;rw[hv,h1];rfl
   have hrs:rdS l=(rdParts l).2:=by unfold rdS;rw[if_pos h1]
   have hqc:qCrt (l,0)=crtP (qPs (l,0)).1:=by unfold qCrt;rw[hv,h1];rfl
   have hrc:rdCrt l=crtP (rdParts l).1:=by unfold rdCrt;rw[if_pos h1]
   rw[hqs,hrs,hqc,hrc,hq]
   exact⟨s5,fun hz=>by rw[e5 hz];rfl⟩
  ·obtain⟨e4,s4⟩:=s3.num (k:=4)
   obtain⟨e5,s5⟩:=s4.group (m:=256)
   obtain⟨s6,e6⟩:=qRow_sim (n:=(rCount 256 (rNum 4 (rdS3 l)).2).1) s5
   have hq:qTr (l,0)=qRow (rCount 256 (rNum 4 (rdS3 l)).2).1 (qGroup 256 (rNum 4 (qS3 (l,0))).2).2:=by unfold qTr;rw[e5]
   have hqs:qS (l,0)=(qTr (l,0)).2:=by unfold qS;rw[hv,h2];rfl
   have hrs:rdS l=(rdTrace l).2:=by unfold rdS;rw[h2];rfl
   have hqc:qCrt (l,0)=crtL 2 (BitVec.ofNat 32 (rNum 4 (qS3 (l,0))).1) (qTr (l,0)).1:=by unfold qCrt;rw[hv,h2];rfl
   have hrc:rdCrt l=crtL 2 (BitVec.ofNat 32 (rNum 4 (rdS3 l)).1) (rdTrace l).1:=by unfold rdCrt;rw[h2];rfl
   rw[hqs,hrs,hqc,hrc,hq,e4]
   exact⟨s6,fun hz=>by rw[e6 hz];rfl⟩
 obtain⟨k1,k2⟩:=key
 have hend:SimQ (qEnd (l,0)) (rdEnd l):=by
  by_cases hz:(qS (l,0)).2=0
  ·have:qS (l,0)=rdS l:=Prod.ext (k1.2 hz) k1.1
   unfold qEnd rdEnd;rw[this];exact SimQ.refl _
  ·have a1:qEnd (l,0)=qS (l,0):=by unfold qEnd;rw[rFail_bad hz];split<;>rfl
   have a2:rdEnd l=rdS l:=by unfold rdEnd;rw[rFail_bad (by rw[<-k1.1];exact hz)];split<;>rfl
   rw[a1,a2];exact k1
 have hz2:(qEnd (l,0)).2=0->(qS (l,0)).2=0:=fun hz=>by
  rcases Decidable.em ((qS (l,0)).2=0)with h9|h9
  ·exact h9
  ·have a1:qEnd (l,0)=qS (l,0):=by unfold qEnd;rw[rFail_bad h9];split<;>rfl
   rw[a1]at hz;exact hz
 unfold qErr rdErr
 by_cases hz:(qEnd (l,0)).2=0
 ·rw[if_pos hz,if_pos (by rw[<-hend.1];exact hz),k2 (hz2 hz),n1]
  exact⟨rfl,fun _=>⟨rfl,rfl⟩⟩
 ·have hz':(rdEnd l).2≠0:=by rw[<-hend.1];exact hz
  rw[if_neg hz,if_neg hz',hend.1]
  exact⟨rfl,fun e=>absurd e hz'⟩
theorem certTake_q(l:List Byt):certTake l=if qErr (ftake magC l)≠0 then .error (qErr (ftake magC l))else .ok (qCrt (ftake magC l),qNd (ftake magC l)):=by
 unfold certTake
 by_cases hf:(ftake magC l).2=0
 ·have hp:ftake magC l=((ftake magC l).1,0):=Prod.ext rfl hf
  rw[if_neg (by simp[hf]),hp]
  generalize (ftake magC l).1=L
  by_cases h2:(qS2 (L,0)).2=0
  ·obtain⟨a,b⟩:=qTake_good h2
   rw[a]
   by_cases hz:rdErr L=0
   ·obtain⟨c,d⟩:=b hz
    rw[if_neg (by simp[hz]),if_neg (by simp[hz]),c,d]
   ·rw[if_pos hz,if_pos hz]
  ·have e1:=qErr_bad h2
   have e2:rdErr L=(qS2 (L,0)).2:=rdErr_bad h2
   show(if rdErr L≠0 then _ else _)=_
   rw[e1,e2,if_pos h2,if_pos h2]
 ·have hn:(rNum 1 (ftake magC l))=(0,ftake magC l):=rNum_bad hf
  have h2:qS2 (ftake magC l)=ftake magC l:=by
   unfold qS2;rw[hn]
   split
   ·exact rFail_bad hf
   ·rfl
  have e1:=qErr_bad (s:=ftake magC l) (by rw[h2];exact hf)
  rw[e1,h2,if_pos hf,if_pos hf]
structure QcS(w0:World)(rb cb:Nat)(W:World)(cv:List Value)(u:Value)(s:RS):Prop where
 rd:RdQ w0 rb W u s
 cert:Blk W cb cv 49
 lt:rb<cb
theorem QcS.low{w0 W:World}{rb cb:Nat}{cv:List Value}{u:Value}{s:RS}(h:QcS w0 rb cb W cv u s):w0.heap.size<=cb:=Nat.le_trans h.rd.lo (Nat.le_of_lt h.lt)
theorem QcS.step{w0 W W':World}{rb cb:Nat}{cv:List Value}{u u':Value}{s s':RS}(h:QcS w0 rb cb W cv u s)(k:RdQ w0 rb W' u' s')(hx:Rx rb W W'):QcS w0 rb cb W' cv u' s':=⟨k,Rx.blk hx h.cert (Nat.ne_of_lt h.lt),h.lt⟩
theorem QcS.setC{w0 W:World}{rb cb:Nat}{cv:List Value}{u:Value}{s:RS}(h:QcS w0 rb cb W cv u s)(i:Nat)(x:Value):QcS w0 rb cb (W.setCell ⟨cb,i,none⟩ x) (cv.set i x) u s:=⟨h.rd.other (Nat.ne_of_gt h.lt) h.low i x,h.cert.set i x,h.lt⟩
theorem QcS.setE{w0 W:World}{rb cb:Nat}{cv:List Value}{u:Value}{s:RS}(h:QcS w0 rb cb W cv u s)(e:Int):QcS w0 rb cb (W.setCell ⟨rb,1,none⟩ (I e)) cv u (s.1,e):=⟨h.rd.setE e,h.cert.other (Nat.ne_of_lt h.lt) _,h.lt⟩
theorem QcS.later{w0 W W':World}{rb cb:Nat}{cv:List Value}{u:Value}{s:RS}(h:QcS w0 rb cb W cv u s)(hx:Ext W W'):QcS w0 rb cb W' cv u s:=⟨h.rd.later hx,h.cert.later hx,h.lt⟩
theorem QcS.other{w0 W:World}{rb cb p:Nat}{cv:List Value}{u:Value}{s:RS}(h:QcS w0 rb cb W cv u s)(h1:p≠rb)(h2:p≠cb)(h3:w0.heap.size<=p)(i:Nat)(x:Value):QcS w0 rb cb (W.setCell ⟨p,i,none⟩ x) cv u s:=⟨h.rd.other h1 h3 i x,h.cert.other h2 _,h.lt⟩
theorem QcS.grown{w0 w w':World}{rb cb n k:Nat}{v u:Value}{s:RS}{cv xs:List Value}(h:QcS w0 rb cb w cv u s)(ho:w.ownsRow (cb+1) 85 k v n xs)(hg:w.grownBy w' v.ownBlock):QcS w0 rb cb w' cv u s:=
 ⟨h.rd.grown ho (by decide) (Nat.le_succ_of_le h.low) hg,blk_grownT h.cert ho (by decide) hg,h.lt⟩
theorem qGroup_le(m:Nat)(s:RS):(qGroup m s).1<=m:=by
 unfold qGroup
 split
 ·exact Nat.zero_le _
 ·split
  ·exact Nat.zero_le _
  ·split
   ·exact Nat.zero_le _
   ·omega
def CutC(w0:World)(rb cb:Nat)(s:RS)(c0:Crt)(W:World):Prop:=
 ∃u pv tv c,QcS w0 rb cb W [I c.vd,pv,U c.dest,tv] u s/\CertOwn W (cb+1) pv tv c/\CrtEq c c0
theorem CutC.parts{w0 W:World}{rb cb vd:Nat}{v u:Value}{s:RS}{l:List PV}(h:QcS w0 rb cb W [I vd,v,U 0#32,.slice none 0 0] u s)(ho:OwnPR W (cb+1) v (l.map pvV)):CutC w0 rb cb s {crtP l with vd:=vd} W:=by
 obtain⟨c,h1,h2,h3,h4,h5⟩:=certOwn_parts ho
 refine⟨u,v,.slice none 0 0,{c with vd:=vd},?_,⟨h1.parts,h1.len,h1.rk,h1.tr⟩,⟨rfl,h5.dest,h5.tr,h5.rks,h5.ps⟩⟩
 show QcS w0 rb cb W [I vd,v,U c.dest,.slice none 0 0] u s
 rw[h3];exact h
theorem r18Take_any(v:Value)(l:List Byt)(w:World)(h:BsAt w v l)(hl:l.length<=1000000000):Calls Tryz.prog 26 #[v] w (TookC w (certTake l)):=by
 have HC:=Hd h
 obtain⟨a,cap,rfl,-⟩:=h.form
 clear h
 have HFT:=Hd (show∀w',BsAt w' (.slice a l.length cap) l->Calls Tryz.prog 46 #[.int .u32 1129468977,.slice a l.length cap] w' (TookY w' (ftake magC l))from fun w' h=>r04Take_any magC _ l w' h hl)
 have HN:=Hd (certTake_q l)
 go_enter Tryz.func26,Tryz.ntmps26
 go_upto_region 1 with fail
 refine hBk w [I 0,.slice none 0 0,U 0#32,.slice none 0 0] 49 (fun W1 hW1=>?_)
 obtain⟨hx1,hb1⟩:=hW1
 have HX1:=Hd hx1
 have HB1:=Hd hb1
 clear hx1 hb1
 generalize hob:w.heap.size=ob at*
 have HOE:=Hd hob
 clear hob
 generalize ftake magC l=s0 at*
 go_upto_region 2 with(first
  |(go_at_call 46;(with_reducible refine(HFT.out _ (HC.out.later HX1.out)).mono ?_);rintro e w2 ⟨⟨u2,he,hu,hnil⟩,hx⟩;obtain⟨ua,uc,hue⟩:=hu.form;subst hue;subst he;have HX2:=Hd (HX1.out.trans hx);have HB2:=Hd (HB1.out.later hx);have HO2:=Hd hu;clear hx hu hnil))
 go_upto_region 3 with fail
 refine hWp (fun W=>RdQ w2 w2.heap.size W (.slice ua s0.1.length uc) s0)
  ⟨Blk.new w2 [.slice ua s0.1.length uc,I s0.2] 126,fun W hW=>OwnY.bs (HO2.out.later hW),(eR w2).alloc _,Nat.le_refl _⟩ (fun W3 hW3=>?_)
 have HS3:=Hd hW3
 clear hW3 HB1 HX1 HO2 HC HFT
 have HOB:=Hd HB2.out.lt
 generalize hrb:w2.heap.size=rb at*
 have HRE:=Hd hrb
 clear hrb
 have HV:=Hd (show Calls Tryz.prog 72 #[.pointer (some ⟨rb,0,none⟩),.int .i64 1] W3 (RdQTo w2 rb W3 (I (rNum 1 s0).1) (rNum 1 s0).2)from r18Fixed_any w2 rb _ s0 1 (by decide) W3 HS3.out)
 have HS1E:=Hd (show qS2 s0=if(rNum 1 s0).1≠1/\(rNum 1 s0).1≠2 then rFail (rNum 1 s0).2 9 else(rNum 1 s0).2 from rfl)
 have HVE:=Hd (show qVd s0=(rNum 1 s0).1 from rfl)
 generalize rNum 1 s0=g1 at*
 obtain⟨vd,s1⟩:=g1
 simp only at HV HS1E HVE
 go_upto_region 4 with(first
  |(go_at_call 72
    go_loud(
     with_reducible refine HV.out.mono ?_
     rintro e w4 ⟨he,⟨u4,hs4⟩,hx⟩
     subst he
     have HS4:=Hd hs4
     clear hx hs4)))
 refine hWp (fun W=>QcS w2 rb w4.heap.size W [I vd,.slice none 0 0,U 0#32,.slice none 0 0] u4 s1)
  ⟨HS4.out.later ((eR w4).alloc _),Blk.new w4 [I vd,.slice none 0 0,U 0#32,.slice none 0 0] 49,HS4.out.rd.lt⟩ (fun W5 hW5=>?_)
 have HS5:=Hd hW5
 clear hW5 HS4 HV HS3
 generalize w4.heap.size=cb at*
 have hcc:=HS5.out.cert.cells
 have hrc:=HS5.out.rd.rd.cells
 obtain⟨t1,z1⟩:=s1
 simp only at HS1E hrc
 obtain⟨b1,hb1⟩:∃b1,(z1==0)=b1:=⟨_,rfl⟩
 obtain⟨b2,hb2⟩:∃b2,((vd:Int) !=1)=b2:=⟨_,rfl⟩
 obtain⟨b3,hb3⟩:∃b3,((vd:Int) !=2)=b3:=⟨_,rfl⟩
 have HB1:=Hd hb1
 have HB2':=Hd hb2
 have HB3:=Hd hb3
 have HQ2:=Hd (show qS2 s0=if b1&&(b2&&b3)then(t1,9)else(t1,z1)from by
  rw[HS1E.out,<-hb1,<-hb2,<-hb3]
  have k1:((vd:Int) !=1)=decide (vd≠1):=by by_cases k:vd=1<;>simp[k]<;>omega
  have k2:((vd:Int) !=2)=decide (vd≠2):=by by_cases k:vd=2<;>simp[k]<;>omega
  rw[k1,k2]
  by_cases k3:z1=0<;>by_cases k4:vd=1<;>by_cases k5:vd=2<;>simp[rFail,k3,k4,k5])
 clear hb1 hb2 hb3
 obtain⟨bq,hbq⟩:∃bq,(b1&&(b2&&b3))=bq:=⟨_,rfl⟩
 rw[hbq]at HQ2
 have HBQ:=Hd hbq
 clear hbq
 go_cut[39] (fun c wc=>c=.bool bq/\Hid (QcS w2 rb cb wc [I vd,.slice none 0 0,U 0#32,.slice none 0 0] u4 (t1,z1)))
 case first=>
  have hbq:=HBQ.out
  subst hbq
  have hb1:=HB1.out
  have hb2:=HB2'.out
  have hb3:=HB3.out
  cases b1<;>cases b2<;>cases b3
  all_goals
   go_wp2_with fail
   go_meet
  all_goals
   case rel=>exact⟨rfl,HS5⟩
 case rest=>
 obtain⟨rfl,HC5⟩:=hcut
 clear hcc hrc HS5 HB1 HB2' HB3 HBQ
 have hrc:=HC5.out.rd.rd.cells
 have hrf:=HC5.out.rd.rd.frozen
 obtain⟨wp,rfl⟩:∃wp:World,wp=wc:=⟨_,rfl⟩
 go_upto_if 39 with(fail)
 go_cut[] (fun wc=>Hid (∃u,QcS w2 rb cb wc [I vd,.slice none 0 0,U 0#32,.slice none 0 0] u (qS2 s0)))
 case first=>
  cases bq
  ·have HE:=Hd (show qS2 s0=(t1,z1)by rw[HQ2.out];rfl)
   go_wp2_with fail
   go_meet
   case rel=>exact Hd ⟨_,by rw[HE.out];exact HC5.out⟩
  ·have HE:=Hd (show qS2 s0=(t1,9)by rw[HQ2.out];rfl)
   go_wp2_with fail
   go_meet
   case rel=>exact Hd ⟨_,by rw[HE.out];exact HC5.out.setE 9⟩
 case rest=>
 obtain⟨u5,hs5⟩:=hcut
 have HS5:=Hd hs5
 clear hs5 hrc hrf HC5 HQ2
 obtain⟨w6,rfl⟩:∃w6:World,w6=wc:=⟨_,rfl⟩
 have HG6:=Hd (show Calls Tryz.prog 73 #[.pointer (some ⟨rb,0,none⟩),.int .i64 256] w6 (RdQTo w2 rb w6 (I (qGroup 256 (qS2 s0)).1) (qGroup 256 (qS2 s0)).2)from r18Group_any w2 rb u5 (qS2 s0) 256 w6 HS5.out.rd)
 have HNE:=Hd (show qNd s0=(qGroup 256 (qS2 s0)).1 from rfl)
 have HSE:=Hd (show qS3 s0=(qGroup 256 (qS2 s0)).2 from rfl)
 have HNB:=Hd (qGroup_le 256 (qS2 s0))
 generalize qGroup 256 (qS2 s0)=g6 at*
 obtain⟨nd,s3⟩:=g6
 simp only at HG6 HNE HSE HNB
 go_upto_region 7 with(first
  |(go_at_call 73
    go_loud(
     with_reducible refine HG6.out.mono ?_
     rintro e w7 ⟨he,⟨u7,hs7⟩,hx⟩
     subst he
     have HS7:=Hd (HS5.out.step hs7 hx)
     clear hx hs7)))
 have hcc:=HS7.out.cert.cells
 obtain⟨b7,hb7⟩:∃b7,((vd:Int)==2)=b7:=⟨_,rfl⟩
 have HB7:=Hd hb7
 have HRC:=Hd (Nat.lt_succ_of_lt HS7.out.lt)
 go_upto_if 47 with(fail)
 clear hb7
 go_cut[] (fun wc=>Hid (CutC w2 rb cb (qS s0) (qCrt s0) wc))
 case first=>
  cases b7
  case' true=>
   have HVD:=Hd (show vd=2 by have h2:(vd:Int)=2:=(by simpa using HB7.out);omega)
   have HTE:=Hd (show qTr s0=qRow (qGroup 256 (rNum 4 (qS3 s0)).2).1 (qGroup 256 (rNum 4 (qS3 s0)).2).2 from rfl)
   have HCR:=Hd (show qCrt s0=crtL vd (BitVec.ofNat 32 (rNum 4 (qS3 s0)).1) (qTr s0).1 by unfold qCrt;rw[HVE.out,if_pos HVD.out,HVD.out])
   have HQS:=Hd (show qS s0=(qTr s0).2 by unfold qS;rw[HVE.out,if_pos HVD.out])
   rw[HSE.out]at HTE HCR
   have HC8:=Hd (show Calls Tryz.prog 72 #[.pointer (some ⟨rb,0,none⟩),.int .i64 4] w7 (RdQTo w2 rb w7 (I (rNum 4 s3).1) (rNum 4 s3).2)from r18Fixed_any w2 rb u7 s3 4 (by decide) w7 HS7.out.rd)
   generalize rNum 4 s3=g8 at*
   obtain⟨d,s4⟩:=g8
   simp only at HTE HC8 HCR
   have hwd:=wrap_u32_ofNat d
   generalize BitVec.ofNat 32 d=dest at*
   go_upto_region 9 with(first
    |(go_at_call 72
      go_loud(
       (with_reducible refine HC8.out.mono ?_)
       rintro e w8 ⟨he,⟨u8,hs8⟩,hx⟩
       subst he
       have HS8:=Hd (HS7.out.step hs8 hx)
       clear hx hs8 hcc
       have hcf:=HS8.out.cert.frozen
       have hcc:=HS8.out.cert.cells)))
   refine hWp (fun W=>QcS w2 rb cb W [I vd,.slice none 0 0,U dest,.slice none 0 0] u8 s4) (HS8.out.setC 2 _) (fun W9 hW9=>?_)
   clear HS8 HC8 HS7 hcf hcc
   have HS8:=Hd hW9
   clear hW9
   have HC9:=Hd (show Calls Tryz.prog 73 #[.pointer (some ⟨rb,0,none⟩),.int .i64 256] W9 (RdQTo w2 rb W9 (I (qGroup 256 s4).1) (qGroup 256 s4).2)from r18Group_any w2 rb u8 s4 256 W9 HS8.out.rd)
   have HM8:=Hd (qGroup_le 256 s4)
   generalize qGroup 256 s4=g9 at*
   obtain⟨m,s5⟩:=g9
   simp only at HTE HC9 HM8
   have HRW:=Hd (fun u W (h:RdQ w2 rb W u s5)=>r18Row_any w2 rb u s5 m (by have:=HM8.out;omega) W h)
   generalize qRow m s5=g10 at*
   obtain⟨tr,s6⟩:=g10
   rw[HTE.out]at HQS HCR
   simp only at HQS HCR
   go_wp2_with (first
    |(go_at_call 73
      go_loud(
       (with_reducible refine HC9.out.mono ?_)
       rintro e w10 ⟨he,⟨u10,hs10⟩,hx⟩
       subst he
       have HS10:=Hd (HS8.out.step hs10 hx)
       clear hx hs10))
    |(go_at_call 74
      go_loud(
       (with_reducible refine(HRW.out _ _ HS10.out.rd).mono ?_)
       rintro e w11 ⟨v11,he,ho,⟨u11,hs11⟩,hx⟩
       obtain⟨va11,vc11,hve,-⟩:=ho.ints.form
       subst hve
       subst he
       have HS11:=Hd (HS10.out.step hs11 hx)
       have HO11:=Hd (show OwnI w11 (cb+1) (.slice va11 (intsN tr).length vc11) (intsN tr)from own_low ho HS10.out.cert.lt)
       clear hx hs11 ho
       have hcf:=HS11.out.cert.frozen
       have hcc:=HS11.out.cert.cells)))
   go_meet
   case rel=>
    refine Hd ⟨u11,_,_,crtL vd dest tr,?_,(certOwn_trace vd dest HO11.out).setB (Nat.lt_succ_self _) 3 _,by rw[HCR.out];exact CrtEq.refl _⟩
    rw[HQS.out]
    exact HS11.out.setC 3 _
  case' false=>
   have HVD:=Hd (show¬vd=2 by have h2:¬(vd:Int)=2:=(by simpa using HB7.out);omega)
   have HPE:=Hd (show qPs s0=qList (qPart (qNd s0)) (qGroup 8193 (qS3 s0)).1 [] (qGroup 8193 (qS3 s0)).2 from rfl)
   have HCR:=Hd (show qCrt s0={crtP (qPs s0).1 with vd:=vd}by unfold qCrt;rw[HVE.out,if_neg HVD.out])
   have HQS:=Hd (show qS s0=(qPs s0).2 by unfold qS;rw[HVE.out,if_neg HVD.out])
   rw[HSE.out,HNE.out]at HPE
   have HC8:=Hd (show Calls Tryz.prog 73 #[.pointer (some ⟨rb,0,none⟩),.int .i64 8193] w7 (RdQTo w2 rb w7 (I (qGroup 8193 s3).1) (qGroup 8193 s3).2)from r18Group_any w2 rb u7 s3 8193 w7 HS7.out.rd)
   have HM8:=Hd (qGroup_le 8193 s3)
   generalize qGroup 8193 s3=g8 at*
   obtain⟨m,s4⟩:=g8
   simp only at HPE HC8 HM8
   have hm8:=HM8.out
   clear hcc
   go_upto_region 11 with(first
    |(go_at_call 73
      go_loud(
       (with_reducible refine HC8.out.mono ?_)
       rintro e w8 ⟨he,⟨u8,hs8⟩,hx⟩
       subst he
       have HS8:=Hd (HS7.out.step hs8 hx)
       clear hx hs8)))
   go_wp2_with fail
   go_loopw[11] (fun i wr=>∃(k:Nat) (acc:List PV) (s':RS) (u' v:Value),k<=m/\i=I k/\Hid (qList (qPart nd) m [] s4=qList (qPart nd) (m-k) acc s')/\Hid (acc.length=k)/\Hid (QcS w2 rb cb wr [I vd,v,U 0#32,.slice none 0 0] u' s')/\Hid (OwnPR wr (cb+1) v (acc.map pvV))) (fun i _=>m-(intOf i).toNat)
   case atStart=>exact⟨0,[],s4,_,_,Nat.zero_le _,rfl,Hd rfl,Hd rfl,HS8,Hd (OwnPR.nil _ _)⟩
   case round=>
    obtain⟨k,acc,s',u',v,hk,rfl,HR,HL,HT,HO⟩:=hrel
    have hrc:=HT.out.rd.rd.cells
    obtain⟨va,vc,hvf⟩:=HO.out.form
    rw[show(acc.map pvV).length=k by rw[List.length_map];exact HL.out]at hvf
    subst hvf
    have HAL:=Hd (show(acc.map pvV).length<=m by rw[List.length_map,HL.out];exact hk)
    by_cases hlt:k<m
    ·by_cases hz:s'.2=0
     ·have hzb:(s'.2==0)=true:=by simp[hz]
      have HRN:=Hd (qList_next (one:=qPart nd) (acc:=acc) hlt hz)
      have HF:=Hd (show qPart nd s'=(⟨BitVec.ofNat 32 (rNum 4 s').1,BitVec.ofNat 32 (rNum 4 (rNum 4 s').2).1,(qRow nd (rNum 4 (rNum 4 s').2).2).1⟩,(qRow nd (rNum 4 (rNum 4 s').2).2).2)from rfl)
      clear hz
      generalize qPart nd s'=g at HRN HF
      have HN1:=Hd (show Calls Tryz.prog 72 #[.pointer (some ⟨rb,0,none⟩),.int .i64 4] wr (RdQTo w2 rb wr (I (rNum 4 s').1) (rNum 4 s').2)from r18Fixed_any w2 rb u' s' 4 (by decide) wr HT.out.rd)
      generalize rNum 4 s'=g1 at*
      obtain⟨x,t1⟩:=g1
      simp only at HF HN1
      have hwx:=wrap_u32_ofNat x
      generalize BitVec.ofNat 32 x=fr at*
      go_upto_region 15 with(first
       |(go_at_call 72
         go_loud(
          with_reducible refine HN1.out.mono ?_
          rintro e wa ⟨he,⟨ua,hsa⟩,hx⟩
          subst he
          have HTA:=Hd (HT.out.step hsa hx)
          have HXA:=Hd hx
          clear hx hsa hrc)))
      refine hBk wa [U fr,U 0#32,.slice none 0 0] 85 (fun WB hWB=>?_)
      obtain⟨hxb,hbb⟩:=hWB
      have HTB:=Hd (HTA.out.later hxb)
      have HXB:=Hd (Rx.later HXA.out hxb)
      have HPB:=Hd hbb
      have HPC:=Hd (show cb<wa.heap.size from HTA.out.cert.lt)
      have HPR:=Hd (show rb<wa.heap.size from HTA.out.rd.rd.lt)
      have HPW:=Hd (show wr.heap.size<=wa.heap.size from World.grownBy.size HXA.out)
      clear hxb hbb
      generalize wa.heap.size=pb at*
      have HN2:=Hd (show Calls Tryz.prog 72 #[.pointer (some ⟨rb,0,none⟩),.int .i64 4] WB (RdQTo w2 rb WB (I (rNum 4 t1).1) (rNum 4 t1).2)from r18Fixed_any w2 rb ua t1 4 (by decide) WB HTB.out.rd)
      generalize rNum 4 t1=g2 at*
      obtain⟨y,t2⟩:=g2
      simp only at HF HN2
      have hwy:=wrap_u32_ofNat y
      generalize BitVec.ofNat 32 y=up at*
      go_upto_region 16 with(first
       |(go_at_call 72
         go_loud(
          with_reducible refine HN2.out.mono ?_
          rintro e wd ⟨he,⟨ud,hsd⟩,hx⟩
          subst he
          have HTD:=Hd (HTB.out.step hsd hx)
          have HXD:=Hd (Rx.trans HXB.out hx)
          have HPD:=Hd (Rx.blk hx HPB.out (Nat.ne_of_lt HPR.out))
          clear hx hsd
          have hpc:=HPD.out.cells
          have hpf:=HPD.out.frozen)))
      refine hWp (fun W=>QcS w2 rb cb W [I vd,.slice va k vc,U 0#32,.slice none 0 0] ud t2/\Rx rb wr W/\Blk W pb [U fr,U up,.slice none 0 0] 85)
       ⟨HTD.out.other (Nat.ne_of_gt HPR.out) (Nat.ne_of_gt HPC.out) (Nat.le_trans HTD.out.low (Nat.le_of_lt HPC.out)) 1 _,Rx.setNew HXD.out HPW.out 1 _,HPD.out.set 1 _⟩ (fun WE hWE=>?_)
      obtain⟨h1,h2,h3⟩:=hWE
      have HTE:=Hd h1
      have HXE:=Hd h2
      have HPE2:=Hd h3
      clear h1 h2 h3 hpc hpf HTD HXD HPD HTB HXB HPB HTA HXA
      have HN3:=Hd (r18Row_any w2 rb ud t2 nd (by have:=HNB.out;omega) WE HTE.out.rd)
      generalize qRow nd t2=g3 at*
      obtain⟨rk,t3⟩:=g3
      simp only at HF HN3
      go_upto_region 17 with(first
       |(go_at_call 74
         go_loud(
          (with_reducible refine HN3.out.mono ?_)
          rintro e wf ⟨vf,he,ho,⟨uf,hsf⟩,hx⟩
          obtain⟨fa,fc,hve,-⟩:=ho.ints.form
          subst hve
          subst he
          have HTF:=Hd (HTE.out.step hsf hx)
          have HXF:=Hd (Rx.trans HXE.out hx)
          have HPF:=Hd (Rx.blk hx HPE2.out (Nat.ne_of_lt HPR.out))
          have HOF:=Hd (show OwnI wf (cb+1) (.slice fa (intsN rk).length fc) (intsN rk)from own_low ho HTE.out.cert.lt)
          clear hx hsf ho
          have hpc:=HPF.out.cells
          have hpf:=HPF.out.frozen)))
      obtain⟨p2,hp2⟩:∃p2:Prt,p2=⟨fr,up,fa,(intsN rk).length,fc⟩:=⟨_,rfl⟩
      have HP2:=Hd hp2
      clear hp2
      refine hWp (fun W=>QcS w2 rb cb W [I vd,.slice va k vc,U 0#32,.slice none 0 0] uf t3/\Rx rb wr W/\Blk W pb [U p2.fr,U p2.up,p2.rk] 85/\OwnI W (cb+1) p2.rk (intsN rk))
       ⟨HTF.out.other (Nat.ne_of_gt HPR.out) (Nat.ne_of_gt HPC.out) (Nat.le_trans HTF.out.low (Nat.le_of_lt HPC.out)) 2 _,Rx.setNew HXF.out HPW.out 2 _,by rw[HP2.out];exact HPF.out.set 2 _,by rw[HP2.out];exact own_setB HOF.out HPF.out (by decide) 2 _⟩ (fun W3 hW3=>?_)
      obtain⟨h1,h2,h3,h4⟩:=hW3
      have hxc:=h3.cells
      have hcc:=h1.cert.cells
      have HY:=Hd ((eR W3).alloc (.cells p2.cells.toArray 85))
      have HSA:=Hd (h1.later HY.out)
      have HPA:=Hd (show p2.fr=fr/\p2.up=up/\OwnI (W3.alloc (.cells p2.cells.toArray 85)) (cb+1) p2.rk (intsN rk)from⟨by rw[HP2.out],by rw[HP2.out],own_later h4 HY.out⟩)
      have HXA:=Hd (Rx.later h2 HY.out)
      have HOA:=Hd ((Rx.ownPR h2 HO.out HRC.out).later HY.out)
      have HSRC:=Hd (Reads.made W3 3 85 1 p2.cells rfl (by unfold maxLen;omega))
      have HBS:=Hd (show cb+1<=(W3.alloc (.cells p2.cells.toArray 85)).heap.size from HSA.out.cert.lt)
      clear h1 h2 h3 h4 hpc hpf HTF HXF HPF HOF HTE HXE HPE2
      obtain⟨qp,hown,hql,hqs⟩:=HOA.out
      have HOWN:=Hd hown
      have HQL:=Hd hql
      have HQS2:=Hd hqs
      clear hown hql hqs
      go_wp2_with (first
       |(at_builtin
         refine wpList_app rfl _ _ 46 rfl (cb+1) 85 _ 3 32 Tryz.underlying46 infoPart rfl (by decide) (by decide) _ _ _ rfl HOWN.out _ _ _ rfl HSRC.out (fun q hq=>pcells_one [p2] q (by simpa[pcells]using hq)) (by have:=HAL.out;omega) HBS.out ?_
         intro v8 w8 ho8 hg8
         have HO8:=Hd (show OwnPR w8 (cb+1) v8 ((acc++[(⟨fr,up,rk⟩:PV)]).map pvV)from by
          rw[List.map_append]
          exact OwnPR.app (p:=p2) (q:=pvV ⟨fr,up,rk⟩) HOWN.out HQL.out HQS2.out ho8 hg8 HPA.out)
         have HS8':=Hd (HSA.out.grown HOWN.out hg8)
         obtain⟨a8,c8,hv8⟩:=HO8.out.form
         rw[List.length_map,List.length_append,List.length_singleton]at hv8
         subst hv8
         clear ho8 hg8 hcc hxc
         have hcc:=HS8'.out.cert.cells
         have hcf:=HS8'.out.cert.frozen))
      go_roundw
      case rel=>exact⟨k+1,acc++[⟨fr,up,rk⟩],t3,_,_,by omega,by go_num,Hd (by rw[HR.out,HRN.out,HF.out]),Hd (by rw[List.length_append,HL.out];rfl),Hd (HS8'.out.setC 1 _),Hd (HO8.out.setCell (p:=⟨cb,1,none⟩) (Nat.lt_succ_self _) _)⟩
      case measure=>simp[intOf];omega
     ·have HE:=Hd (show qPs s0=(acc,s')by rw[HPE.out,HR.out,qList_bad _ _ _ _ hz])
      have hzb:(s'.2==0)=false:=by simp[hz]
      clear hz
      go_wp2_with fail
      go_meet
      case rel=>exact Hd (by rw[HQS.out,HCR.out,HE.out];exact CutC.parts HT.out HO.out)
    ·have HE:=Hd (show qPs s0=(acc,s')by rw[HPE.out,HR.out,show m-k=0 by omega];rfl)
     have hkd:decide ((k:Int)<(m:Int))=false:=dF (by omega)
     go_wp2_with fail
     go_meet
     case rel=>exact Hd (by rw[HQS.out,HCR.out,HE.out];exact CutC.parts HT.out HO.out)
 case rest=>
 obtain⟨u9,pv9,tv9,c9,hs9,ho9,hq9⟩:=hcut.out
 have HS9:=Hd hs9
 have HO9:=Hd ho9
 have HQ9:=Hd hq9
 clear hs9 ho9 hq9 hcut hcc HS7 HB7
 obtain⟨w9,rfl⟩:∃w9:World,w9=wc:=⟨_,rfl⟩
 obtain⟨ya,yc,hyf,-⟩:=HS9.out.rd.now.form
 subst hyf
 obtain⟨pa9,pc9,hpf,-⟩:=HO9.out.at.parts.form
 obtain⟨ta9,tc9,htf,-⟩:=HO9.out.at.tr.form
 subst hpf
 subst htf
 have hrc:=HS9.out.rd.rd.cells
 have HEE:=Hd (show qEnd s0=if 0<(qS s0).1.length then rFail (qS s0) 4 else qS s0 from rfl)
 have HER:=Hd (show qErr s0=if(qEnd s0).2=0 then certMayV (qNd s0) (qCrt s0)else(qEnd s0).2 from rfl)
 generalize qS s0=s9 at*
 obtain⟨t9,z9⟩:=s9
 simp only at HEE hrc
 obtain⟨b4,hb4⟩:∃b,(z9==0)=b:=⟨_,rfl⟩
 obtain⟨b5,hb5⟩:∃b,decide ((0:Int)<(t9.length:Int))=b:=⟨_,rfl⟩
 have hbn:decide (0<t9.length)=b5:=by rw[<-hb5];exact decide_eq_decide.2 (by omega)
 have HB4:=Hd hb4
 have HB5:=Hd hb5
 have HB6:=Hd hbn
 have HE9:=Hd (show qEnd s0=if b4&&b5 then(t9,4)else(t9,z9)from by
  rw[HEE.out,<-hb4,<-hbn]
  by_cases k3:z9=0<;>by_cases k4:0<t9.length<;>simp[rFail,k3,k4])
 clear hb4 hb5 hbn HEE
 obtain⟨bq,hbq⟩:∃bq,(b4&&b5)=bq:=⟨_,rfl⟩
 rw[hbq]at HE9
 have HBQ:=Hd hbq
 clear hbq
 go_upto_region 18 with fail
 go_cut[101] (fun c wc=>c=.bool bq/\wc=w9)
 case first=>
  have hbq:=HBQ.out
  subst hbq
  have hb4:=HB4.out
  have hb5:=HB5.out
  have hb6:=HB6.out
  cases b4<;>cases b5
  all_goals
   go_wp2_with fail
   go_meet
  all_goals
   case rel=>exact⟨rfl,rfl⟩
 case rest=>
 obtain⟨rfl,hwc⟩:=hcut
 subst hwc
 clear HB4 HB5 HB6 HBQ
 have hrf:=HS9.out.rd.rd.frozen
 go_upto_if 101 with(fail)
 go_cut[] (fun wc=>Hid (∃u,QcS w2 rb cb wc [I c9.vd,.slice pa9 c9.ps.length pc9,U c9.dest,.slice ta9 c9.tr.length tc9] u (qEnd s0)/\CertOwn wc (cb+1) (.slice pa9 c9.ps.length pc9) (.slice ta9 c9.tr.length tc9) c9))
 case first=>
  cases bq
  ·have HE:=Hd (show qEnd s0=(t9,z9)by rw[HE9.out];rfl)
   go_wp2_with fail
   go_meet
   case rel=>exact Hd ⟨_,by rw[HE.out];exact HS9.out,HO9.out⟩
  ·have HE:=Hd (show qEnd s0=(t9,4)by rw[HE9.out];rfl)
   go_wp2_with fail
   go_meet
   case rel=>exact Hd ⟨_,by rw[HE.out];exact HS9.out.setE 4,HO9.out.setB HRC.out 1 _⟩
 case rest=>
 obtain⟨u11,hs11,ho11⟩:=hcut.out
 clear HS9 HO9 hcut hrc hrf HE9
 have HS11:=Hd hs11
 have HO11:=Hd ho11
 clear hs11 ho11
 obtain⟨wq,rfl⟩:∃wq:World,wq=wc:=⟨_,rfl⟩
 obtain⟨ya,yc,hyf,-⟩:=HS11.out.rd.now.form
 subst hyf
 generalize qEnd s0=s11 at*
 obtain⟨t11,z11⟩:=s11
 simp only at HER
 have hrc:=HS11.out.rd.rd.cells
 have hcc:=HS11.out.cert.cells
 simp only at hrc
 obtain⟨b2,hb2⟩:∃b2,(z11==0)=b2:=⟨_,rfl⟩
 have HBB:=Hd hb2
 go_upto_if 109 with(fail)
 clear hb2
 go_cut[] (fun wc=>Hid (∃u z,z=qErr s0/\QcS w2 rb cb wc [I c9.vd,.slice pa9 c9.ps.length pc9,U c9.dest,.slice ta9 c9.tr.length tc9] u (t11,z)/\CertOwn wc (cb+1) (.slice pa9 c9.ps.length pc9) (.slice ta9 c9.tr.length tc9) c9))
 case first=>
  cases b2
  ·have HE2:=Hd (show z11=qErr s0 by rw[HER.out,if_neg];simpa using HBB.out)
   go_wp2_with fail
   go_meet
   case rel=>exact Hd ⟨_,_,HE2.out,HS11.out,HO11.out⟩
  ·have HZ0:=Hd (show z11=0 by simpa using HBB.out)
   have HE2:=Hd (show certMayV nd c9=qErr s0 by rw[HER.out,if_pos HZ0.out,HNE.out,certMayV_congr HQ9.out])
   go_wp2_with (first
    |(go_at_call 55
      go_loud(
       (with_reducible refine(r17May_any _ _ c9 nd _ HO11.out.at).mono ?_)
       rintro e w13 ⟨he,hx13⟩
       subst he
       have HS13:=Hd (HS11.out.later hx13)
       have HO13:=Hd (HO11.out.later hx13)
       clear hx13 hrc hcc
       have hrf:=HS13.out.rd.rd.frozen
       have hrc:=HS13.out.rd.rd.cells)))
   go_meet
   case rel=>exact Hd ⟨_,_,HE2.out,HS13.out.setE _,HO13.out.setB HRC.out 1 _⟩
 case rest=>
 obtain⟨u14,z14,hz14,hs14,ho14⟩:=hcut.out
 have HS14:=Hd hs14
 have HO14:=Hd ho14
 have HZ14:=Hd hz14
 clear hs14 ho14 hz14 hrc hcc hcut HS11 HO11
 obtain⟨wp,rfl⟩:∃wp:World,wp=wc:=⟨_,rfl⟩
 have hrc:=HS14.out.rd.rd.cells
 have hcc:=HS14.out.cert.cells
 have HX14:=Hd (HX2.out.trans HS14.out.rd.ext)
 have HBO:=Hd (HB2.out.later HS14.out.rd.ext)
 have HLB:=Hd (Nat.lt_succ_of_lt (Nat.lt_trans HOB.out HS14.out.lt))
 have hcf:=HBO.out.frozen
 have hoc:=HBO.out.cells
 have hne1:¬ob=rb:=Nat.ne_of_lt HOB.out
 have hne2:¬rb=ob:=fun e=>hne1 e.symm
 have hne3:¬ob=cb:=Nat.ne_of_lt (Nat.lt_trans HOB.out HS14.out.lt)
 have hne4:¬cb=ob:=fun e=>hne3 e.symm
 by_cases hz:z14=0
 ·have hzb:(z14 !=0)=false:=by simp[hz]
  have HN2:=Hd (show certTake l=.ok (qCrt s0,nd)by rw[HN.out,if_neg (by rw[<-HZ14.out];simp[hz]),HNE.out])
  clear hz
  go_wp2_with fail
  refine hideW (Φ:=fun W=>bodyPost _ _ _ _ _ W) (fun W=>Ext w W/\Blk W ob [I c9.vd,.slice pa9 c9.ps.length pc9,U c9.dest,.slice ta9 c9.tr.length tc9] 49/\CertOwn W (cb+1) (.slice pa9 c9.ps.length pc9) (.slice ta9 c9.tr.length tc9) c9)
   ⟨ext_set4 HX14.out HOE.out _ _ _ _,blk_set4 HBO.out _ _ _ _,certOwn_set4 HO14.out HLB.out _ _ _ _⟩ (fun W15 hW15=>?_)
  obtain⟨hx15,hb15,ho15⟩:=hW15
  have hrc:=hb15.cells
  refine bodyPost_ret (v:=.tuple #[.agg #[I c9.vd,.slice pa9 c9.ps.length pc9,U c9.dest,.slice ta9 c9.tr.length tc9],I nd,I 0]) (by rw[results_cell_tmp2 rfl];go_simp) rfl ?_
  rw[HN2.out]
  exact⟨⟨_,_,_,rfl,ho15.at,HQ9.out⟩,hx15⟩
 ·have hzb:(z14 !=0)=true:=by simp[hz]
  have HN2:=Hd (show certTake l=.error z14 by rw[HN.out,if_pos (by rw[<-HZ14.out];exact hz),HZ14.out])
  have HZN:=Hd hz
  clear hz
  go_upto_region 23 with fail
  go_region
  go_wp2_with fail
  refine hideW (Φ:=fun W=>bodyPost _ _ _ _ _ W) (fun W=>Ext w W/\Blk W ob [I 0,.slice none 0 0,U 0#32,.slice none 0 0] 49)
   ⟨(ext_set4 HX14.out HOE.out _ _ _ _).drew,(blk_set4 HBO.out _ _ _ _).drew⟩ (fun W15 hW15=>?_)
  obtain⟨hx15,hb15⟩:=hW15
  have hrc:=hb15.cells
  refine bodyPost_ret (v:=.tuple #[.agg #[I 0,.slice none 0 0,U 0#32,.slice none 0 0],I 0,I z14]) (by rw[results_cell_tmp2 rfl];go_simp) rfl ?_
  rw[HN2.out]
  exact⟨⟨HZN.out,rfl⟩,hx15⟩
end Go.Proofs.YtjflkifodfncmaaGreatDoor
