/- CRdW, CLsW, CTakeW: these texts in one. Conditions: each theorem names its own. -/
import Derived.Test.YtjflkifodfncmaaGreatDoorGCrt
import Derived.Test.YtjflkifodfncmaaGreatDoorGNTk
namespace Go.Proofs.YtjflkifodfncmaaGreatDoor
set_option maxHeartbeats 16000000
set_option maxRecDepth 100000
open Go Go.RowKit Go.Maps Go.Proofs
abbrev Rx(rb:Nat)(w w':World):Prop:=w.grownBy w' (some rb)
theorem Rx.refl(rb:Nat)(w:World):Rx rb w w:=⟨rfl,rfl,rfl,Nat.le_refl _,fun _ _ _=>rfl⟩
theorem Rx.trans{rb:Nat}{a b c:World}(h:Rx rb a b)(k:Rx rb b c):Rx rb a c:=
 ⟨k.os.trans h.os,k.tape.trans h.tape,k.output.trans h.output,Nat.le_trans h.size k.size,fun i hi hn=>(k.block i (Nat.lt_of_lt_of_le hi h.size) hn).trans (h.block i hi hn)⟩
theorem Rx.ext{rb:Nat}{a b:World}(h:Ext a b):Rx rb a b:=⟨h.os,h.tape,h.output,h.size,fun i hi _=>Below.block h i hi⟩
theorem Rx.set{rb:Nat}{a b:World}(h:Rx rb a b)(i:Nat)(x:Value):Rx rb a (b.setCell ⟨rb,i,none⟩ x):=Rx.trans h (grown_set b ⟨rb,i,none⟩ x)
theorem Rx.outer{rb:Nat}{a w w':World}(h:Rx rb w w')(k:Ext a w)(hb:a.heap.size<=rb):Ext a w':=Below.grown k h k.size fun _ e=>by cases e;exact hb
theorem Rx.own{rb B n s:Nat}{e:TypeId}{w w':World}{v:Value}{xs:List Value}(h:Rx rb w w')(ho:w.ownsRow B e s v n xs)(hB:rb<B):w'.ownsRow B e s v n xs:=by
 obtain⟨h0,h1⟩:=ho
 refine⟨h0,?_⟩
 rcases h1 with h1|⟨g,cap,cur,h1,h2,h3,h4⟩
 ·exact .inl h1
 ·refine .inr ⟨g,cap,cur,h1,h2,?_,h4⟩
  have hg:g<w.heap.size:=by
   rcases Nat.lt_or_ge g w.heap.size with h'|h'
   ·exact h'
   ·simp[Array.getElem?_eq_none h']at h3
  rw[World.grownBy.block h g hg (fun e=>by cases e;omega),h3]
theorem Rx.ownPR{rb B:Nat}{w w':World}{v:Value}{qs:List PrtV}(h:Rx rb w w')(ho:OwnPR w B v qs)(hB:rb<B):OwnPR w' B v qs:=
 let⟨ps,h1,h2,h3⟩:=ho
 ⟨ps,Rx.own h h1 hB,h2,fun i q hi=>let⟨p,g1,g2,g3,g4⟩:=h3 i q hi;⟨p,g1,g2,g3,Rx.own h g4 hB⟩⟩
theorem Rx.blk{rb b:Nat}{w w':World}{cs:List Value}{T:TypeId}(h:Rx rb w w')(ho:Blk w b cs T)(hB:rb≠b):Blk w' b cs T:=by
 have h1:=World.grownBy.block h b ho.lt (fun e=>by cases e;exact hB rfl)
 unfold Blk at*
 rw[h1];exact ho
theorem Rx.grown{rb B n s:Nat}{e:TypeId}{a w w':World}{v:Value}{xs:List Value}(h:Rx rb a w)(ho:w.ownsRow B e s v n xs)(hB:a.heap.size<=B)(hg:w.grownBy w' v.ownBlock):Rx rb a w':=
 ⟨hg.os.trans h.os,hg.tape.trans h.tape,hg.output.trans h.output,Nat.le_trans h.size hg.size,fun i hi hn=>(hg.block i (Nat.lt_of_lt_of_le hi h.size) (fun e=>by have:=(ho.lt i e.symm).1;omega)).trans (h.block i hi hn)⟩
structure RdS(w0:World)(cb rb:Nat)(nd:Nat)(w:World)(u:Value)(s:RS):Prop where
 rd:Blk w rb [u,I nd,I s.2] 109
 bs:∀W,Rx cb w0 W->BsAt W u s.1
 ext:Rx cb w0 w
 lo:w0.heap.size<=rb
theorem Rx.setNew{rb p:Nat}{a b:World}(h:Rx rb a b)(hp:a.heap.size<=p)(i:Nat)(x:Value):Rx rb a (b.setCell ⟨p,i,none⟩ x):=
 ⟨h.os,h.tape,h.output,by have:=h.size;simpa using this,fun k hk hn=>by
   rw[<-World.grownBy.block h k hk hn]
   have:p≠k:=by omega
   simp[World.setCell,Array.getElem?_modify,this]⟩
theorem Rx.later{rb:Nat}{a b c:World}(h:Rx rb a b)(k:Ext b c):Rx rb a c:=Rx.trans h (Rx.ext k)
theorem RdS.later{w0 w w':World}{cb rb nd:Nat}{u:Value}{s:RS}(h:RdS w0 cb rb nd w u s)(hx:Ext w w'):RdS w0 cb rb nd w' u s:=⟨h.rd.later hx,h.bs,Rx.later h.ext hx,h.lo⟩
theorem RdS.grown{w0 w w':World}{cb rb nd B n k:Nat}{T:TypeId}{u v:Value}{s:RS}{xs:List Value}(h:RdS w0 cb rb nd w u s)(ho:w.ownsRow B T k v n xs)(hT:109≠T)(hB:rb<B)(hg:w.grownBy w' v.ownBlock):RdS w0 cb rb nd w' u s:=
 ⟨blk_grownT h.rd ho hT hg,h.bs,Rx.grown h.ext ho (Nat.le_trans h.lo (Nat.le_of_lt hB)) hg,h.lo⟩
theorem RdS.now{w0 w:World}{cb rb nd:Nat}{u:Value}{s:RS}(h:RdS w0 cb rb nd w u s):BsAt w u s.1:=h.bs w h.ext
theorem RdS.setE{w0 w:World}{cb rb nd:Nat}{u:Value}{s:RS}(h:RdS w0 cb rb nd w u s)(e:Int):RdS w0 cb rb nd (w.setCell ⟨rb,2,none⟩ (I e)) u (s.1,e):=⟨h.rd.set 2 _,h.bs,Rx.setNew h.ext h.lo _ _,h.lo⟩
theorem RdS.setN{w0 w:World}{cb rb nd:Nat}{u:Value}{s:RS}(h:RdS w0 cb rb nd w u s)(n:Nat):RdS w0 cb rb n (w.setCell ⟨rb,1,none⟩ (I n)) u s:=⟨h.rd.set 1 _,h.bs,Rx.setNew h.ext h.lo _ _,h.lo⟩
theorem RdS.setB{w0 w:World}{cb rb nd:Nat}{u u':Value}{s:RS}{l:List Byt}(h:RdS w0 cb rb nd w u s)(hu:∀W,Rx cb w0 W->BsAt W u' l):RdS w0 cb rb nd (w.setCell ⟨rb,0,none⟩ u') u' (l,s.2):=⟨h.rd.set 0 _,hu,Rx.setNew h.ext h.lo _ _,h.lo⟩
theorem RdS.setC{w0 w:World}{cb rb nd:Nat}{u:Value}{s:RS}(h:RdS w0 cb rb nd w u s)(hne:cb≠rb)(i:Nat)(x:Value):RdS w0 cb rb nd (w.setCell ⟨cb,i,none⟩ x) u s:=⟨h.rd.other hne x,h.bs,Rx.set h.ext i x,h.lo⟩
theorem RdS.other{w0 w:World}{cb rb nd p:Nat}{u:Value}{s:RS}(h:RdS w0 cb rb nd w u s)(hp:p≠rb)(hw:w0.heap.size<=p)(i:Nat)(x:Value):RdS w0 cb rb nd (w.setCell ⟨p,i,none⟩ x) u s:=⟨h.rd.other hp x,h.bs,Rx.setNew h.ext hw _ _,h.lo⟩
def RdTo(w0:World)(cb rb nd:Nat)(W:World)(v:Value)(s:RS)(e:Ending)(w':World):Prop:=e=.returned v/\(∃u',RdS w0 cb rb nd w' u' s)/\Rx rb W w'
theorem bs_cut{w0:World}{a:Option Addr}{n cap j:Nat}{l:List Byt}(h:BsAt w0 (.slice a n cap) l)(hj:j<=n):
 BsAt w0 (.slice (if cap=j then a else Option.map (fun x=>x.add j) a) (n-j) (cap-j)) (l.drop j):=by
 have h1:=h.dropN hj
 unfold sliced at h1
 rw[Nat.mul_one]at h1
 exact h1
theorem readerFail_any(w0:World)(cb rb nd:Nat)(u:Value)(s:RS)(z:Int)(w:World)(h:RdS w0 cb rb nd w u s):
 Calls Tryz.prog 64 #[.pointer (some ⟨rb,0,none⟩),I z] w (RdTo w0 cb rb nd w (.tuple #[]) (rFail s z)):=by
 have HS:=Hd h
 have hc:=h.rd.cells
 have hf:=h.rd.frozen
 clear h
 by_cases hz:s.2=0
 ·have hzb:(s.2==0)=true:=by simp[hz]
  have HF:=Hd (show rFail s z=(s.1,z)by unfold rFail;rw[if_pos hz])
  clear hz
  go_enter Tryz.func64,Tryz.ntmps64
  go_wp2_with fail
  go_end0
  rw[HF.out]
  exact⟨rfl,⟨_,HS.out.setE z⟩,(Rx.refl _ _).set _ _⟩
 ·have hzb:(s.2==0)=false:=by simp[hz]
  have HF:=Hd (show rFail s z=s by unfold rFail;rw[if_neg hz])
  clear hz
  go_enter Tryz.func64,Tryz.ntmps64
  go_wp2_with fail
  go_end0
  rw[HF.out]
  exact⟨rfl,⟨_,HS.out⟩,Rx.refl _ _⟩
theorem readerNum_any(w0:World)(cb rb nd:Nat)(u:Value)(s:RS)(k:Nat)(hk:k=1\/k=2\/k=4)(w:World)(h:RdS w0 cb rb nd w u s):
 Calls Tryz.prog 63 #[.pointer (some ⟨rb,0,none⟩),I k] w (RdTo w0 cb rb nd w (I (rNum k s).1) (rNum k s).2):=by
 have HS:=Hd h
 have hc:=h.rd.cells
 have hf:=h.rd.frozen
 obtain⟨a,cap,rfl,c1,c2,-⟩:=h.now.form
 clear h
 unfold maxLen at c2
 by_cases hz:s.2=0
 ·have hzb:(s.2 !=0)=false:=by simp[hz]
  have HZ:=Hd hz
  have HN:=Hd (show∀w',Rx cb w0 w'->Calls Tryz.prog 123 #[.slice a s.1.length cap,I k] w' fun e w2=>e=.returned (.tuple #[I (numTake s.1 k).1,I (numTake s.1 k).2])/\Ext w' w2 from fun w' hx=>numTake_any _ s.1 k hk w' (HS.out.bs _ hx))
  clear hz
  by_cases hl:s.1.length<k
  ·have HF:=Hd (show rNum k s=(0,(s.1,2))by unfold rNum;rw[if_neg (by simp[HZ.out]),if_pos hl])
   have HT:=Hd (show numTake s.1 k=(0,2)by unfold numTake;rw[if_neg (by omega),if_pos (by omega)])
   go_enter Tryz.func63,Tryz.ntmps63
   go_wp2_with (first
    |(go_at_call 123;(with_reducible refine(HN.out _ HS.out.ext).mono ?_);rintro e w2 ⟨he,hx⟩;rw[HT.out]at he;subst he;have HX:=Hd hx;have HS2:=Hd (HS.out.later hx);clear hx hc hf;have hc:=HS2.out.rd.cells;have hf:=HS2.out.rd.frozen))
   go_ret
   rw[HF.out]
   exact⟨rfl,⟨_,HS2.out.setE 2⟩,(Rx.ext HX.out).set _ _⟩
  ·have HF:=Hd (show rNum k s=(deN (s.1.take k),(s.1.drop k,0))by unfold rNum;rw[if_neg (by simp[HZ.out]),if_neg hl])
   have HT:=Hd (show numTake s.1 k=(((deN (s.1.take k):Nat):Int),0)by unfold numTake;rw[if_neg (by omega),if_neg (by omega),Int.toNat_natCast])
   have HD:=Hd (fun W (hW:Rx cb w0 W)=>bs_cut (HS.out.bs W hW) (show k<=s.1.length by omega))
   have hkl:(k:Int)<=(s.1.length:Int):=by omega
   have hlc:(s.1.length:Int)<=(cap:Int):=by omega
   go_enter Tryz.func63,Tryz.ntmps63
   go_upto_region 8 with(first
    |(go_at_call 123;(with_reducible refine(HN.out _ HS.out.ext).mono ?_);rintro e w2 ⟨he,hx⟩;rw[HT.out]at he;subst he;have HX:=Hd hx;have HS2:=Hd (HS.out.later hx);clear hx hc hf;have hc:=HS2.out.rd.cells;have hf:=HS2.out.rd.frozen))
   generalize (if cap=k then a else Option.map (fun x=>x.add k) a)=va at*
   go_wp2_with fail
   go_ret
   rw[HF.out]
   have h9:=HS2.out.setB HD.out
   rw[HZ.out]at h9
   exact⟨rfl,⟨_,h9⟩,(Rx.ext HX.out).set _ _⟩
 ·have hzb:(s.2 !=0)=true:=by simp[hz]
  have HF:=Hd (show rNum k s=(0,s)by unfold rNum;rw[if_pos hz])
  clear hz
  go_enter Tryz.func63,Tryz.ntmps63
  go_wp2_with fail
  go_ret
  rw[HF.out]
  exact⟨rfl,⟨_,HS.out⟩,Rx.refl _ _⟩
theorem readerGroup_any(w0:World)(cb rb nd:Nat)(u:Value)(s:RS)(w:World)(h:RdS w0 cb rb nd w u s):
 Calls Tryz.prog 68 #[.pointer (some ⟨rb,0,none⟩)] w (RdTo w0 cb rb nd w (I (rGroup s).1) (rGroup s).2):=by
 have HS:=Hd h
 have hc:=h.rd.cells
 have hf:=h.rd.frozen
 obtain⟨a,cap,rfl,c1,c2,-⟩:=h.now.form
 clear h
 unfold maxLen at c2
 by_cases hz:s.2=0
 ·have hzb:(s.2 !=0)=false:=by simp[hz]
  have HZ:=Hd hz
  have HN:=Hd (show∀w',Rx cb w0 w'->Calls Tryz.prog 87 #[.slice a s.1.length cap] w' fun e w2=>e=.returned (.tuple #[I ((gtake s.1).1:Nat),I ((gtake s.1).2.1:Nat),I (gtake s.1).2.2])/\Ext w' w2 from fun w' hx=>groupTake_any _ s.1 w' (HS.out.bs _ hx))
  clear hz
  by_cases hg:(gtake s.1).2.2=0
  ·obtain⟨hu,-⟩:=gtake_used hg
   have HF:=Hd (show rGroup s=((gtake s.1).1,(s.1.drop (gtake s.1).2.1,0))by unfold rGroup;rw[if_neg (by simp[HZ.out]),if_neg (by simp[hg])])
   have HT:=Hd hg
   have HD:=Hd (fun W (hW:Rx cb w0 W)=>bs_cut (HS.out.bs W hW) hu)
   have hkl:((gtake s.1).2.1:Int)<=(s.1.length:Int):=by omega
   have hlc:(s.1.length:Int)<=(cap:Int):=by omega
   clear hg hu
   generalize gtake s.1=g at*
   obtain⟨g1,g2,g3⟩:=g
   simp only at HF HT HD hkl HN
   go_enter Tryz.func68,Tryz.ntmps68
   go_upto_region 8 with(first
    |(go_at_call 87;(with_reducible refine(HN.out _ HS.out.ext).mono ?_);rintro e w2 ⟨he,hx⟩;rw[HT.out]at he;subst he;have HX:=Hd hx;have HS2:=Hd (HS.out.later hx);clear hx hc hf;have hc:=HS2.out.rd.cells;have hf:=HS2.out.rd.frozen))
   generalize (if cap=g2 then a else Option.map (fun x=>x.add g2) a)=va at*
   go_wp2_with fail
   go_ret
   rw[HF.out]
   have h9:=HS2.out.setB HD.out
   rw[HZ.out]at h9
   exact⟨rfl,⟨_,h9⟩,(Rx.ext HX.out).set _ _⟩
  ·have HF:=Hd (show rGroup s=(0,(s.1,(gtake s.1).2.2))by unfold rGroup;rw[if_neg (by simp[HZ.out]),if_pos hg])
   have hgb:((gtake s.1).2.2 !=0)=true:=by simp[hg]
   clear hg
   generalize gtake s.1=g at*
   obtain⟨g1,g2,g3⟩:=g
   simp only at HF hgb HN
   go_enter Tryz.func68,Tryz.ntmps68
   go_wp2_with (first
    |(go_at_call 87;(with_reducible refine(HN.out _ HS.out.ext).mono ?_);rintro e w2 ⟨he,hx⟩;subst he;have HX:=Hd hx;have HS2:=Hd (HS.out.later hx);clear hx hc hf;have hc:=HS2.out.rd.cells;have hf:=HS2.out.rd.frozen))
   go_ret
   rw[HF.out]
   exact⟨rfl,⟨_,HS2.out.setE _⟩,(Rx.ext HX.out).set _ _⟩
 ·have hzb:(s.2 !=0)=true:=by simp[hz]
  have HF:=Hd (show rGroup s=(0,s)by unfold rGroup;rw[if_pos hz])
  clear hz
  go_enter Tryz.func68,Tryz.ntmps68
  go_wp2_with fail
  go_ret
  rw[HF.out]
  exact⟨rfl,⟨_,HS.out⟩,Rx.refl _ _⟩
theorem rGroup_lt(s:RS):(rGroup s).1<268435456:=by
 unfold rGroup
 split
 ·exact Nat.succ_pos _
 ·split
  ·exact Nat.succ_pos _
  ·rename_i h1 h2
   exact(gtake_used (Classical.not_not.1 h2)).2
theorem readerCount_any(w0:World)(cb rb nd:Nat)(u:Value)(s:RS)(most:Nat)(w:World)(h:RdS w0 cb rb nd w u s):
 Calls Tryz.prog 65 #[.pointer (some ⟨rb,0,none⟩),I most] w (RdTo w0 cb rb nd w (I (rCount most s).1) (rCount most s).2):=by
 have HS:=Hd h
 have HG:=Hd (readerGroup_any w0 cb rb nd u s w h)
 have HB:=Hd (rGroup_lt s)
 clear h
 by_cases hl:most<(rGroup s).1
 ·have HF:=Hd (show rCount most s=(0,rFail (rGroup s).2 12)by unfold rCount;rw[if_pos hl])
  have hd:decide ((most:Int)<((rGroup s).1:Int))=true:=dT (by omega)
  generalize rGroup s=g at*
  go_enter Tryz.func65,Tryz.ntmps65
  go_wp2_with (first
   |(go_at_call 68;(with_reducible refine HG.out.mono ?_);rintro e w2 ⟨he,⟨u2,hs2⟩,hx⟩;subst he;have HX:=Hd hx;have HS2:=Hd hs2;clear hx hs2)
   |(go_at_call 64;(with_reducible refine(readerFail_any w0 cb rb nd u2 g.2 12 _ HS2.out).mono ?_);rintro e w3 ⟨he,⟨u3,hs3⟩,hx⟩;subst he;have HX3:=Hd (Rx.trans HX.out hx);have HS3:=Hd hs3;clear hx hs3))
  go_ret
  rw[HF.out]
  exact⟨rfl,⟨_,HS3.out⟩,HX3.out⟩
 ·have HF:=Hd (show rCount most s=rGroup s by unfold rCount;rw[if_neg hl])
  have hd:decide ((most:Int)<((rGroup s).1:Int))=false:=dF (by omega)
  generalize rGroup s=g at*
  go_enter Tryz.func65,Tryz.ntmps65
  go_wp2_with (first
   |(go_at_call 68;(with_reducible refine HG.out.mono ?_);rintro e w2 ⟨he,⟨u2,hs2⟩,hx⟩;subst he;have HX:=Hd hx;have HS2:=Hd hs2;clear hx hs2))
  go_ret
  rw[HF.out]
  exact⟨rfl,⟨_,HS2.out⟩,HX.out⟩
theorem readerNum4_any(w0:World)(cb rb nd:Nat)(u:Value)(s:RS)(w:World)(h:RdS w0 cb rb nd w u s):
 Calls Tryz.prog 63 #[.pointer (some ⟨rb,0,none⟩),.int .i64 4] w (RdTo w0 cb rb nd w (I (rNum 4 s).1) (rNum 4 s).2):=readerNum_any w0 cb rb nd u s 4 (by decide) w h
theorem readerNum1_any(w0:World)(cb rb nd:Nat)(u:Value)(s:RS)(w:World)(h:RdS w0 cb rb nd w u s):
 Calls Tryz.prog 63 #[.pointer (some ⟨rb,0,none⟩),.int .i64 1] w (RdTo w0 cb rb nd w (I (rNum 1 s).1) (rNum 1 s).2):=readerNum_any w0 cb rb nd u s 1 (by decide) w h
theorem readerCountP_any(w0:World)(cb rb nd:Nat)(u:Value)(s:RS)(w:World)(h:RdS w0 cb rb nd w u s):
 Calls Tryz.prog 65 #[.pointer (some ⟨rb,0,none⟩),.int .i64 8193] w (RdTo w0 cb rb nd w (I (rCount 8193 s).1) (rCount 8193 s).2):=readerCount_any w0 cb rb nd u s 8193 w h
theorem readerCountN_any(w0:World)(cb rb nd:Nat)(u:Value)(s:RS)(w:World)(h:RdS w0 cb rb nd w u s):
 Calls Tryz.prog 65 #[.pointer (some ⟨rb,0,none⟩),.int .i64 256] w (RdTo w0 cb rb nd w (I (rCount 256 s).1) (rCount 256 s).2):=readerCount_any w0 cb rb nd u s 256 w h
theorem rList_next{α:Type}{one:RS->α × RS}{n k:Nat}{acc:List α}{s:RS}(hk:k<n)(h:¬(one s).2.2≠0):rList one (n-k) acc s=rList one (n-(k+1)) (acc++[(one s).1]) (one s).2:=by
 obtain⟨d,hd⟩:∃d,n-k=d+1:=⟨n-k-1,by omega⟩
 rw[hd,show n-(k+1)=d by omega]
 conv=>lhs;unfold rList
 rw[if_neg h]
theorem rList_bad{α:Type}{one:RS->α × RS}{n k:Nat}{acc:List α}{s:RS}(hk:k<n)(h:(one s).2.2≠0):rList one (n-k) acc s=([],(one s).2):=by
 obtain⟨d,hd⟩:∃d,n-k=d+1:=⟨n-k-1,by omega⟩
 rw[hd]
 conv=>lhs;unfold rList
 rw[if_pos h]
theorem intsN_snoc(l:List Nat)(x:Nat):intsN (l++[x])=intsN l++[(x:Int)]:=by simp[intsN]
theorem intsN_len(l:List Nat):(intsN l).length=l.length:=by simp[intsN]
def ListTo(w0:World)(cb rb nd:Nat)(W:World)(r:List Nat × RS)(e:Ending)(w':World):Prop:=
 ∃v,e=.returned v/\OwnI w' W.heap.size v (intsN r.1)/\(∃u',RdS w0 cb rb nd w' u' r.2)/\Rx rb W w'
theorem Rx.ownI{rb B:Nat}{w w':World}{v:Value}{l:List Int}(h:Rx rb w w')(ho:OwnI w B v l)(hB:rb<B):OwnI w' B v l:=Rx.own h ho hB
theorem ownI_nil(w:World)(B:Nat):OwnI w B (.slice none 0 0) []:=⟨by simp[icells],.inl ⟨rfl,rfl⟩⟩
theorem listInt_any(w0:World)(cb rb nd:Nat)(u:Value)(s:RS)(n:Nat)(hn:n<=1000000)(w:World)(h:RdS w0 cb rb nd w u s):
 Calls Tryz.prog 69 #[.agg #[fnV 68],.pointer (some ⟨rb,0,none⟩),I n] w (ListTo w0 cb rb nd w (rList rGroup n [] s)):=by
 have HS:=Hd h
 clear h
 go_enter Tryz.func69,Tryz.ntmps69
 go_upto_region 1 with fail
 refine hBk w [fnV 68] 120 (fun W1 hW1=>?_)
 obtain⟨hx1,hb1⟩:=hW1
 have HX1:=Hd hx1
 have HB1:=Hd hb1
 have HS1:=Hd (HS.out.later hx1)
 have HXB:=Hd (show rb≠w.heap.size from Nat.ne_of_lt HS.out.rd.lt)
 have HRB:=Hd (Nat.lt_of_lt_of_le HS.out.rd.lt HX1.out.size)
 have HXX:=Hd (Rx.ext (rb:=rb) HX1.out)
 clear hx1 hb1
 generalize hxb:w.heap.size=xb at*
 clear hxb
 go_wp2_with fail
 go_loopw[7,10] (fun v i wr=>∃(k:Nat) (acc:List Nat) (s':RS) (u':Value),k<=n/\i=I k/\Hid (rList rGroup n [] s=rList rGroup (n-k) acc s')/\Hid (acc.length=k)/\Hid (RdS w0 cb rb nd wr u' s')/\Hid (OwnI wr W1.heap.size v (intsN acc))/\Hid (Rx rb W1 wr)) (fun _ i _=>n-(intOf i).toNat)
 case atStart=>exact⟨0,[],s,_,by omega,rfl,rfl,rfl,HS1,Hd (ownI_nil _ _),Hd (Rx.refl _ _)⟩
 case round=>
  obtain⟨k,acc,s',u',hk,rfl,HR,HL,HT,HO,HX⟩:=hrel
  have HB:=Hd (Rx.blk HX.out HB1.out HXB.out)
  have hxc:=HB.out.cells
  have HON:=Hd (readerGroup_any w0 cb rb nd u' s' wr HT.out)
  obtain⟨va,vc,hvf,-⟩:=HO.out.ints.form
  rw[show(intsN acc).length=k by rw[intsN_len];exact HL.out]at hvf
  subst hvf
  have HAL:=Hd (show(intsN acc).length<=n by rw[intsN_len,HL.out];exact hk)
  by_cases hlt:k<n
  ·by_cases hz:(rGroup s').2.2=0
   ·have HRN:=Hd (rList_next (acc:=acc) hlt (show¬(rGroup s').2.2≠0 by simp[hz]))
    have hzb:((rGroup s').2.2 !=0)=false:=by simp[hz]
    clear hz
    generalize rGroup s'=g at*
    obtain⟨x,t⟩:=g
    simp only at HRN hzb HON
    go_upto_region 5 with(first
     |(go_at_call 68
       go_loud(
        with_reducible refine HON.out.mono ?_
        rintro e w2 ⟨he,⟨u2,hs2⟩,hx⟩
        subst he
        have HX2:=Hd (Rx.trans HX.out hx)
        have HS2:=Hd hs2
        have HO2:=Hd (Rx.ownI hx HO.out HRB.out)
        clear hx hs2 hxc)))
    have hrc:=HS2.out.rd.cells
    have HSC:=Hd (Reads.made w2 1 3 1 [I x] rfl (by unfold maxLen;omega))
    have HOA:=Hd (show OwnI (w2.alloc (.cells #[I x] 3)) W1.heap.size _ (intsN acc)from HO2.out.later ((eR w2).alloc _))
    have HSA:=Hd (HS2.out.later ((eR w2).alloc (.cells #[I x] 3)))
    have HXA:=Hd (Rx.trans HX2.out (Rx.ext ((eR w2).alloc (.cells #[I x] 3))))
    go_wp2_with (first
     |(at_builtin;refine wpList_app rfl (.tmp 21) (.tmp 23) 47 rfl W1.heap.size 3 _ 1 8 Tryz.underlying47 infoInt rfl (by decide) (by decide) _ _ _ rfl HOA.out _ _ _ rfl HSC.out (icells_one [(x:Int)]) (by have:=HAL.out;omega) HXA.out.size ?_
       intro v8 w8 ho8 hg8
       have HO8:=Hd (show OwnI w8 W1.heap.size v8 (intsN (acc++[x]))from by rw[intsN_snoc];unfold OwnI;rw[icells_app,List.length_append];exact ho8)
       have HS8:=Hd (HSA.out.grown HOA.out (by decide) HRB.out hg8)
       have HY8:=Hd (Rx.grown HXA.out HOA.out (Nat.le_refl _) hg8)
       clear ho8 hg8))
    go_roundw
    case rel=>exact⟨k+1,acc++[x],t,_,by omega,by go_num,Hd (HR.out.trans HRN.out),Hd (by rw[List.length_append,HL.out];rfl),HS8,HO8,HY8⟩
    case measure=>simp[intOf];omega
   ·have HRN:=Hd (rList_bad (acc:=acc) hlt hz)
    have hzb:((rGroup s').2.2 !=0)=true:=by simp[hz]
    clear hz
    generalize rGroup s'=g at*
    obtain⟨x,t⟩:=g
    simp only at HRN hzb HON
    go_upto_region 5 with(first
     |(go_at_call 68;(with_reducible refine HON.out.mono ?_);rintro e w2 ⟨he,⟨u2,hs2⟩,hx⟩;subst he;have HX2:=Hd (Rx.trans HX.out hx);have HS2:=Hd hs2;clear hx hs2 hxc))
    have hrc:=HS2.out.rd.cells
    go_wp2_with fail
    go_ret
    rw[HR.out,HRN.out]
    exact⟨_,rfl,ownI_nil _ _,⟨_,HS2.out⟩,Rx.trans HXX.out HX2.out⟩
  ·obtain rfl:k=n:=by omega
   have HE:=Hd (show rList rGroup k [] s=(acc,s')by rw[HR.out,Nat.sub_self];rfl)
   go_wp2_with fail
   go_ret
   rw[HE.out]
   exact⟨_,rfl,own_low HO.out HX1.out.size,⟨_,HT.out⟩,Rx.trans HXX.out HX.out⟩
theorem wrap_u32_ofNat(n:Nat):IntKind.u32.wrap (n:Int)=uv (BitVec.ofNat 32 n):=by
 rw[IntKind.wrap_u32'];unfold uv;simp
def PartTo(w0:World)(cb rb nd:Nat)(W:World)(r:PV × RS)(e:Ending)(w':World):Prop:=
 ∃p:Prt,e=.returned p.val/\p.fr=r.1.fr/\p.up=r.1.up/\OwnI w' W.heap.size p.rk (intsN r.1.rk)/\(∃u',RdS w0 cb rb nd w' u' r.2)/\Rx rb W w'
theorem readerPart_any(w0:World)(cb rb nd:Nat)(u:Value)(s:RS)(hn:nd<=1000000)(w:World)(h:RdS w0 cb rb nd w u s):
 Calls Tryz.prog 66 #[.pointer (some ⟨rb,0,none⟩)] w (PartTo w0 cb rb nd w (rPart nd s)):=by
 have HS:=Hd h
 clear h
 go_enter Tryz.func66,Tryz.ntmps66
 go_upto_region 1 with fail
 refine hBk w [U 0#32,U 0#32,.slice none 0 0] 85 (fun W1 hW1=>?_)
 obtain⟨hx1,hb1⟩:=hW1
 have HX1:=Hd (Rx.ext (rb:=rb) hx1)
 have HB1:=Hd hb1
 have HS1:=Hd (HS.out.later hx1)
 have HPN:=Hd (show w.heap.size≠rb from(Nat.ne_of_lt HS.out.rd.lt).symm)
 have HPL:=Hd (show w0.heap.size<=w.heap.size from World.grownBy.size HS.out.ext)
 have HF:=Hd (show rPart nd s=(⟨BitVec.ofNat 32 (rNum 4 s).1,BitVec.ofNat 32 (rNum 4 (rNum 4 s).2).1,(rList rGroup nd [] (rNum 4 (rNum 4 s).2).2).1⟩,(rList rGroup nd [] (rNum 4 (rNum 4 s).2).2).2)from rfl)
 clear hx1 hb1
 generalize hpb:w.heap.size=pb at*
 have HPS:=Hd (show w.heap.size<=pb from Nat.le_of_eq hpb)
 clear hpb
 have HN1:=Hd (readerNum4_any w0 cb rb nd u s W1 HS1.out)
 generalize rNum 4 s=g1 at*
 obtain⟨x,s2⟩:=g1
 simp only at HF HN1
 have hwx:=wrap_u32_ofNat x
 generalize BitVec.ofNat 32 x=fr at*
 go_upto_region 2 with(first
  |(go_at_call 63;(with_reducible refine HN1.out.mono ?_);rintro e w2 ⟨he,⟨u2,hs2⟩,hx⟩;subst he;have HX2:=Hd (Rx.trans HX1.out hx);have HS2:=Hd hs2;have HB2:=Hd (Rx.blk hx HB1.out HPN.out.symm);clear hx hs2))
 have HN2:=Hd (readerNum4_any w0 cb rb nd u2 s2 w2 HS2.out)
 generalize rNum 4 s2=g2 at*
 obtain⟨y,s3⟩:=g2
 simp only at HF HN2
 have hwy:=wrap_u32_ofNat y
 generalize BitVec.ofNat 32 y=up at*
 go_upto_region 3 with(first
  |(go_at_call 63;(with_reducible refine HN2.out.mono ?_);rintro e w3 ⟨he,⟨u3,hs3⟩,hx⟩;subst he;have HX3:=Hd (Rx.trans HX2.out hx);have HS3:=Hd hs3;have HB3:=Hd (Rx.blk hx HB2.out HPN.out.symm);clear hx hs3))
 have hrc:=HS3.out.rd.cells
 have HN3:=Hd (listInt_any w0 cb rb nd u3 s3 nd hn w3 HS3.out)
 generalize rList rGroup nd [] s3=g3 at*
 obtain⟨rk,s4⟩:=g3
 simp only at HF HN3
 go_wp2_with (first
  |(go_at_call 69;(with_reducible refine HN3.out.mono ?_);rintro e w4 ⟨v4,he,ho,⟨u4,hs4⟩,hx⟩;obtain⟨va,vc,hve,-⟩:=ho.ints.form;subst hve;subst he;have HX4:=Hd (Rx.trans HX3.out hx);have HS4:=Hd hs4;have HO4:=Hd (own_low ho HX3.out.size);have HB4:=Hd (Rx.blk hx HB3.out HPN.out.symm);clear hx hs4 ho hrc;have hpc:=HB4.out.cells;have hpf:=HB4.out.frozen))
 refine hideW (Φ:=fun W=>bodyPost _ _ _ _ _ W) (fun W=>RdS w0 cb rb nd W u4 s4/\Blk W pb [U fr,U up,.slice va (intsN rk).length vc] 85/\OwnI W w.heap.size (.slice va (intsN rk).length vc) (intsN rk)/\Rx rb w W)
  ⟨((HS4.out.other HPN.out HPL.out 0 _).other HPN.out HPL.out 1 _).other HPN.out HPL.out 2 _,((HB4.out.set 0 _).set 1 _).set 2 _,own_setB (own_setB (own_setB HO4.out HB4.out (by decide) 0 _) (HB4.out.set 0 _) (by decide) 1 _) ((HB4.out.set 0 _).set 1 _) (by decide) 2 _,Rx.setNew (Rx.setNew (Rx.setNew HX4.out HPS.out 0 _) HPS.out 1 _) HPS.out 2 _⟩ (fun W9 hW9=>?_)
 obtain⟨hs9,hb9,ho9,hx9⟩:=hW9
 have hpc:=hb9.cells
 refine bodyPost_ret (v:=.agg #[U fr,U up,.slice va (intsN rk).length vc]) (by rw[results_cell1 rfl];go_simp) rfl ?_
 rw[HF.out]
 exact⟨⟨fr,up,va,(intsN rk).length,vc⟩,rfl,rfl,rfl,ho9,⟨_,hs9⟩,hx9⟩
def pvV(p:PV):PrtV:=⟨p.fr,p.up,intsN p.rk⟩
def ListPTo(w0:World)(cb rb nd:Nat)(W:World)(r:List PV × RS)(e:Ending)(w':World):Prop:=
 ∃v,e=.returned v/\OwnPR w' W.heap.size v (r.1.map pvV)/\(∃u',RdS w0 cb rb nd w' u' r.2)/\Rx rb W w'
theorem OwnPR.form{w:World}{B:Nat}{v:Value}{qs:List PrtV}(h:OwnPR w B v qs):∃a cap,v=.slice a qs.length cap:=by
 obtain⟨ps,h1,-⟩:=h
 obtain⟨-,a,cap,h2,-⟩:=Reads.of_own h1
 exact⟨a,cap,h2⟩
theorem listPart_any(w0:World)(cb rb nd:Nat)(u:Value)(s:RS)(n:Nat)(hn:n<=1000000)(hnd:nd<=1000000)(w:World)(h:RdS w0 cb rb nd w u s):
 Calls Tryz.prog 67 #[.agg #[fnV 66],.pointer (some ⟨rb,0,none⟩),I n] w (ListPTo w0 cb rb nd w (rList (rPart nd) n [] s)):=by
 have HS:=Hd h
 clear h
 go_enter Tryz.func67,Tryz.ntmps67
 go_upto_region 1 with fail
 refine hBk w [fnV 66] 115 (fun W1 hW1=>?_)
 obtain⟨hx1,hb1⟩:=hW1
 have HX1:=Hd hx1
 have HB1:=Hd hb1
 have HS1:=Hd (HS.out.later hx1)
 have HXB:=Hd (show rb≠w.heap.size from Nat.ne_of_lt HS.out.rd.lt)
 have HRB:=Hd (Nat.lt_of_lt_of_le HS.out.rd.lt HX1.out.size)
 have HXX:=Hd (Rx.ext (rb:=rb) HX1.out)
 clear hx1 hb1
 generalize hxb:w.heap.size=xb at*
 clear hxb
 go_wp2_with fail
 go_loopw[7,10] (fun v i wr=>∃(k:Nat) (acc:List PV) (s':RS) (u':Value),k<=n/\i=I k/\Hid (rList (rPart nd) n [] s=rList (rPart nd) (n-k) acc s')/\Hid (acc.length=k)/\Hid (RdS w0 cb rb nd wr u' s')/\Hid (OwnPR wr W1.heap.size v (acc.map pvV))/\Hid (Rx rb W1 wr)) (fun _ i _=>n-(intOf i).toNat)
 case atStart=>exact⟨0,[],s,_,by omega,rfl,rfl,rfl,HS1,Hd (OwnPR.nil _ _),Hd (Rx.refl _ _)⟩
 case round=>
  obtain⟨k,acc,s',u',hk,rfl,HR,HL,HT,HO,HX⟩:=hrel
  have HB:=Hd (Rx.blk HX.out HB1.out HXB.out)
  have hxc:=HB.out.cells
  have HON:=Hd (readerPart_any w0 cb rb nd u' s' hnd wr HT.out)
  obtain⟨va,vc,hvf⟩:=HO.out.form
  rw[show(acc.map pvV).length=k by rw[List.length_map];exact HL.out]at hvf
  subst hvf
  have HAL:=Hd (show(acc.map pvV).length<=n by rw[List.length_map,HL.out];exact hk)
  by_cases hlt:k<n
  ·by_cases hz:(rPart nd s').2.2=0
   ·have HRN:=Hd (rList_next (acc:=acc) hlt (show¬(rPart nd s').2.2≠0 by simp[hz]))
    have hzb:((rPart nd s').2.2 !=0)=false:=by simp[hz]
    clear hz
    generalize rPart nd s'=g at*
    obtain⟨x,t⟩:=g
    simp only at HRN hzb HON
    go_upto_region 5 with(first
     |(go_at_call 66;(with_reducible refine HON.out.mono ?_);rintro e w2 ⟨p2,he,hp1,hp2,hpo,⟨u2,hs2⟩,hx⟩;subst he;have HX2:=Hd (Rx.trans HX.out hx);have HS2:=Hd hs2;have HP2:=Hd (And.intro hp1 (And.intro hp2 (own_low hpo HX.out.size)));have HO2:=Hd (show OwnPR w2 W1.heap.size _ (acc.map pvV)from Rx.ownPR hx HO.out HRB.out);clear hx hs2 hxc hp1 hp2 hpo))
    refine hBk w2 [U p2.fr,U p2.up,p2.rk] 85 (fun W3 hW3=>?_)
    obtain⟨hx3,hb3⟩:=hW3
    have hxc:=hb3.cells
    have HA:=Hd ((eR W3).alloc (.cells p2.cells.toArray 85))
    have HY:=Hd (hx3.trans HA.out)
    have HSA:=Hd (HS2.out.later HY.out)
    have HPA:=Hd (show p2.fr=x.fr/\p2.up=x.up/\OwnI (W3.alloc (.cells p2.cells.toArray 85)) W1.heap.size p2.rk (intsN x.rk)from⟨HP2.out.1,HP2.out.2.1,own_later HP2.out.2.2 HY.out⟩)
    have HXA:=Hd (Rx.trans HX2.out (Rx.ext HY.out))
    have HOA:=Hd (HO2.out.later HY.out)
    have hrc:=(HS2.out.later hx3).rd.cells
    have HSRC:=Hd (Reads.made W3 3 85 1 p2.cells rfl (by unfold maxLen;omega))
    clear hx3 hb3 HO2 HS2
    generalize w2.heap.size=qb at*
    obtain⟨qp,hown,hql,hqs⟩:=HOA.out
    have HOWN:=Hd hown
    have HQL:=Hd hql
    have HQS:=Hd hqs
    clear hown hql hqs
    go_wp2_with (first
     |(at_builtin
       refine wpList_app rfl (.tmp 21) (.tmp 23) 46 rfl W1.heap.size 85 _ 3 32 Tryz.underlying46 infoPart rfl (by decide) (by decide) _ _ _ rfl HOWN.out _ _ _ rfl HSRC.out (fun q hq=>pcells_one [p2] q (by simpa[pcells]using hq)) (by have:=HAL.out;omega) HXA.out.size ?_
       intro v8 w8 ho8 hg8
       have HO8:=Hd (show OwnPR w8 W1.heap.size v8 ((acc++[x]).map pvV)from by
        rw[List.map_append]
        exact OwnPR.app (p:=p2) (q:=pvV x) HOWN.out HQL.out HQS.out ho8 hg8 HPA.out)
       have HS8:=Hd (HSA.out.grown HOWN.out (by decide) HRB.out hg8)
       have HY8:=Hd (Rx.grown HXA.out HOWN.out (Nat.le_refl _) hg8)
       clear ho8 hg8))
    go_roundw
    case rel=>exact⟨k+1,acc++[x],t,_,by omega,by go_num,Hd (HR.out.trans HRN.out),Hd (by rw[List.length_append,HL.out];rfl),HS8,HO8,HY8⟩
    case measure=>simp[intOf];omega
   ·have HRN:=Hd (rList_bad (acc:=acc) hlt hz)
    have hzb:((rPart nd s').2.2 !=0)=true:=by simp[hz]
    clear hz
    generalize rPart nd s'=g at*
    obtain⟨x,t⟩:=g
    simp only at HRN hzb HON
    go_upto_region 5 with(first
     |(go_at_call 66;(with_reducible refine HON.out.mono ?_);rintro e w2 ⟨p2,he,hp1,hp2,hpo,⟨u2,hs2⟩,hx⟩;subst he;have HX2:=Hd (Rx.trans HX.out hx);have HS2:=Hd hs2;clear hx hs2 hxc hp1 hp2 hpo))
    refine hWp (fun W=>Ext w2 W) (by(repeat with_reducible first|exact eR _|assumption|refine eA ?_ _|refine eD ?_|refine eW ?_ _|(refine eS ?_ ?_;focus(first|(simp;done)|(simp;omega)|omega)))) (fun W3 hW3=>?_)
    have HS3:=Hd (HS2.out.later hW3)
    have HX3:=Hd (Rx.trans HX2.out (Rx.ext hW3))
    have hrc:=HS3.out.rd.cells
    clear hW3
    generalize w2.heap.size=qb at*
    go_wp2_with fail
    go_ret
    rw[HR.out,HRN.out]
    exact⟨_,rfl,OwnPR.nil _ _,⟨_,HS3.out⟩,Rx.trans HXX.out HX3.out⟩
  ·obtain rfl:k=n:=by omega
   have HE:=Hd (show rList (rPart nd) k [] s=(acc,s')by rw[HR.out,Nat.sub_self];rfl)
   go_wp2_with fail
   go_ret
   rw[HE.out]
   exact⟨_,rfl,HO.out.low HX1.out.size,⟨_,HT.out⟩,Rx.trans HXX.out HX.out⟩
theorem rCount_le(most:Nat)(s:RS):(rCount most s).1<=most:=by
 unfold rCount
 split
 ·exact Nat.zero_le _
 ·omega
theorem rList_lt:∀(n:Nat) (acc:List Nat) (s:RS),(∀x∈acc,x<268435456)->∀x∈(rList rGroup n acc s).1,x<268435456
 |0,acc,s,h=>h
 |n+1,acc,s,h=>by
  unfold rList
  split
  ·intro x hx;cases hx
  ·refine rList_lt n _ _ fun x hx=>?_
   rcases List.mem_append.1 hx with hx|hx
   ·exact h x hx
   ·rw[List.mem_singleton.1 hx];exact rGroup_lt s
theorem rNum_one_lt(s:RS):(rNum 1 s).1<256:=by
 unfold rNum
 split
 ·exact Nat.succ_pos _
 ·split
  ·exact Nat.succ_pos _
  ·exact deN_lt 1 _ (by rw[List.length_take];omega)
def TookC(w:World)(r:Except Int (Crt × Nat))(e:Ending)(w':World):Prop:=
 (match r with
  | .ok q=>∃pv tv c,e=.returned (.tuple #[.agg #[I c.vd,pv,U c.dest,tv],I q.2,I 0])/\CertAt w' pv tv c/\CrtEq c q.1
  | .error z=>z≠0/\e=.returned (.tuple #[.agg #[I 0,.slice none 0 0,U 0#32,.slice none 0 0],I 0,I z]))/\Ext w w'
theorem CertOwn.setB{W:World}{B:Nat}{pv tv:Value}{c:Crt}(h:CertOwn W B pv tv c){b:Nat}(hb:b<B)(i:Nat)(u:Value):CertOwn (W.setCell ⟨b,i,none⟩ u) B pv tv c:=h.setCell (p:=⟨b,i,none⟩) hb u
theorem certOwn_parts{w:World}{B:Nat}{v:Value}{l:List PV}(h:OwnPR w B v (l.map pvV)):∃c,CertOwn w B v (.slice none 0 0) c/\c.vd=1/\c.dest=0#32/\c.tr=[]/\CrtEq c (crtP l):=by
 obtain⟨ps,h1,h2,h3,h4⟩:=h.parts
 have hl:ps.length=l.length:=by rw[h2,List.length_map]
 refine⟨⟨1,ps,l.map fun p=>intsN p.rk,0#32,[]⟩,⟨h1,by simp[hl],fun i p r k1 k2=>?_,ownI_nil _ _⟩,rfl,rfl,rfl,rfl,rfl,rfl,rfl,?_⟩
 ·simp only[List.getElem?_map,Option.map_eq_some_iff]at k2
  obtain⟨q,q1,rfl⟩:=k2
  obtain⟨p',g1,g2⟩:=h4 i (pvV q) (by rw[List.getElem?_map,q1];rfl)
  rw[k1]at g1
  cases g1
  exact g2
 ·show ps.map (fun p=>(p.fr,p.up))=(l.map fun p=>bare p.fr p.up).map fun p=>(p.fr,p.up)
  rw[h3,List.map_map,List.map_map];rfl
theorem certOwn_trace{w:World}{B:Nat}{v:Value}{l:List Nat}(vd:Nat)(d:BitVec 32)(h:OwnI w B v (intsN l)):CertOwn w B (.slice none 0 0) v (crtL vd d l):=
 ⟨⟨by simp[pcells,crtL],.inl ⟨rfl,rfl⟩⟩,rfl,fun i p r k1 _=>(by cases k1),h⟩
theorem certOwn_set4{W:World}{B cb:Nat}{pv tv:Value}{c:Crt}(h:CertOwn W B pv tv c)(hb:cb<B)(a b d e:Value):CertOwn ((((W.setCell ⟨cb,0,none⟩ a).setCell ⟨cb,1,none⟩ b).setCell ⟨cb,2,none⟩ d).setCell ⟨cb,3,none⟩ e) B pv tv c:=
 (((h.setB hb 0 a).setB hb 1 b).setB hb 2 d).setB hb 3 e
structure CtS(w w0:World)(cb rb nd:Nat)(W:World)(cv:List Value)(u:Value)(s:RS):Prop where
 rd:RdS w0 cb rb nd W u s
 cert:Blk W cb cv 49
 ext:Ext w w0
 low:w.heap.size<=cb
 lt:cb<rb
theorem CtS.out{w w0 W:World}{cb rb nd:Nat}{cv:List Value}{u:Value}{s:RS}(h:CtS w w0 cb rb nd W cv u s):Ext w W:=Rx.outer h.rd.ext h.ext h.low
theorem CtS.step{w w0 W W':World}{cb rb nd:Nat}{cv:List Value}{u u':Value}{s s':RS}(h:CtS w w0 cb rb nd W cv u s)(k:RdS w0 cb rb nd W' u' s')(hx:Rx rb W W'):CtS w w0 cb rb nd W' cv u' s':=
 ⟨k,Rx.blk hx h.cert (Nat.ne_of_gt h.lt),h.ext,h.low,h.lt⟩
theorem CtS.setC{w w0 W:World}{cb rb nd:Nat}{cv:List Value}{u:Value}{s:RS}(h:CtS w w0 cb rb nd W cv u s)(i:Nat)(x:Value):CtS w w0 cb rb nd (W.setCell ⟨cb,i,none⟩ x) (cv.set i x) u s:=
 ⟨h.rd.setC (Nat.ne_of_lt h.lt) i x,h.cert.set i x,h.ext,h.low,h.lt⟩
theorem CtS.setN{w w0 W:World}{cb rb nd:Nat}{cv:List Value}{u:Value}{s:RS}(h:CtS w w0 cb rb nd W cv u s)(n:Nat):CtS w w0 cb rb n (W.setCell ⟨rb,1,none⟩ (I n)) cv u s:=
 ⟨h.rd.setN n,h.cert.other (show rb≠cb from Nat.ne_of_gt h.lt) _,h.ext,h.low,h.lt⟩
theorem CtS.setE{w w0 W:World}{cb rb nd:Nat}{cv:List Value}{u:Value}{s:RS}(h:CtS w w0 cb rb nd W cv u s)(e:Int):CtS w w0 cb rb nd (W.setCell ⟨rb,2,none⟩ (I e)) cv u (s.1,e):=
 ⟨h.rd.setE e,h.cert.other (show rb≠cb from Nat.ne_of_gt h.lt) _,h.ext,h.low,h.lt⟩
theorem CtS.later{w w0 W W':World}{cb rb nd:Nat}{cv:List Value}{u:Value}{s:RS}(h:CtS w w0 cb rb nd W cv u s)(hx:Ext W W'):CtS w w0 cb rb nd W' cv u s:=
 ⟨h.rd.later hx,h.cert.later hx,h.ext,h.low,h.lt⟩
theorem Rx.certOwn{rb B:Nat}{w w':World}{pv tv:Value}{c:Crt}(h:Rx rb w w')(ho:CertOwn w B pv tv c)(hB:rb<B):CertOwn w' B pv tv c:=
 ⟨Rx.own h ho.parts hB,ho.len,fun i p r h1 h2=>Rx.own h (ho.rk i p r h1 h2) hB,Rx.own h ho.tr hB⟩
theorem certfileTake_any(v:Value)(l:List Byt)(w:World)(h:BsAt w v l)(hl:l.length<=1000000000):Calls Tryz.prog 24 #[v] w (TookC w (certTake l)):=by
 have HC:=Hd h
 obtain⟨a,cap,rfl,-⟩:=h.form
 clear h
 have HFT:=Hd (show∀w',BsAt w' (.slice a l.length cap) l->Calls Tryz.prog 34 #[.int .u32 1129468977,.slice a l.length cap] w' (TookY w' (ftake magC l))from fun w' h=>frameTake_any magC _ l w' h hl)
 go_enter Tryz.func24,Tryz.ntmps24
 go_upto_region 1 with fail
 refine hBk w [I 0,.slice none 0 0,U 0#32,.slice none 0 0] 49 (fun W1 hW1=>?_)
 obtain⟨hx1,hb1⟩:=hW1
 have HX1:=Hd hx1
 have HB1:=Hd hb1
 clear hx1 hb1
 generalize hcb:w.heap.size=cb at*
 have HLO:=Hd (show w.heap.size<=cb from Nat.le_of_eq hcb)
 have HCE:=Hd hcb
 clear hcb
 by_cases hf:(ftake magC l).2=0
 case neg=>
  have HN:=Hd (show certTake l=.error (ftake magC l).2 by unfold certTake;rw[if_pos hf])
  obtain⟨z,hz⟩:∃z,z=(ftake magC l).2:=⟨_,rfl⟩
  rw[<-hz]at HN hf
  have HZ:=Hd hz
  have HZN:=Hd hf
  have hzb:(z !=0)=true:=by simp[hf]
  clear hz hf
  go_upto_region 2 with(first
   |(go_at_call 34
     go_loud(
      (with_reducible refine(HFT.out _ (HC.out.later HX1.out)).mono ?_)
      rintro e w2 ⟨⟨u2,he,hu,hnil⟩,hx⟩
      rw[<-HZ.out]at he hnil
      obtain rfl:=hnil HZN.out
      subst he
      have HX2:=Hd (HX1.out.trans hx)
      have HB2:=Hd (HB1.out.later hx)
      clear hx hu hnil)))
  have hcf:=HB2.out.frozen
  have hcc:=HB2.out.cells
  go_wp2_with fail
  refine hideW (Φ:=fun W=>bodyPost _ _ _ _ _ W) (fun W=>Ext w W/\Blk W cb [I 0,.slice none 0 0,U 0#32,.slice none 0 0] 49)
   ⟨ext_set4 HX2.out HCE.out _ _ _ _,blk_set4 HB2.out _ _ _ _⟩ (fun W3 hW3=>?_)
  obtain⟨hx3,hb3⟩:=hW3
  have hrc:=hb3.cells
  refine bodyPost_ret (v:=.tuple #[.agg #[I 0,.slice none 0 0,U 0#32,.slice none 0 0],I 0,I z]) (by rw[results_cell_tmp2 rfl];go_simp) rfl ?_
  rw[HN.out]
  exact⟨⟨HZN.out,rfl⟩,hx3⟩
 case pos=>
 have HF:=Hd hf
 have HN:=Hd (show certTake l=if rdErr (ftake magC l).1≠0 then .error (rdErr (ftake magC l).1)else .ok (rdCrt (ftake magC l).1,rdNodes (ftake magC l).1)by
  conv=>lhs;unfold certTake
  rw[if_neg (by simp[hf])])
 clear hf
 go_upto_region 4 with(first
  |(go_at_call 34
    go_loud(
     (with_reducible refine(HFT.out _ (HC.out.later HX1.out)).mono ?_)
     rintro e w2 ⟨⟨u2,he,hu,hnil⟩,hx⟩
     rw[HF.out]at he
     obtain⟨ua,uc,hue⟩:=hu.form
     subst hue
     subst he
     have HX2:=Hd (HX1.out.trans hx)
     have HB2:=Hd (HB1.out.later hx)
     have HO2:=Hd hu
     clear hx hu hnil)))
 generalize (ftake magC l).1=L at*
 go_upto_region 5 with fail
 refine hWp (fun W=>CtS w w2 cb w2.heap.size 0 W [I 0,.slice none 0 0,U 0#32,.slice none 0 0] (.slice ua L.length uc) (L,0))
  ⟨⟨Blk.new w2 [.slice ua L.length uc,I ((0:Nat):Int),I 0] 109,fun W hW=>OwnY.bs (Rx.own hW HO2.out HB1.out.lt),Rx.ext ((eR w2).alloc _),Nat.le_refl _⟩,HB2.out.later ((eR w2).alloc _),HX2.out,HLO.out,HB2.out.lt⟩ (fun W3 hW3=>?_)
 have HS3:=Hd hW3
 clear hW3 HB1 HB2 HX1 HX2 HO2 HC HFT HF
 generalize hrb:w2.heap.size=rb at*
 clear hrb
 have HVL:=Hd (show rdVd L<256 from rNum_one_lt _)
 have HV:=Hd (readerNum1_any w2 cb rb 0 _ (L,0) W3 HS3.out.rd)
 have HS2E:=Hd (show rdS2 L=if rdVd L≠1/\rdVd L≠2 then rFail (rNum 1 (L,0)).2 9 else(rNum 1 (L,0)).2 from rfl)
 have HVE:=Hd (show rdVd L=(rNum 1 (L,0)).1 from rfl)
 generalize rNum 1 (L,0)=g at*
 obtain⟨vd,s1⟩:=g
 simp only at HV HS2E HVE
 rw[HVE.out]at HVL HS2E
 have hvl:=HVL.out
 have hcf:=HS3.out.cert.frozen
 go_upto_region 6 with(first
  |(go_at_call 63
    go_loud(
     (with_reducible refine HV.out.mono ?_)
     rintro e w4 ⟨he,⟨u4,hs4⟩,hx⟩
     subst he
     have HS4:=Hd (HS3.out.step hs4 hx)
     clear hx hs4 hcf
     have hcf:=HS4.out.cert.frozen
     have hcc:=HS4.out.cert.cells)))
 refine hWp (fun W=>CtS w w2 cb rb 0 W [I vd,.slice none 0 0,U 0#32,.slice none 0 0] u4 s1) (HS4.out.setC 0 _) (fun W5 hW5=>?_)
 have HS5:=Hd hW5
 have hcc:=hW5.cert.cells
 clear hW5 hcf HS3 HS4 HV
 by_cases hvd:vd=1
 case' pos=>
  have hv1:((vd:Int) !=1)=false:=by rw[hvd];rfl
  have hv2:((vd:Int)==1)=true:=by rw[hvd];rfl
  have HVD:=Hd hvd
  have HE7:=Hd (show rdS2 L=s1 by rw[HS2E.out,if_neg];intro h;exact h.1 hvd)
  clear hvd
  rw[<-HE7.out]at HS5
  obtain⟨xa,xc,hxf,-⟩:=HS5.out.rd.now.form
  have HCN:=Hd (readerCountN_any w2 cb rb 0 _ (rdS2 L) _ HS5.out.rd)
  have HNB:=Hd (show rdNodes L<=256 from rCount_le _ _)
  have HNE:=Hd (show rdNodes L=(rCount 256 (rdS2 L)).1 from rfl)
  have HSE:=Hd (show rdS3 L=(rCount 256 (rdS2 L)).2 from rfl)
  clear hxf
  generalize rCount 256 (rdS2 L)=g6 at*
  obtain⟨nd,s3⟩:=g6
  simp only at HCN HNE HSE
  rw[HNE.out]at HNB
  have hnb:=HNB.out
  go_upto_region 9 with(first
   |(go_at_call 65
     go_loud(
      with_reducible refine HCN.out.mono ?_
      rintro e w6 ⟨he,⟨u6,hs6⟩,hx⟩
      subst he
      have HS6:=Hd (HS5.out.step hs6 hx)
      clear hx hs6 hcc
      have hrc:=HS6.out.rd.rd.cells
      have hrf:=HS6.out.rd.rd.frozen)))
  refine hWp (fun W=>CtS w w2 cb rb nd W [I vd,.slice none 0 0,U 0#32,.slice none 0 0] u6 s3) (HS6.out.setN nd) (fun W7 hW7=>?_)
  have HS7:=Hd hW7
  clear hrc hrf HS6 HCN HS5 hW7
  have hcc:=HS7.out.cert.cells
  have HPE:=Hd (show rdParts L=rList (rPart (rdNodes L)) (rCount 8193 (rdS3 L)).1 [] (rCount 8193 (rdS3 L)).2 from rfl)
  rw[HNE.out,HSE.out]at HPE
  have HC8:=Hd (readerCountP_any w2 cb rb nd _ s3 _ HS7.out.rd)
  have HM8:=Hd (rCount_le 8193 s3)
  generalize rCount 8193 s3=g8 at*
  obtain⟨m,s4⟩:=g8
  simp only at HPE HC8 HM8
  have hm8:=HM8.out
  go_upto_region 11 with(first
   |(go_at_call 65
     go_loud(
      (with_reducible refine HC8.out.mono ?_)
      rintro e w8 ⟨he,⟨u8,hs8⟩,hx⟩
      subst he
      have HS8:=Hd (HS7.out.step hs8 hx)
      clear hx hs8 hcc)))
  have HL8:=Hd (listPart_any w2 cb rb nd u8 s4 m (by omega) (by omega) w8 HS8.out.rd)
  generalize rList (rPart nd) m [] s4=g9 at*
  obtain⟨ps,s5⟩:=g9
  go_upto_region 15 with(first
   |(go_at_call 67
     go_loud(
      (with_reducible refine HL8.out.mono ?_)
      rintro e w9 ⟨v9,he,ho,⟨u9,hs9⟩,hx⟩
      obtain⟨va9,vc9,hve⟩:=OwnPR.form ho
      rw[List.length_map]at hve
      subst hve
      subst he
      have HS9:=Hd (HS8.out.step hs9 hx)
      have HO9:=Hd (show OwnPR w9 (rb+1) (.slice va9 ps.length vc9) (ps.map pvV)from ho.low HS8.out.rd.rd.lt)
      clear hx hs9 ho
      have hcf:=HS9.out.cert.frozen
      have hcc:=HS9.out.cert.cells)))
  obtain⟨c9,hco,hv9,hd9,ht9,hq9⟩:=certOwn_parts HO9.out
  have HQ9:=Hd (show CrtEq c9 (rdCrt L)by unfold rdCrt;rw[HVE.out,if_pos HVD.out,HPE.out];exact hq9)
  have HT9:=Hd (show∀x∈c9.tr,In64 x by rw[ht9];intro x hx;cases hx)
  have HSL:=Hd (show rdS L=s5 by unfold rdS;rw[HVE.out,if_pos HVD.out,HPE.out])
  have HVI:=Hd (show(vd:Int)=c9.vd by rw[hv9,HVD.out];rfl)
  have HDI:=Hd hd9
  have HCO:=Hd hco
  clear hco hv9 hd9 ht9 hq9 HO9
  refine hWp (fun W=>CtS w w2 cb rb (rdNodes L) W [I c9.vd,.slice va9 ps.length vc9,U c9.dest,.slice none 0 0] u9 (rdS L)/\CertOwn W (rb+1) (.slice va9 ps.length vc9) (.slice none 0 0) c9)
   ⟨by rw[HNE.out,HSL.out,<-HVI.out,HDI.out];exact HS9.out.setC 1 _,HCO.out.setB (Nat.lt_succ_of_lt HS9.out.lt) 1 _⟩ (fun W10 hW10=>?_)
  obtain⟨hs10,ho10⟩:=hW10
  clear HS9
  have HS9:=Hd hs10
  have HO9:=Hd ho10
  clear hcf hcc hs10 ho10 HCO
  obtain⟨pv9,hpv9⟩:∃v,v=Value.slice va9 ps.length vc9:=⟨_,rfl⟩
  obtain⟨tv9,htv9⟩:∃v,v=Value.slice none 0 0:=⟨_,rfl⟩
  rw[<-hpv9,<-htv9]at HS9 HO9
  clear hpv9 htv9
 case' neg=>
  have hv1:((vd:Int) !=1)=true:=by simp;omega
  have hv2:((vd:Int)==1)=false:=by simp;omega
  have HVD:=Hd hvd
  clear hvd
  obtain⟨b7,hb7⟩:∃b7,((vd:Int) !=2)=b7:=⟨_,rfl⟩
  have HB7:=Hd hb7
  have HF7:=Hd (readerFail_any w2 cb rb 0 _ s1 9 _ HS5.out.rd)
  go_upto_if 31 with(fail)
  clear hb7
  go_cut[] (fun wc=>Hid (∃u,CtS w w2 cb rb 0 wc [I vd,.slice none 0 0,U 0#32,.slice none 0 0] u (rdS2 L)))
  case first=>
   cases b7
   ·have HE7:=Hd (show rdS2 L=s1 by rw[HS2E.out,if_neg];intro h;have h2:(vd:Int)=2:=(by simpa using HB7.out);exact h.2 (by omega))
    go_wp2_with fail
    go_meet
    case rel=>exact Hd ⟨_,by rw[HE7.out];exact HS5.out⟩
   ·have HE7:=Hd (show rdS2 L=rFail s1 9 by rw[HS2E.out,if_pos];have h2:¬(vd:Int)=2:=(by simpa using HB7.out);exact⟨HVD.out,by omega⟩)
    go_wp2_with (first
     |(go_at_call 64
       go_loud(
        (with_reducible refine HF7.out.mono ?_)
        rintro e w6 ⟨he,⟨u6,hs6⟩,hx⟩
        subst he
        have HS6:=Hd (HS5.out.step hs6 hx)
        clear hx hs6)))
    go_meet
    case rel=>exact Hd ⟨_,by rw[HE7.out];exact HS6.out⟩
  case' rest=>
   obtain⟨u5,hs5⟩:=hcut
   clear HS5 HF7 hcc
   have HS5:=Hd hs5
   clear hs5
   have hcc:=HS5.out.cert.cells
   obtain⟨xa,xc,hxf,-⟩:=HS5.out.rd.now.form
   have HCN:=Hd (readerCountN_any w2 cb rb 0 _ (rdS2 L) _ HS5.out.rd)
   have HNB:=Hd (show rdNodes L<=256 from rCount_le _ _)
   have HNE:=Hd (show rdNodes L=(rCount 256 (rdS2 L)).1 from rfl)
   have HSE:=Hd (show rdS3 L=(rCount 256 (rdS2 L)).2 from rfl)
   clear hxf
   generalize rCount 256 (rdS2 L)=g6 at*
   obtain⟨nd,s3⟩:=g6
   simp only at HCN HNE HSE
   rw[HNE.out]at HNB
   have hnb:=HNB.out
   go_upto_region 9 with(first
    |(go_at_call 65
      go_loud(
       with_reducible refine HCN.out.mono ?_
       rintro e w6 ⟨he,⟨u6,hs6⟩,hx⟩
       subst he
       have HS6:=Hd (HS5.out.step hs6 hx)
       clear hx hs6 hcc
       have hrc:=HS6.out.rd.rd.cells
       have hrf:=HS6.out.rd.rd.frozen)))
   refine hWp (fun W=>CtS w w2 cb rb nd W [I vd,.slice none 0 0,U 0#32,.slice none 0 0] u6 s3) (HS6.out.setN nd) (fun W7 hW7=>?_)
   have HS7:=Hd hW7
   clear hrc hrf HS6 HCN HS5 hW7
   have hcc:=HS7.out.cert.cells
   have HTE:=Hd (show rdTrace L=rList rGroup (rCount 256 (rNum 4 (rdS3 L)).2).1 [] (rCount 256 (rNum 4 (rdS3 L)).2).2 from rfl)
   have HSL:=Hd (show rdS L=(rdTrace L).2 by unfold rdS;rw[HVE.out,if_neg HVD.out])
   have HCR:=Hd (show rdCrt L=crtL vd (BitVec.ofNat 32 (rNum 4 (rdS3 L)).1) (rdTrace L).1 by unfold rdCrt;rw[HVE.out,if_neg HVD.out])
   rw[HSE.out]at HTE HCR
   have HC8:=Hd (readerNum4_any w2 cb rb nd _ s3 _ HS7.out.rd)
   generalize rNum 4 s3=g8 at*
   obtain⟨d,s4⟩:=g8
   simp only at HTE HC8 HCR
   have hwd:=wrap_u32_ofNat d
   generalize BitVec.ofNat 32 d=dest at*
   go_upto_region 13 with(first
    |(go_at_call 63
      go_loud(
       (with_reducible refine HC8.out.mono ?_)
       rintro e w8 ⟨he,⟨u8,hs8⟩,hx⟩
       subst he
       have HS8:=Hd (HS7.out.step hs8 hx)
       clear hx hs8 hcc
       have hcf:=HS8.out.cert.frozen
       have hcc:=HS8.out.cert.cells)))
   refine hWp (fun W=>CtS w w2 cb rb nd W [I vd,.slice none 0 0,U dest,.slice none 0 0] u8 s4) (HS8.out.setC 2 _) (fun W9 hW9=>?_)
   clear HS8 HC8 HS7 hcf hcc
   have HS8:=Hd hW9
   clear hW9
   have HC9:=Hd (readerCountN_any w2 cb rb nd _ s4 _ HS8.out.rd)
   have HM8:=Hd (rCount_le 256 s4)
   generalize rCount 256 s4=g8 at*
   obtain⟨m,s5⟩:=g8
   simp only at HTE HC9 HM8
   have hm8:=HM8.out
   go_upto_region 14 with(first
    |(go_at_call 65
      go_loud(
       (with_reducible refine HC9.out.mono ?_)
       rintro e w10 ⟨he,⟨u10,hs10⟩,hx⟩
       subst he
       have HS10:=Hd (HS8.out.step hs10 hx)
       clear hx hs10)))
   have HL8:=Hd (listInt_any w2 cb rb nd u10 s5 m (by omega) w10 HS10.out.rd)
   have HLT:=Hd (rList_lt m [] s5 (fun x hx=>by cases hx))
   generalize rList rGroup m [] s5=g9 at*
   obtain⟨tr,s6⟩:=g9
   simp only at HLT
   rw[HTE.out]at HSL HCR
   simp only at HSL HCR
   go_upto_region 15 with(first
    |(go_at_call 69
      go_loud(
       (with_reducible refine HL8.out.mono ?_)
       rintro e w11 ⟨v11,he,ho,⟨u11,hs11⟩,hx⟩
       obtain⟨va11,vc11,hve,-⟩:=ho.ints.form
       subst hve
       subst he
       have HS11:=Hd (HS10.out.step hs11 hx)
       have HO11:=Hd (show OwnI w11 (rb+1) (.slice va11 (intsN tr).length vc11) (intsN tr)from own_low ho HS10.out.rd.rd.lt)
       clear hx hs11 ho
       have hcf:=HS11.out.cert.frozen
       have hcc:=HS11.out.cert.cells)))
   refine hWp (fun W=>CtS w w2 cb rb (rdNodes L) W [I (crtL vd dest tr).vd,.slice none 0 0,U (crtL vd dest tr).dest,.slice va11 (intsN tr).length vc11] u11 (rdS L)/\CertOwn W (rb+1) (.slice none 0 0) (.slice va11 (intsN tr).length vc11) (crtL vd dest tr))
    ⟨by rw[HNE.out,HSL.out];exact HS11.out.setC 3 _,(certOwn_trace vd dest HO11.out).setB (Nat.lt_succ_of_lt HS11.out.lt) 3 _⟩ (fun W10 hW10=>?_)
   obtain⟨hs10,ho10⟩:=hW10
   have HS9:=Hd hs10
   have HO9:=Hd ho10
   have HQ9:=Hd (show CrtEq (crtL vd dest tr) (rdCrt L)by rw[HCR.out];exact CrtEq.refl _)
   have HT9:=Hd (show∀x∈(crtL vd dest tr).tr,In64 x from fun x hx=>by
    have hx':x∈intsN tr:=hx
    unfold intsN at hx'
    obtain⟨y,hy,rfl⟩:=List.mem_map.1 hx'
    have:=HLT.out y hy
    unfold In64;omega)
   clear hcf hcc hs10 ho10 HO11 HS11 HS10 HS8 HL8 HC9
   generalize crtL vd dest tr=c9 at*
   obtain⟨tv9,htv9⟩:∃v,v=Value.slice va11 (intsN tr).length vc11:=⟨_,rfl⟩
   obtain⟨pv9,hpv9⟩:∃v,v=Value.slice none 0 0:=⟨_,rfl⟩
   rw[<-hpv9,<-htv9]at HS9 HO9
   clear hpv9 htv9
 all_goals
  obtain⟨ya,yc,hyf,-⟩:=HS9.out.rd.now.form
  subst hyf
  have hrc:=HS9.out.rd.rd.cells
  have hcc:=HS9.out.cert.cells
  have HEE:=Hd (show rdEnd L=if 0<(rdS L).1.length then rFail (rdS L) 4 else rdS L from rfl)
  have HER:=Hd (show rdErr L=if(rdEnd L).2=0 then certMayV (rdNodes L) (rdCrt L)else(rdEnd L).2 from rfl)
  generalize rdS L=s9 at*
  generalize rdEnd L=s11 at*
  obtain⟨bb,hbb⟩:∃bb,decide ((0:Int)<(s9.1.length:Int))=bb:=⟨_,rfl⟩
  have hbn:decide (0<s9.1.length)=bb:=by rw[<-hbb];exact decide_eq_decide.2 (by omega)
  have HBB:=Hd hbb
  go_upto_if 65 with(fail)
  clear hbb hbn
  go_cut[] (fun wc=>Hid (∃u,CtS w w2 cb rb (rdNodes L) wc [I c9.vd,pv9,U c9.dest,tv9] u s11)/\Hid (CertOwn wc (rb+1) pv9 tv9 c9))
  case first=>
   cases bb
   ·have HE2:=Hd (show s11=s9 by rw[HEE.out,if_neg];have:=of_decide_eq_false HBB.out;omega)
    go_wp2_with fail
    go_meet
    case rel=>exact⟨Hd ⟨_,by rw[HE2.out];exact HS9.out⟩,HO9⟩
   ·have HE2:=Hd (show s11=rFail s9 4 by rw[HEE.out,if_pos];have:=of_decide_eq_true HBB.out;omega)
    go_wp2_with (first
     |(go_at_call 64
       go_loud(
        (with_reducible refine(readerFail_any w2 cb rb (rdNodes L) _ s9 4 _ HS9.out.rd).mono ?_)
        rintro e w10 ⟨he,⟨u10,hs10⟩,hx⟩
        subst he
        have HS10:=Hd (HS9.out.step hs10 hx)
        have HO10:=Hd (Rx.certOwn hx HO9.out (Nat.lt_succ_self _))
        clear hx hs10)))
    go_meet
    case rel=>exact⟨Hd ⟨_,by rw[HE2.out];exact HS10.out⟩,HO10⟩
  case rest=>
  obtain⟨hc1,HO11⟩:=hcut
  obtain⟨u11,hs11⟩:=hc1
  have HS11:=Hd hs11
  clear hs11 hcc hrc HS9 HO9 HEE HBB
  obtain⟨wq,rfl⟩:∃wq:World,wq=wc:=⟨_,rfl⟩
  have hrc:=HS11.out.rd.rd.cells
  have hcc:=HS11.out.cert.cells
  obtain⟨t11,z11⟩:=s11
  simp only at HER hrc
  obtain⟨pa9,pc9,hpf,-⟩:=HO11.out.at.parts.form
  obtain⟨ta9,tc9,htf,-⟩:=HO11.out.at.tr.form
  subst hpf
  subst htf
  obtain⟨b2,hb2⟩:∃b2,(z11==0)=b2:=⟨_,rfl⟩
  have HB2:=Hd hb2
  go_upto_if 72 with(fail)
  clear hb2
  go_cut[] (fun wc=>Hid (∃z,z=rdErr L/\CtS w w2 cb rb (rdNodes L) wc [I c9.vd,.slice pa9 c9.ps.length pc9,U c9.dest,.slice ta9 c9.tr.length tc9] u11 (t11,z))/\Hid (CertOwn wc (rb+1) (.slice pa9 c9.ps.length pc9) (.slice ta9 c9.tr.length tc9) c9))
  case first=>
   cases b2
   ·have HE2:=Hd (show z11=rdErr L by rw[HER.out,if_neg];simpa using HB2.out)
    go_wp2_with fail
    go_meet
    case rel=>exact⟨Hd ⟨_,HE2.out,HS11.out⟩,HO11⟩
   ·have HZ0:=Hd (show z11=0 by simpa using HB2.out)
    have HE2:=Hd (show certMayV (rdNodes L) c9=rdErr L by rw[HER.out,if_pos HZ0.out,certMayV_congr HQ9.out])
    go_wp2_with fail
    refine wp_region_R (RB (wq.heap.size)) 9 rfl (by kernel_rfl) (by kernel_rfl) (fun w12 hx12=>?_)
    have HX12:=Hd hx12
    have q0:=RB.keep hx12.size HS11.out.cert.lt ((HS11.out.cert.later hx12).cells 0)
    have q1:=RB.keep hx12.size HS11.out.cert.lt ((HS11.out.cert.later hx12).cells 1)
    have q2:=RB.keep hx12.size HS11.out.cert.lt ((HS11.out.cert.later hx12).cells 2)
    have q3:=RB.keep hx12.size HS11.out.cert.lt ((HS11.out.cert.later hx12).cells 3)
    have q4:=RB.keep hx12.size HS11.out.rd.rd.lt ((HS11.out.rd.rd.later hx12).cells 1)
    clear hx12
    refine WRi_at 0 ?_
    iterate 6
     refine WRi_q (preRB _) rfl (by decide) (by kernel_rfl) rfl ?_;apply Exists.intro;refine⟨fun w1 hx1=>?_,?_⟩
     ·go_simp;try go_bits
      first|with_reducible rfl|rfl
     go_frame;try simp only[Nat.reduceAdd]
    refine WRi_out ?_
    clear q0 q1 q2 q3 q4
    refine WR_one 6 rfl (by decide) (by kernel_rfl) rfl (fun K hK=>?_)
    go_simp
    (with_reducible refine(certMay_any _ _ c9 (rdNodes L) _ (HO11.out.at.later HX12.out) HT9.out).mono ?_)
    rintro e w13 ⟨he,hx13⟩
    subst he
    refine hK _ _ (RB.ext hx13) ?_
    have HS13:=Hd (HS11.out.later (HX12.out.trans hx13))
    have HO13:=Hd (HO11.out.later (HX12.out.trans hx13))
    clear hK K hx13 hrc hcc
    have hrf:=HS13.out.rd.rd.frozen
    have hrc:=HS13.out.rd.rd.cells
    refine WRi_at 7 ?_
    iterate 2
     refine WRi_q (preRB _) rfl (by decide) (by kernel_rfl) rfl ?_;apply Exists.intro;refine⟨fun w1 hx1=>?_,?_⟩
     ·go_simp;try go_bits
      first|with_reducible rfl|rfl
     go_frame;try simp only[Nat.reduceAdd]
    refine WRi_out ?_
    refine WR_done (by kernel_rfl) ?_
    (try simp only[List.drop_succ_cons,List.drop_zero])
    go_wp2_with fail
    go_meet
    case rel=>exact⟨Hd ⟨_,HE2.out,HS13.out.setE _⟩,Hd (HO13.out.setB (Nat.lt_succ_self _) 2 _)⟩
  case rest=>
  obtain⟨hc1,HO14⟩:=hcut
  obtain⟨z14,hz14,hs14⟩:=hc1
  have HS14:=Hd hs14
  have HZ14:=Hd hz14
  clear hs14 hz14 hrc hcc
  obtain⟨wp,rfl⟩:∃wp:World,wp=wc:=⟨_,rfl⟩
  have hrc:=HS14.out.rd.rd.cells
  have hcc:=HS14.out.cert.cells
  have hcf:=HS14.out.cert.frozen
  have HX14:=Hd HS14.out.out
  have HLB:=Hd (Nat.lt_succ_of_lt HS14.out.lt)
  have hne1:¬cb=rb:=Nat.ne_of_lt HS14.out.lt
  have hne2:¬rb=cb:=fun e=>hne1 e.symm
  by_cases hz:z14=0
  ·have hzb:(z14 !=0)=false:=by simp[hz]
   have HN2:=Hd (show certTake l=.ok (rdCrt L,rdNodes L)by rw[HN.out,if_neg (by rw[<-HZ14.out];simp[hz])])
   clear hz
   go_upto_region 21 with fail
   go_region
   go_wp2_with fail
   refine hideW (Φ:=fun W=>bodyPost _ _ _ _ _ W) (fun W=>Ext w W/\Blk W cb [I c9.vd,.slice pa9 c9.ps.length pc9,U c9.dest,.slice ta9 c9.tr.length tc9] 49/\CertOwn W (rb+1) (.slice pa9 c9.ps.length pc9) (.slice ta9 c9.tr.length tc9) c9)
    ⟨(ext_set4 HX14.out HCE.out _ _ _ _).drew,(blk_set4 HS14.out.cert _ _ _ _).drew,CertOwn.later (certOwn_set4 HO14.out HLB.out _ _ _ _) ((eR _).drew)⟩ (fun W15 hW15=>?_)
   obtain⟨hx15,hb15,ho15⟩:=hW15
   have hrc:=hb15.cells
   refine bodyPost_ret (v:=.tuple #[.agg #[I c9.vd,.slice pa9 c9.ps.length pc9,U c9.dest,.slice ta9 c9.tr.length tc9],I (rdNodes L),I 0]) (by rw[results_cell_tmp2 rfl];go_simp) rfl ?_
   rw[HN2.out]
   exact⟨⟨_,_,_,rfl,ho15.at,HQ9.out⟩,hx15⟩
  ·have hzb:(z14 !=0)=true:=by simp[hz]
   have HN2:=Hd (show certTake l=.error z14 by rw[HN.out,if_pos (by rw[<-HZ14.out];exact hz),HZ14.out])
   have HZN:=Hd hz
   clear hz
   go_upto_region 20 with fail
   go_region
   go_wp2_with fail
   refine hideW (Φ:=fun W=>bodyPost _ _ _ _ _ W) (fun W=>Ext w W/\Blk W cb [I 0,.slice none 0 0,U 0#32,.slice none 0 0] 49)
    ⟨(ext_set4 HX14.out HCE.out _ _ _ _).drew,(blk_set4 HS14.out.cert _ _ _ _).drew⟩ (fun W15 hW15=>?_)
   obtain⟨hx15,hb15⟩:=hW15
   have hrc:=hb15.cells
   refine bodyPost_ret (v:=.tuple #[.agg #[I 0,.slice none 0 0,U 0#32,.slice none 0 0],I 0,I z14]) (by rw[results_cell_tmp2 rfl];go_simp) rfl ?_
   rw[HN2.out]
   exact⟨⟨HZN.out,rfl⟩,hx15⟩
end Go.Proofs.YtjflkifodfncmaaGreatDoor
