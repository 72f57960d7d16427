/- Q1W, Q2W, Q3W, Q4W, Q1R: these texts in one. Conditions: each theorem names its own. -/
import Derived.Test.YtjflkifodfncmaaGreatDoorGRulW
namespace Go.Proofs.YtjflkifodfncmaaGreatDoor
set_option maxHeartbeats 4000000
set_option maxRecDepth 100000
open Go Go.RowKit Go.Maps Go.Proofs
theorem and255(m:Nat)(h:m<9223372036854775808):bits .and .i64 (m:Int) 255=yv (byt (m%256)):=by
 have h1:(BitVec.ofInt 64 (m:Int)).toNat=m:=by rw[BitVec.ofInt_natCast,BitVec.toNat_ofNat];exact Nat.mod_eq_of_lt (by omega)
 have h2:(BitVec.ofInt 64 255).toNat=255:=rfl
 rw[yv_byt]
 show IntKind.i64.wrap ((BitVec.ofInt 64 (m:Int)&&&BitVec.ofInt 64 255).toNat:Int)=_
 rw[BitVec.toNat_and,h1,h2,show(255:Nat)=2^8-1 from rfl,Nat.and_two_pow_sub_one_eq_mod,IntKind.wrap_i64]
 omega
theorem beN_next(k n:Nat):byt (n/256^k%256)::beN k n=beN (k+1) n:=by
 rw[beN_cons]
 congr 1
 exact BitVec.eq_of_toNat_eq (by rw[byt_nat,byt_nat,Nat.mod_mod])
theorem r01Put4_any(n:Nat)(hn:n<4294967296)(w:World):Calls Tryz.prog 116 #[I n,.int .i64 4] w fun e w'=>∃u,e=.returned (.tuple #[u,I 0])/\OwnY w' w.heap.size u (beN 4 n)/\Ext w w':=by
 go_enter Tryz.func116,Tryz.ntmps116
 go_upto_region 4 with fail
 refine hWp (fun W=>Ext w W/\OwnY W w.heap.size (.slice (some ⟨w.heap.size,0,none⟩) 0 0) []) ⟨by(repeat with_reducible first|exact eR _|assumption|refine eA ?_ _|refine eD ?_|refine eW ?_ _|(refine eS ?_ ?_;focus(first|(simp;done)|(simp;omega)|omega))),ownY_made w [] (Nat.zero_le _)⟩ (fun W1 hW1=>?_)
 obtain⟨hx1,ho1⟩:=hW1
 have HX1:=Hd hx1
 have HO1:=Hd ho1
 clear hx1 ho1
 go_wp2_with fail
 go_loopw[6,7,8] (fun v x i wr=>∃(k:Nat),k<=4/\i=I k/\x=I (n/256^k:Nat)/\Hid (OwnY wr w.heap.size v (beN k n))/\Hid (Ext w wr)) (fun _ _ i _=>4-(intOf i).toNat)
 case atStart=>exact⟨0,by omega,rfl,by simp,HO1,HX1⟩
 case round=>
  obtain⟨k,hk,rfl,rfl,HO,HX⟩:=hrel
  have hq:n/256^k<4294967296:=Nat.lt_of_le_of_lt (Nat.div_le_self _ _) hn
  have HQ:=Hd (show n/256^(k+1)=n/256^k/256 by rw[Nat.div_div_eq_div_mul,Nat.pow_succ])
  have HN:=Hd (beN_next k n)
  have HBL:=Hd (beN_len k n)
  by_cases hlt:k<4
  ·have HLT:=Hd hlt
   obtain⟨oa,oc,hof⟩:=HO.out.form
   subst hof
   generalize n/256^k=q at*
   generalize beN k n=L at*
   have ha:=and255 q (by omega)
   generalize byt (q%256)=b at*
   have HA:=Hd ((eR wr).alloc (.cells #[Y b] 5))
   have HXA:=Hd (HX.out.trans HA.out)
   have HOA:=Hd (show OwnY (wr.alloc (.cells #[Y b] 5)) w.heap.size (.slice (some ⟨wr.heap.size,0,none⟩) 1 1) [b]from OwnY.low (ownY_made wr [b] (by unfold maxLen;simp)) HX.out.size)
   have HRD:=Hd (HO.out.bs.later HA.out)
   go_wp2_with (first
    |(at_builtin;refine wpList_app rfl _ _ 22 rfl w.heap.size 5 (.int .u8 0) 1 1 Tryz.underlying22 infoU8' rfl (by decide) (by decide) _ _ _ rfl HOA.out _ _ _ rfl HRD.out (ycells_one _) (by rw[HBL.out];simp;omega) HXA.out.size ?_
      intro v9 w9 ho9 hg9
      have HX9:=Hd (Ext.grown HXA.out hg9 HOA.out (Nat.le_refl _))
      have HO9:=Hd (show OwnY w9 w.heap.size v9 (b::L)from by unfold OwnY;rw[List.length_cons,Nat.add_comm];exact ho9)
      clear ho9 hg9))
   go_roundw
   case rel=>exact⟨k+1,HLT.out,by go_num,by rw[HQ.out];go_num,by rw[<-HN.out];exact HO9,HX9⟩
   case measure=>have:=HLT.out;simp[intOf];omega
  ·obtain rfl:k=4:=by omega
   have hz:n/256^4=0:=Nat.div_eq_of_lt hn
   rw[hz]
   obtain⟨oa,oc,hof⟩:=HO.out.form
   subst hof
   go_wp2_with fail
   go_ret2
   exact⟨_,rfl,HO.out,HX.out⟩
theorem r01Take_any(v:Value)(l:List Byt)(k:Nat)(hk:k=1\/k=2\/k=4)(w:World)(h:BsAt w v l):
 Calls Tryz.prog 105 #[v,I k] w fun e w'=>e=.returned (.tuple #[I (numTake l k).1,I (numTake l k).2])/\Ext w w':=by
 obtain⟨a,cap,rfl,c1,c2,hc⟩:=h.form
 have HC:=Hd hc
 clear hc h
 unfold maxLen at c2
 by_cases hs:l.length<k
 ·have hn:numTake l k=(0,2):=by unfold numTake;rw[if_neg (by omega),if_pos (by omega)]
  rw[hn]
  have D:(k=1/\decide ((l.length:Int)<1)=true)\/(k=2/\decide ((l.length:Int)<2)=true)\/(k=4/\decide ((l.length:Int)<4)=true):=by
   rcases hk with rfl|rfl|rfl
   ·exact .inl ⟨rfl,dT (by omega)⟩
   ·exact .inr (.inl ⟨rfl,dT (by omega)⟩)
   ·exact .inr (.inr ⟨rfl,dT (by omega)⟩)
  clear hk hn hs
  rcases D with⟨rfl,d2⟩|⟨rfl,d2⟩|⟨rfl,d2⟩
  all_goals
   go_enter Tryz.func105,Tryz.ntmps105
   go_wp2_with fail
   go_ret2
   exact⟨rfl,eR _⟩
 ·have hn:numTake l k=(((deN (l.take k):Nat):Int),0):=by unfold numTake;rw[if_neg (by omega),if_neg (by omega),Int.toNat_natCast]
  rw[hn]
  have D:(k=1/\decide ((l.length:Int)<1)=false)\/(k=2/\decide ((l.length:Int)<2)=false)\/(k=4/\decide ((l.length:Int)<4)=false):=by
   rcases hk with rfl|rfl|rfl
   ·exact .inl ⟨rfl,dF (by omega)⟩
   ·exact .inr (.inl ⟨rfl,dF (by omega)⟩)
   ·exact .inr (.inr ⟨rfl,dF (by omega)⟩)
  have hk4:k<=4:=by omega
  have HKL:=Hd (Nat.le_of_not_lt hs)
  clear hk hn hs
  obtain⟨K,hK⟩:∃K:Nat,K=k:=⟨k,rfl⟩
  rcases D with⟨rfl,d2⟩|⟨rfl,d2⟩|⟨rfl,d2⟩
  all_goals
   have HK:=Hd hK
   clear hK
   go_enter Tryz.func105,Tryz.ntmps105
   go_wp2_with fail
   go_loopw[6,7] (fun n i wr=>∃(j:Nat),j<=K/\n=I (deN (l.take j):Nat)/\i=I j/\Hid (wr=w)) (fun _ i _=>K-(intOf i).toNat)
   case atStart=>exact⟨0,Nat.zero_le _,by simp[deN],rfl,Hd rfl⟩
   case round=>
    obtain⟨j,hj,rfl,rfl,HW⟩:=hrel
    obtain rfl:=HW.out
    by_cases hlt:j<K
    ·have hjl:j<l.length:=Nat.lt_of_lt_of_le hlt (by rw[HK.out];exact HKL.out)
     obtain⟨b,off,rfl,hcell⟩:=HC.out j _ (gE hjl)
     have HT:=Hd (take_step hjl)
     have HB:=Hd (take_lt l j)
     have HJ:=Hd hlt
     have HK':=HK.out
     subst HK'
     have hm:deN (l.take j)<16777216:=Nat.lt_of_lt_of_le HB.out (show 256^j<=256^3 from Nat.pow_le_pow_right (by decide) (by omega))
     clear HB
     generalize l[j]=x at*
     generalize hmm:deN (l.take j)=m at*
     have hx:=yv_bd x
     have HYX:=Hd (show yv x=(x.toNat:Int)from rfl)
     go_wp2_with fail
     go_roundw
     case rel=>
      refine⟨j+1,HJ.out,?_,by go_num,Hd trivial⟩
      rw[HT.out,HYX.out];go_num
     case measure=>simp[intOf];omega
    ·have hjK:j=K:=Nat.le_antisymm hj (Nat.le_of_not_lt hlt)
     have HK':=HK.out
     subst hjK
     subst HK'
     go_wp2_with fail
     go_ret2
     exact⟨rfl,eR _⟩
theorem gput_next(j n:Nat):byt (128+n/128^(j+1)%128)::(gmore j (n/128)++[byt (n%128)])=gmore (j+1) (n/128)++[byt (n%128)]:=by
 rw[gmore_cons,Nat.div_div_eq_div_mul,Nat.pow_succ,Nat.mul_comm 128,Nat.add_comm 128];rfl
theorem r02Put_any(n:Nat)(hn:n<268435456)(w:World):Calls Tryz.prog 158 #[I n] w fun e w'=>∃u,e=.returned (.tuple #[u,I 0])/\OwnY w' w.heap.size u (gput n)/\Ext w w':=by
 have hb0:(n:Int)%128=yv (byt (n%128)):=by rw[yv_byt];omega
 have HDV:=Hd (show(n:Int)/128=((n/128^1:Nat):Int)by omega)
 go_enter Tryz.func158,Tryz.ntmps158
 go_upto_region 4 with fail
 refine hWp (fun W=>Ext w W/\OwnY W w.heap.size (.slice (some ⟨w.heap.size,0,none⟩) 1 1) [byt (n%128)]) ⟨by(repeat with_reducible first|exact eR _|assumption|refine eA ?_ _|refine eD ?_|refine eW ?_ _|(refine eS ?_ ?_;focus(first|(simp;done)|(simp;omega)|omega))),ownY_made w [byt (n%128)] (by unfold maxLen;simp)⟩ (fun W1 hW1=>?_)
 obtain⟨hx1,ho1⟩:=hW1
 have HX1:=Hd hx1
 have HO1:=Hd ho1
 clear hx1 ho1 hb0
 go_wp2_with fail
 go_loopw[0,4] (fun x v wr=>∃(j:Nat),j<=3/\x=I (n/128^(j+1):Nat)/\Hid (OwnY wr w.heap.size v (gmore j (n/128)++[byt (n%128)]))/\Hid (0<j->128^j<=n)/\Hid (Ext w wr)) (fun x _ _=>(intOf x).toNat)
 case atStart=>exact⟨0,by omega,by rw[HDV.out],HO1,Hd (fun h=>absurd h (by decide)),HX1⟩
 case round=>
  obtain⟨j,hj,rfl,HO,HG,HX⟩:=hrel
  have hq:n/128^(j+1)<268435456:=Nat.lt_of_le_of_lt (Nat.div_le_self _ _) hn
  have HQ:=Hd (show n/128^(j+1+1)=n/128^(j+1)/128 by rw[Nat.div_div_eq_div_mul,Nat.pow_succ 128 (j+1)])
  have HN:=Hd (gput_next j n)
  have HBL:=Hd (show(gmore j (n/128)++[byt (n%128)]).length=j+1 by rw[List.length_append,gmore_len];rfl)
  have HGE:=Hd (show 0<n/128^(j+1)->128^(j+1)<=n from fun h=>(Nat.div_pos_iff.1 h).2)
  have HGS:=Hd (show n/128^(j+1)=0->gput n=gmore j (n/128)++[byt (n%128)]from fun h=>by
   have hlt:n<128^(j+1):=by
    rcases Nat.div_eq_zero_iff.1 h with h|h
    ·exact absurd h (Nat.pos_iff_ne_zero.1 (Nat.pow_pos (by decide)))
    ·exact h
   have hs:=gsize_at hj HG.out (Nat.div_lt_of_lt_mul (by rw[Nat.pow_succ,Nat.mul_comm]at hlt;rw[Nat.mul_comm];omega))
   unfold gput
   rw[hs];rfl)
  have HJ3:=Hd (show 0<n/128^(j+1)->j+1<=3 from fun h=>by
   have h1:=HGE.out h
   refine Nat.lt_of_not_le fun h3=>?_
   have:j=3:=by omega
   subst this
   omega)
  obtain⟨oa,oc,hof⟩:=HO.out.form
  subst hof
  generalize n/128^(j+1)=q at*
  generalize gmore j (n/128)++[byt (n%128)]=L at*
  by_cases hlt:0<q
  ·have HLT:=Hd hlt
   have ha:(128:Int)+(q:Int)%128=yv (byt (128+q%128)):=by rw[yv_byt];omega
   generalize byt (128+q%128)=b at*
   have HA:=Hd ((eR wr).alloc (.cells #[Y b] 5))
   have HXA:=Hd (HX.out.trans HA.out)
   have HOA:=Hd (show OwnY (wr.alloc (.cells #[Y b] 5)) w.heap.size (.slice (some ⟨wr.heap.size,0,none⟩) 1 1) [b]from OwnY.low (ownY_made wr [b] (by unfold maxLen;simp)) HX.out.size)
   have HRD:=Hd (HO.out.bs.later HA.out)
   go_wp2_with (first
    |(at_builtin;refine wpList_app rfl _ _ 22 rfl w.heap.size 5 (.int .u8 0) 1 1 Tryz.underlying22 infoU8' rfl (by decide) (by decide) _ _ _ rfl HOA.out _ _ _ rfl HRD.out (ycells_one _) (by rw[HBL.out];simp;omega) HXA.out.size ?_
      intro v9 w9 ho9 hg9
      have HX9:=Hd (Ext.grown HXA.out hg9 HOA.out (Nat.le_refl _))
      have HO9:=Hd (show OwnY w9 w.heap.size v9 (b::L)from by unfold OwnY;rw[List.length_cons,Nat.add_comm];exact ho9)
      clear ho9 hg9))
   go_roundw
   case rel=>exact⟨j+1,HJ3.out HLT.out,by rw[HQ.out];go_num,by rw[<-HN.out];exact HO9,Hd (fun _=>HGE.out HLT.out),HX9⟩
   case measure=>have:=HLT.out;simp[intOf];omega
  ·obtain rfl:q=0:=by omega
   have HF:=Hd (HGS.out rfl)
   go_wp2_with fail
   go_ret2
   exact⟨_,rfl,by rw[HF.out];exact HO.out,HX.out⟩
theorem r02Take_any(v:Value)(l:List Byt)(w:World)(h:BsAt w v l):
 Calls Tryz.prog 47 #[v] w fun e w'=>e=.returned (.tuple #[I ((gtake l).1:Nat),I ((gtake l).2.1:Nat),I (gtake l).2.2])/\Ext w w':=by
 obtain⟨a,cap,rfl,c1,c2,hc⟩:=h.form
 have HC:=Hd hc
 clear hc h
 unfold maxLen at c2
 by_cases hl0:l.length=0
 ·obtain rfl:=List.eq_nil_of_length_eq_zero hl0
  have HA:=Hd (show gtake []=(0,0,2)from rfl)
  clear hl0
  go_enter Tryz.func47,Tryz.ntmps47
  go_wp2_with fail
  go_loopw[5,6] (fun _ i wr=>i=I 0/\Hid (wr=w)) (fun _ _ _=>0)
  case atStart=>exact⟨rfl,Hd rfl⟩
  case round=>
   obtain⟨rfl,HW⟩:=hrel
   obtain rfl:=HW.out
   go_wp2_with fail
   go_ret3
   exact⟨by rw[HA.out];rfl,eR _⟩
 ·obtain⟨c,t,HLC⟩:∃c t,Hid (l=c::t):=by
   cases l with
   |nil=>exact absurd rfl hl0
   |cons c t=>exact⟨c,t,Hd rfl⟩
  have hlp:0<l.length:=by omega
  clear hl0
  obtain⟨b,off,rfl,hc0⟩:=HC.out 0 c (by rw[HLC.out];rfl)
  rw[Nat.add_zero]at hc0
  by_cases h0:c=128#8
  ·subst h0
   have HA:=Hd (show gtake l=(0,0,3)by rw[HLC.out];unfold gtake gtk;rw[if_pos ⟨rfl,rfl⟩])
   have hy:(yv 128#8==128)=true:=rfl
   go_enter Tryz.func47,Tryz.ntmps47
   go_wp2_with fail
   go_ret3
   exact⟨by rw[HA.out];rfl,eR _⟩
  ·have hy:(yv c==128)=false:=by rw[beq_eq_false_iff_ne];intro e;exact h0 (yv_inj e)
   have H0:=Hd (show∀(j:Nat),¬(j=0/\l[j]?=some 128#8)from fun j ⟨e1,e2⟩=>by subst e1;rw[HLC.out]at e2;exact h0 (Option.some.inj e2))
   clear h0
   go_enter Tryz.func47,Tryz.ntmps47
   go_upto_region 4 with fail
   clear hy hc0 hlp
   go_wp2_with fail
   go_loopw[5,6] (fun n i wr=>∃(j m:Nat),j<=4/\j<=l.length/\n=I m/\i=I j/\Hid (gtake l=gtk j m (l.drop j))/\m<128^j/\Hid (wr=w)) (fun _ i _=>l.length-(intOf i).toNat)
   case atStart=>exact⟨0,0,by omega,by omega,rfl,rfl,Hd rfl,by decide,Hd rfl⟩
   case round=>
    obtain⟨j,m,hj4,hjl,rfl,rfl,HG,hm,HW⟩:=hrel
    obtain rfl:=HW.out
    by_cases h4:j=4
    ·have HA:=Hd (show gtake l=(0,0,3)by rw[HG.out,h4,gtk_four])
     subst h4
     have hge:decide ((4:Int)<=(l.length:Int))=true:=dT (by omega)
     by_cases hlt:4<l.length
     ·go_wp2_with fail
      go_ret3
      exact⟨by rw[HA.out];rfl,eR _⟩
     ·go_wp2_with fail
      go_ret3
      exact⟨by rw[HA.out];rfl,eR _⟩
    ·have h4':j<4:=by omega
     by_cases hlt:j<l.length
     ·have hd1:decide ((j:Int)<(l.length:Int))=true:=dT (by omega)
      obtain⟨b',off',hbo,hcell⟩:=HC.out j _ (gE hlt)
      cases hbo
      have HD:=Hd (List.drop_eq_getElem_cons hlt)
      have HN0:=Hd (show¬(j=0/\l[j]=128#8)from fun⟨e1,e2⟩=>H0.out j ⟨e1,by rw[gE hlt,e2]⟩)
      have HLT:=Hd hlt
      generalize l[j]=x at*
      have hx:=yv_bd x
      have hm3:m<2097152:=Nat.lt_of_lt_of_le hm (show 128^j<=128^3 from Nat.pow_le_pow_right (by decide) (by omega))
      have hyx:yv x=(x.toNat:Int):=rfl
      by_cases hl:x.toNat<128
      ·have HA:=Hd (show gtake l=(m*128+x.toNat%128,j+1,0)by rw[HG.out,HD.out];unfold gtk;rw[if_neg HN0.out,if_neg h4,if_pos hl])
       have hyl:yv x<128:=by omega
       clear h4
       go_wp2_with fail
       try rw[Exit.noGoto_ret]
       go_ret3
       refine⟨?_,eR _⟩
       rw[HA.out]
       exact congrArg (fun z=>Ending.returned (Value.tuple #[z,_,I 0])) (by go_num)
      ·have hyl:¬yv x<128:=by omega
       have HA:=Hd (show gtake l=gtk (j+1) (m*128+x.toNat%128) (l.drop (j+1))by rw[HG.out,HD.out];conv=>(lhs;unfold gtk);rw[if_neg HN0.out,if_neg h4,if_neg hl])
       have HM:=Hd (show m*128+x.toNat%128<128^(j+1)by rw[Nat.pow_succ];omega)
       clear h4
       go_wp2_with fail
       go_roundw
       case rel=>
        refine⟨j+1,m*128+x.toNat%128,by omega,HLT.out,?_,by go_num,HA,HM.out,Hd trivial⟩
        go_num
       case measure=>have:=HLT.out;simp[intOf];omega
     ·obtain rfl:j=l.length:=by omega
      have HA:=Hd (show gtake l=(0,0,2)by rw[HG.out,List.drop_length];unfold gtk;rw[if_neg h4])
      have hge:decide ((4:Int)<=(l.length:Int))=false:=dF (by omega)
      clear h4
      go_wp2_with fail
      go_ret3
      exact⟨by rw[HA.out];rfl,eR _⟩
theorem r03Step_any(s:BitVec 32)(c:Byt)(w:World):Calls Tryz.prog 187 #[U s,Y c] w fun e w'=>e=.returned (U (crcStep s c))/\w=w':=by
 go_enter Tryz.func187,Tryz.ntmps187
 go_wp2_with fail
 go_loopw[0,5,6] (fun v i _ wr=>∃(j:Nat) (q:BitVec 32),j<=8/\i=I j/\v=U q/\Hid (crcStep s c=crcIt (8-j) q)/\Hid (wr=w)) (fun _ i _ _=>8-(intOf i).toNat)
 case atStart=>exact⟨0,_,by omega,rfl,rfl,Hd rfl,Hd rfl⟩
 case round=>
  obtain⟨j,q,hj,rfl,rfl,HQ,HW⟩:=hrel
  obtain rfl:=HW.out
  by_cases hlt:j<8
  ·have HS:=Hd (show crcStep s c=crcIt (8-(j+1)) (crcBit q)by rw[HQ.out,show 8-j=(8-(j+1))+1 by omega];rfl)
   have hl:=low_bit q
   cases hb:q.getLsbD 0 with
   |true=>
    rw[hb,if_pos rfl]at hl
    have HB:=Hd (show crcBit q=(q>>>1)^^^2197175160#32 by unfold crcBit;rw[hb,if_pos rfl];rfl)
    go_wp2_with fail
    go_roundw
    case rel=>
     refine⟨j+1,crcBit q,hlt,by go_num,?_,HS,Hd trivial⟩
     rw[HB.out,uv_half,xor_poly]
    case measure=>simp[intOf];omega
   |false=>
    rw[hb]at hl
    have HB:=Hd (show crcBit q=(q>>>1)by unfold crcBit;rw[hb];simp)
    go_wp2_with fail
    go_roundw
    case rel=>
     refine⟨j+1,crcBit q,hlt,by go_num,?_,HS,Hd trivial⟩
     rw[HB.out,uv_half]
    case measure=>simp[intOf];omega
  ·obtain rfl:j=8:=by omega
   go_wp2_with fail
   go_ret
   exact⟨by rw[HQ.out];rfl,rfl⟩
theorem r03More_any(s:BitVec 32)(v:Value)(l:List Byt)(w:World)(h:BsAt w v l):Calls Tryz.prog 151 #[U s,v] w fun e w'=>e=.returned (U (crcMore s l))/\w=w':=by
 obtain⟨a,cap,rfl,c1,c2,hc⟩:=h.form
 have HC:=Hd hc
 clear hc h
 unfold maxLen at c2
 have hns:∀x:BitVec 32,bits .xor .u32 (uv x) 4294967295=uv (~~~ x):=fun x=>by
  rw[show(4294967295:Int)=uv (4294967295#32)from rfl,bits_xor_uv]
  congr 1
  exact BitVec.xor_allOnes (x:=x)
 go_enter Tryz.func151,Tryz.ntmps151
 go_wp2_with fail
 go_loopw[0,5] (fun v i wr=>∃(j:Nat),j<=l.length/\i=I j/\v=U (crcAll (~~~ s) (l.take j))/\Hid (wr=w)) (fun _ i _=>l.length-(intOf i).toNat)
 case atStart=>exact⟨0,Nat.zero_le _,rfl,rfl,Hd rfl⟩
 case round=>
  obtain⟨j,hj,rfl,rfl,HW⟩:=hrel
  obtain rfl:=HW.out
  by_cases hlt:j<l.length
  ·obtain⟨b,off,rfl,hcell⟩:=HC.out j _ (gE hlt)
   have HT:=Hd (show crcAll (~~~ s) (l.take (j+1))=crcStep (crcAll (~~~ s) (l.take j)) l[j]by rw[List.take_succ_eq_append_getElem hlt];unfold crcAll;rw[List.foldl_append];rfl)
   have HLT:=Hd hlt
   generalize l[j]=x at*
   generalize crcAll (~~~ s) (l.take j)=q at*
   go_wp2_with (first
    |(go_at_call 187;(with_reducible refine(r03Step_any _ _ _).mono ?_);rintro e w2 ⟨he,hw⟩;subst he hw))
   go_roundw
   case rel=>exact⟨j+1,HLT.out,by go_num,by rw[HT.out],Hd trivial⟩
   case measure=>have:=HLT.out;simp[intOf];omega
  ·obtain rfl:j=l.length:=by omega
   rw[List.take_length]
   have HM:=Hd (show crcMore s l= ~~~ (crcAll (~~~ s) l)from rfl)
   generalize crcAll (~~~ s) l=q at*
   go_wp2_with fail
   go_ret
   exact⟨by rw[HM.out];rfl,rfl⟩
theorem r03Sum_any(v:Value)(l:List Byt)(w:World)(h:BsAt w v l):Calls Tryz.prog 106 #[v] w fun e w'=>e=.returned (U (crcSum l))/\w=w':=by
 have HM:=Hd (fun w (h:BsAt w v l)=>show Calls Tryz.prog 151 #[.int .u32 0,v] w fun e w'=>e=.returned (U (crcSum l))/\w=w' from r03More_any 0#32 v l w h)
 have HH:=Hd h
 obtain⟨a,cap,rfl,-⟩:=h.form
 clear h
 go_enter Tryz.func106,Tryz.ntmps106
 go_wp2_with (first
  |(go_at_call 151;(with_reducible refine(HM.out _ HH.out).mono ?_);rintro e w2 ⟨he,hw⟩;subst he hw))
 go_ret
 exact⟨rfl,rfl⟩
theorem r04Put_any(m:BitVec 32)(v:Value)(l:List Byt)(w:World)(h:BsAt w v l)(hl:l.length<=1000000000):Calls Tryz.prog 56 #[U m,v] w fun e w'=>∃u,e=.returned u/\OwnY w' w.heap.size u (fput m l)/\Ext w w':=by
 have HC:=Hd h
 obtain⟨a,cap,rfl,c1,c2,-⟩:=h.form
 clear h
 have H4:=Hd (fun s:BitVec 32=>show(be4 s).length=4 from beN_len 4 _)
 have HP:=Hd (fun(s:BitVec 32) W=>show Calls Tryz.prog 116 #[.int .i64 (uv s),.int .i64 4] W fun e w'=>∃u,e=.returned (.tuple #[u,I 0])/\OwnY w' W.heap.size u (be4 s)/\Ext W w' from r01Put4_any s.toNat (by have:=s.isLt;omega) W)
 go_enter Tryz.func56,Tryz.ntmps56
 go_upto_region 2 with(first
  |(go_at_call 116;(with_reducible refine(HP.out _ _).mono ?_);rintro e w2 ⟨v2,he,ho2,hx2⟩;obtain⟨a2,p2,hue⟩:=ho2.form;subst hue;subst he;have HO2:=Hd ho2;have HX2:=Hd hx2;clear ho2 hx2))
 have HL2:=Hd (HC.out.later HX2.out)
 have HLE:=Hd (show(be4 m++l).length=l.length+4 by rw[List.length_append,H4.out];omega)
 go_upto_region 3 with(first
  |(at_builtin;refine wpList_app rfl _ _ 22 rfl w.heap.size 5 (.int .u8 0) 1 1 Tryz.underlying22 infoU8' rfl (by decide) (by decide) _ _ _ rfl HO2.out _ _ _ rfl HL2.out (ycells_one _) (by rw[H4.out];omega) HX2.out.size ?_
    intro v4 w4 ho4 hg4;have HO4:=Hd (show OwnY w4 w.heap.size v4 (be4 m++l)by unfold OwnY;rw[ycells_app,List.length_append];exact ho4);have HX4:=Hd (Ext.grown HX2.out hg4 HO2.out (Nat.le_refl _));clear ho4 hg4))
 have HFP:=Hd (show fput m l=(be4 m++l)++be4 (crcSum (be4 m++l))from rfl)
 generalize be4 m++l=L at*
 obtain⟨a4,p4,e4⟩:=HO4.out.form
 subst e4
 go_wp2_with (first
  |(go_at_call 106;(with_reducible refine(r03Sum_any _ _ _ HO4.out.bs).mono ?_);rintro e w5 ⟨he,hw⟩;subst he hw)
  |(go_at_call 116;(with_reducible refine(HP.out _ _).mono ?_);rintro e w6 ⟨v6,he,ho6,hx6⟩;obtain⟨a6,p6,hue⟩:=ho6.form;subst hue;subst he;have HF6:=Hd ho6.bs;have HO6:=Hd (HO4.out.later hx6);have HX6:=Hd (HX4.out.trans hx6);clear ho6 hx6)
  |(at_builtin;refine wpList_app rfl _ _ 22 rfl w.heap.size 5 (.int .u8 0) 1 1 Tryz.underlying22 infoU8' rfl (by decide) (by decide) _ _ _ rfl HO6.out _ _ _ rfl HF6.out (ycells_one _) (by rw[H4.out,HLE.out];omega) HX6.out.size ?_
    intro v7 w7 ho7 hg7;have HO7:=Hd (show OwnY w7 w.heap.size v7 (fput m l)by rw[HFP.out];unfold OwnY;rw[ycells_app,List.length_append];exact ho7);have HX7:=Hd (Ext.grown HX6.out hg7 HO6.out (Nat.le_refl _));clear ho7 hg7))
 go_ret
 exact⟨_,rfl,HO7.out,HX7.out⟩
theorem take_be4{l:List Byt}(m:BitVec 32)(h:l.length=4):((deN l:Int) !=uv m)=!decide (l=be4 m):=by
 by_cases e:l=be4 m
 ·subst e
  rw[dT rfl,show deN (be4 m)=m.toNat from deN_beN 4 _ (by have:=m.isLt;omega)]
  exact bne_self_eq_false' _
 ·rw[dF e]
  refine bne_iff_ne.2 fun h1=>e ?_
  have h2:deN l=m.toNat:=by unfold uv at h1;omega
  have h3:=beN_deN 4 l h
  rw[h2]at h3
  exact h3.symm
theorem r04Take_any(m:BitVec 32)(v:Value)(l:List Byt)(w:World)(h:BsAt w v l)(hl:l.length<=1000000000):Calls Tryz.prog 46 #[U m,v] w (TookY w (ftake m l)):=by
 have HC:=Hd h
 obtain⟨a,cap,rfl,c1,c2,-⟩:=h.form
 clear h
 unfold maxLen at c2
 by_cases h8:l.length<8
 ·have HA:=Hd (show ftake m l=([],2)by unfold ftake;rw[if_pos h8])
  have hd:decide ((l.length:Int)<8)=true:=dT (by omega)
  go_enter Tryz.func46,Tryz.ntmps46
  go_wp2_with fail
  go_ret2
  rw[HA.out]
  exact⟨⟨_,rfl,OwnY.nil _ _,fun _=>rfl⟩,eR _⟩
 ·obtain⟨E,hE⟩:∃E,l.length=E+4:=⟨l.length-4,by omega⟩
  have hd:decide ((l.length:Int)<8)=false:=dF (by omega)
  have HN1:=Hd (show numTake l ((4:Nat):Int)=(((deN (l.take 4):Nat):Int),0)by unfold numTake;rw[if_neg (by decide),if_neg (by omega)];rfl)
  have HB1:=Hd (take_be4 (l:=l.take 4) m (by rw[List.length_take];omega))
  have HB2:=Hd (take_be4 (l:=l.drop E) (crcSum (l.take E)) (by rw[List.length_drop];omega))
  have HTK:=Hd (fun W V L (h:BsAt W V L)=>show Calls Tryz.prog 105 #[V,.int .i64 4] W _ from r01Take_any V L 4 (.inr (.inr rfl)) W h)
  have hE4:4<=E:=by omega
  have hE4i:(4:Int)<=(E:Int):=by omega
  have hEc:E<=cap:=by omega
  have hEl:(E:Int)<=(l.length:Int):=by omega
  have hEc':(E:Int)<=(cap:Int):=by omega
  have hlc:(l.length:Int)<=(cap:Int):=by omega
  have hsub:(l.length:Int)-4=(E:Int):=by omega
  have HE:=Hd hE
  clear hE
  go_enter Tryz.func46,Tryz.ntmps46
  go_upto_region 5 with(first
   |(go_at_call 105;(with_reducible refine(HTK.out _ _ _ HC.out).mono ?_);rintro e w2 ⟨he,hx⟩;rw[HN1.out]at he;subst he;have HX2:=Hd hx;clear hx))
  by_cases hm:l.take 4=be4 m
  ·have hb1:((deN (l.take 4):Int) !=uv m)=false:=by rw[HB1.out,dT hm];rfl
   have HM:=Hd hm
   clear hm
   go_upto_region 7 with fail
   clear hb1
   have HTD:=Hd (show BsAt w (.slice (Option.map (fun x=>x.add E) a) (l.length-E) (cap-E)) (l.drop E)from by
    have h:=BsAt.dropN (j:=E) HC.out (by omega)
    unfold sliced at h
    rw[if_neg (by omega),Nat.mul_one]at h
    exact h)
   have HTE:=Hd (show BsAt w (.slice a E cap) (l.take E)from HC.out.cut hEc (Nat.le_refl _) (by omega))
   have HTM:=Hd (show BsAt w (.slice (Option.map (fun x=>x.add 4) a) (E-4) (cap-4)) ((l.take E).drop 4)from by
    have h:=HC.out.piece3 (i:=4) (j:=E) (k:=cap) hE4 hEc (Nat.le_refl _) (by omega)
    unfold sliced at h
    rw[if_neg (by omega)]at h
    exact h)
   have HN2:=Hd (show numTake (l.drop E) ((4:Nat):Int)=(((deN (l.drop E):Nat):Int),0)by
    have h4:(l.drop E).length=4:=by rw[List.length_drop];omega
    unfold numTake
    rw[if_neg (by decide),if_neg (by omega)]
    show(((deN ((l.drop E).take 4):Nat):Int),0)=_
    rw[List.take_of_length_le (by omega)])
   go_upto_region 8 with(first
    |(go_at_call 105;(with_reducible refine(HTK.out _ _ _ (HTD.out.later HX2.out)).mono ?_);rintro e w3 ⟨he,hx⟩;rw[HN2.out]at he;subst he;have HX3:=Hd (HX2.out.trans hx);clear hx))
   by_cases hs:l.drop E=be4 (crcSum (l.take E))
   ·have hb2:((deN (l.drop E):Int) !=uv (crcSum (l.take E)))=false:=by rw[HB2.out,dT hs];rfl
    have HA:=Hd (show ftake m l=((l.take E).drop 4,0)by
     unfold ftake;rw[if_neg h8,if_neg (not_not_intro HM.out),show l.length-4=E by have:=HE.out;omega,if_neg (not_not_intro hs)])
    clear hs
    go_upto_region 10 with(first
     |(go_at_call 106;(with_reducible refine(r03Sum_any _ _ _ (HTE.out.later HX3.out)).mono ?_);rintro e w5 ⟨he,hw⟩;subst he hw))
    clear hb2
    have HXA:=Hd ((eR w3).alloc (.cells #[] 5))
    have HXB:=Hd (HX3.out.trans HXA.out)
    have HOA:=Hd (show OwnY (w3.alloc (.cells #[] 5)) w.heap.size (.slice (some ⟨w3.heap.size,0,none⟩) 0 0) []from OwnY.low (ownY_made w3 [] (Nat.zero_le _)) HX3.out.size)
    have HRD:=Hd (HTM.out.later HXB.out)
    go_wp2_with (first
     |(at_builtin;refine wpList_app rfl _ _ 22 rfl w.heap.size 5 (.int .u8 0) 1 1 Tryz.underlying22 infoU8' rfl (by decide) (by decide) _ _ _ rfl HOA.out _ _ _ rfl HRD.out (ycells_one _) (by simp;omega) HXB.out.size ?_
       intro v7 w7 ho7 hg7;have HO7:=Hd (show OwnY w7 w.heap.size v7 ((l.take E).drop 4)by have h:=ho7;simp only[List.length_nil,Nat.zero_add]at h;exact h);have HX7:=Hd (Ext.grown HXB.out hg7 HOA.out (Nat.le_refl _));clear ho7 hg7))
    go_ret2
    rw[HA.out]
    exact⟨⟨_,rfl,HO7.out,fun h=>absurd rfl h⟩,HX7.out⟩
   ·have hb2:((deN (l.drop E):Int) !=uv (crcSum (l.take E)))=true:=by rw[HB2.out,dF hs];rfl
    have HA:=Hd (show ftake m l=([],6)by
     unfold ftake;rw[if_neg h8,if_neg (not_not_intro HM.out),show l.length-4=E by have:=HE.out;omega,if_pos hs])
    clear hs
    go_wp2_with (first
     |(go_at_call 106;(with_reducible refine(r03Sum_any _ _ _ (HTE.out.later HX3.out)).mono ?_);rintro e w5 ⟨he,hw⟩;subst he hw))
    go_ret2
    rw[HA.out]
    exact⟨⟨_,rfl,OwnY.nil _ _,fun _=>rfl⟩,HX3.out⟩
  ·have hb1:((deN (l.take 4):Int) !=uv m)=true:=by rw[HB1.out,dF hm];rfl
   have HA:=Hd (show ftake m l=([],5)by unfold ftake;rw[if_neg h8,if_pos hm])
   clear hm
   go_wp2_with fail
   go_ret2
   rw[HA.out]
   exact⟨⟨_,rfl,OwnY.nil _ _,fun _=>rfl⟩,HX2.out⟩
theorem r01Row4_any(v:Value)(us:List (BitVec 32))(w:World)(h:IntsAt w v (us.map uv))(hl:us.length<=1000):Calls Tryz.prog 118 #[.int .i64 4,v] w fun e w'=>∃u,e=.returned (.tuple #[u,I 0])/\OwnY w' w.heap.size u (us.flatMap be4)/\Ext w w':=by
 have HH:=Hd h
 obtain⟨a,cap,rfl,c1,c2,hc⟩:=h.form
 have HC:=Hd hc
 clear h hc
 unfold maxLen at c2
 rw[List.length_map]at c1 ⊢
 have HP:=Hd (fun(s:BitVec 32) W=>show Calls Tryz.prog 116 #[.int .i64 (uv s),.int .i64 4] W fun e w'=>∃u,e=.returned (.tuple #[u,I 0])/\OwnY w' W.heap.size u (be4 s)/\Ext W w' from r01Put4_any s.toNat (by have:=s.isLt;omega) W)
 go_enter Tryz.func118,Tryz.ntmps118
 go_upto_region 4 with fail
 refine hWp (fun W=>Ext w W/\OwnY W w.heap.size (.slice (some ⟨w.heap.size,0,none⟩) 0 0) []) ⟨by(repeat with_reducible first|exact eR _|assumption|refine eA ?_ _|refine eD ?_|refine eW ?_ _|(refine eS ?_ ?_;focus(first|(simp;done)|(simp;omega)|omega))),ownY_made w [] (Nat.zero_le _)⟩ (fun W1 hW1=>?_)
 obtain⟨hx1,ho1⟩:=hW1
 have HX1:=Hd hx1
 have HO1:=Hd ho1
 clear hx1 ho1
 go_wp2_with fail
 go_loopw[6,7] (fun v i wr=>∃(k:Nat),k<=us.length/\i=I k/\Hid (OwnY wr w.heap.size v ((us.take k).flatMap be4))/\Hid (Ext w wr)) (fun _ i _=>us.length-(intOf i).toNat)
 case atStart=>exact⟨0,by omega,rfl,HO1,HX1⟩
 case round=>
  obtain⟨k,hk,rfl,HO,HX⟩:=hrel
  have HBL:=Hd (show((us.take k).flatMap be4).length<=4*k from by
   have key:∀m:List (BitVec 32),(m.flatMap be4).length=4*m.length:=fun m=>by
    induction m with
    |nil=>rfl
    |cons x m ih=>rw[List.flatMap_cons,List.length_append,be4_len,ih,List.length_cons];omega
   rw[key,List.length_take];omega)
  obtain⟨oa,oc,hof⟩:=HO.out.form
  subst hof
  by_cases hlt:k<us.length
  ·have HLT:=Hd hlt
   have HN:=Hd (show(us.take (k+1)).flatMap be4=(us.take k).flatMap be4++be4 us[k]by rw[List.take_succ_eq_append_getElem hlt,List.flatMap_append,List.flatMap_cons,List.flatMap_nil,List.append_nil];rfl)
   obtain⟨b,off,rfl,hcell⟩:=HC.out k (uv us[k]) (by rw[List.getElem?_map,gE hlt];rfl)
   replace hcell:=HX.out.cell hcell
   generalize us[k]=x at*
   generalize (us.take k).flatMap be4=L at*
   go_wp2_with (first
    |(go_at_call 116;(with_reducible refine(HP.out _ _).mono ?_);rintro e w2 ⟨v2,he,ho2,hx2⟩;obtain⟨a2,p2,hue⟩:=ho2.form;subst hue;subst he;have HB2:=Hd ho2.bs;have HO2:=Hd (HO.out.later hx2);have HX2:=Hd (HX.out.trans hx2);clear ho2 hx2 hcell)
    |(at_builtin;refine wpList_app rfl _ _ 22 rfl w.heap.size 5 (.int .u8 0) 1 1 Tryz.underlying22 infoU8' rfl (by decide) (by decide) _ _ _ rfl HO2.out _ _ _ rfl HB2.out (ycells_one _) (by rw[be4_len];have:=HBL.out;have:=HLT.out;omega) HX2.out.size ?_
      intro v9 w9 ho9 hg9
      have HX9:=Hd (Ext.grown HX2.out hg9 HO2.out (Nat.le_refl _))
      have HO9:=Hd (show OwnY w9 w.heap.size v9 (L++be4 x)from by unfold OwnY;rw[ycells_app,List.length_append];exact ho9)
      clear ho9 hg9))
   go_roundw
   case rel=>exact⟨k+1,HLT.out,by go_num,by rw[HN.out];exact HO9,HX9⟩
   case measure=>have:=HLT.out;simp[intOf];omega
  ·obtain rfl:k=us.length:=by omega
   rw[List.take_length]at HO ⊢
   go_wp2_with fail
   go_ret2
   exact⟨_,rfl,HO.out,HX.out⟩
end Go.Proofs.YtjflkifodfncmaaGreatDoor
