/- GBytW, GFTk: these texts in one. Conditions: each theorem names its own. -/
import Derived.Test.YtjflkifodfncmaaGreatDoorGByt
import Derived.Deep.OwnRows
import Derived.WalkMore
import Derived.Laws.Rows
import Derived.Laws.Tables
import Derived.Laws.CopyRow
import Derived.Deep.WholeRow
namespace Go.Proofs.YtjflkifodfncmaaGreatDoor
set_option maxHeartbeats 4000000
set_option maxRecDepth 100000
open Go Go.RowKit Go.Maps Go.Proofs
theorem sized_yes(s:Int)(hk:1<=s/\s<=4)(w:World):Calls Tryz.prog 129 #[I s] w fun e w'=>e=.returned (.bool true)/\w=w':=by
 obtain⟨h1,h2⟩:=hk
 have d1:decide ((1:Int)<=s)=true:=dT (by omega)
 have d2:decide (s<=4)=true:=dT (by omega)
 go_enter Tryz.func129,Tryz.ntmps129
 go_wp2
 go_ret
 exact⟨rfl,rfl⟩
theorem made_bytes(k:Nat):(madeCells #[Value.int .u8 0] k)=(ycells (List.replicate k 0#8)).toArray:=by
 unfold ycells madeCells
 rw[List.map_replicate]
 refine Array.ext (by simp) fun i h1 h2=>?_
 simp[Nat.mod_one]
 rfl
theorem numPut_cell{K j:Nat}(n:Nat)(h:j<K):(ycells (List.replicate (K-j) 0#8++beN j n))[K-1-j]?=some (Y 0#8):=by
 refine ycells_get ?_
 rw[List.getElem?_append_left (by rw[List.length_replicate];omega),List.getElem?_replicate,if_pos (by omega)]
theorem numPut_set{K j:Nat}(n:Nat)(h:j<K):(ycells (List.replicate (K-j) 0#8++beN j n)).set (K-1-j) (Y (byt (n/256^j)))=ycells (List.replicate (K-(j+1)) 0#8++beN (j+1) n):=by
 unfold ycells
 rw[<-List.map_set,beN_cons]
 congr 1
 rw[show K-j=(K-(j+1))+1 by omega,List.replicate_succ',List.append_assoc,List.set_append,List.length_replicate,if_neg (by omega),show K-1-j-(K-(j+1))=0 by omega]
 rfl
theorem numPut_any(k:Nat)(hk:k=1\/k=2\/k=4)(n:Nat)(hn:n<256^k)(w:World):
 Calls Tryz.prog 77 #[I n,I k] w fun e w'=>∃v,e=.returned (.tuple #[v,I 0])/\OwnY w' w.heap.size v (beN k n)/\Ext w w':=by
 obtain⟨i8,hi8,hz8,hs8,hb8⟩:=info_parts infoU8'
 have HI8:=Hd hi8
 have HZ8:=Hd hz8
 have HS8:=Hd hs8
 clear hi8 hz8 hs8
 have d1:decide ((n:Int)<0)=false:=dF (by omega)
 obtain⟨K,hK⟩:∃K:Nat,K=k:=⟨k,rfl⟩
 have HK:=Hd (show K<=4 by omega)
 have HL:=Hd hK
 have HN:=Hd hn
 have D:(k=1/\decide ((256:Int)<=(n:Int))=false)\/(k=2/\decide ((65536:Int)<=(n:Int))=false)\/(k=4/\decide ((4294967296:Int)<=(n:Int))=false):=by
  rcases hk with rfl|rfl|rfl
  ·exact .inl ⟨rfl,dF (by omega)⟩
  ·exact .inr (.inl ⟨rfl,dF (by omega)⟩)
  ·exact .inr (.inr ⟨rfl,dF (by omega)⟩)
 clear hk
 rcases D with⟨rfl,d2⟩|⟨rfl,d2⟩|⟨rfl,d2⟩
 all_goals
  clear hK hn
  go_enter Tryz.func77,Tryz.ntmps77
  go_wp2_with (first
   |(go_at_call 129;(with_reducible refine(sized_yes _ (by decide) _).mono ?_);rintro e w2 ⟨he,hw⟩;subst he hw)
   |(at_make;first|(refine wpList_make_row _ rfl _ _ 22 rfl 5 i8 (.int .u8 0) Tryz.underlying22 HI8.out HZ8.out HS8.out rfl .i64 .i64 1 rfl rfl (by rw[hb8];omega) (by omega) ?_)|(refine wpList_make_row _ rfl _ _ 22 rfl 5 i8 (.int .u8 0) Tryz.underlying22 HI8.out HZ8.out HS8.out rfl .i64 .i64 2 rfl rfl (by rw[hb8];omega) (by omega) ?_)|(refine wpList_make_row _ rfl _ _ 22 rfl 5 i8 (.int .u8 0) Tryz.underlying22 HI8.out HZ8.out HS8.out rfl .i64 .i64 4 rfl rfl (by rw[hb8];omega) (by omega) ?_)))
  refine hWp (fun W=>Ext w W/\Blk W w.heap.size (ycells (List.replicate K 0#8)) 5)
   ⟨by(repeat with_reducible first|exact eR _|assumption|refine eA ?_ _|refine eD ?_|refine eW ?_ _|(refine eS ?_ ?_;focus(first|(simp;done)|(simp;omega)|omega))),by rw[HL.out,made_bytes];exact Blk.new w _ _⟩ (fun W1 hW1=>?_)
  obtain⟨hx1,hb1⟩:=hW1
  have HX1:=Hd hx1
  have HB1:=Hd hb1
  clear hx1 hb1
  go_loopw[25] (fun i wr=>∃(j:Nat),j<=K/\i=I j/\Hid (Blk wr w.heap.size (ycells (List.replicate (K-j) 0#8++beN j n)) 5)/\Hid (Ext w wr)) (fun i _=>K-(intOf i).toNat)
  case atStart=>exact⟨0,Nat.zero_le _,rfl,Hd (by simpa[beN]using HB1.out),HX1.out⟩
  case round=>
   obtain⟨j,hj,rfl,HB,HX⟩:=hrel
   by_cases hlt:j<K
   ·have hc:=HB.out.cells (K-1-j)
    rw[numPut_cell n hlt]at hc
    have hf:=HB.out.frozen (K-1-j)
    have HS:=Hd (show∀v,v=Y (byt (n/256^j))->Blk (wr.setCell ⟨w.heap.size,K-1-j,none⟩ v) w.heap.size (ycells (List.replicate (K-(j+1)) 0#8++beN (j+1) n)) 5 from fun v hv=>by
     rw[<-numPut_set n hlt,hv];exact HB.out.set _ _)
    have HXS:=Hd (show∀o v,Ext w (wr.setCell ⟨w.heap.size,o,none⟩ v)from fun o v=>HX.out.setCell (Nat.le_refl _) v)
    have HJ:=Hd hlt
    have HKL:=HL.out
    subst HKL
    rcases(show j=0\/j=1\/j=2\/j=3 by omega)with rfl|rfl|rfl|rfl
    all_goals first
     |(exfalso;exact absurd HJ.out (by decide))
     |(go_wp2_with fail
       go_roundw
       case rel=>
        refine⟨_,HJ.out,rfl,?_,?_⟩
        ·refine HS.out _ ?_
         show Value.int .u8 _=.int .u8 (yv _)
         rw[yv_byt]
         refine congrArg _ ?_
         omega
        ·exact HXS.out _ _
       case measure=>simp[intOf])
   ·have hjK:j=K:=Nat.le_antisymm hj (Nat.le_of_not_lt hlt)
    have HB2:=Hd (show Blk wr w.heap.size (ycells (beN K n)) 5 by have h:=HB.out;rw[hjK,Nat.sub_self]at h;exact h)
    have HO2:=Hd (ownY_blk HB2.out (by rw[beN_len];exact Nat.le_trans HK.out (by unfold maxLen;omega)))
    have HKL:=HL.out
    subst hjK
    subst HKL
    go_wp2_with fail
    go_ret2
    exact⟨_,rfl,HO2.out,HX.out⟩
theorem or_byte{m:Nat}(hm:m<16777216)(x:Byt):bits .or .i64 ((m:Int)*256) (yv x)=((m*256+x.toNat:Nat):Int):=by
 have hx:=x.isLt
 have h1:(BitVec.ofInt 64 ((m:Int)*256)).toNat=m<<<8:=by
  rw[Nat.shiftLeft_eq,show((m:Int)*256)=((m*2^8:Nat):Int)by omega,BitVec.ofInt_natCast,BitVec.toNat_ofNat];exact Nat.mod_eq_of_lt (by omega)
 have h2:(BitVec.ofInt 64 (yv x)).toNat=x.toNat:=by
  unfold yv;rw[BitVec.ofInt_natCast,BitVec.toNat_ofNat];exact Nat.mod_eq_of_lt (by omega)
 have h3:m<<<8|||x.toNat=m*256+x.toNat:=by rw[<-Nat.shiftLeft_add_eq_or_of_lt (by omega:x.toNat<2^8),Nat.shiftLeft_eq]
 show IntKind.i64.wrap ((BitVec.ofInt 64 ((m:Int)*256)|||BitVec.ofInt 64 (yv x)).toNat:Int)=_
 rw[BitVec.toNat_or,h1,h2,h3,IntKind.wrap_i64]
 omega
theorem take_step{l:List Byt}{j:Nat}(h:j<l.length):deN (l.take (j+1))=deN (l.take j)*256+l[j].toNat:=by
 rw[List.take_succ_eq_append_getElem h,deN_snoc]
theorem take_lt(l:List Byt)(j:Nat):deN (l.take j)<256^j:=
 Nat.lt_of_lt_of_le (deN_lt _ (l.take j) rfl) (Nat.pow_le_pow_right (by decide) (by rw[List.length_take];omega))
theorem numTake_any(v:Value)(l:List Byt)(k:Nat)(hk:k=1\/k=2\/k=4)(w:World)(h:BsAt w v l):
 Calls Tryz.prog 123 #[v,I k] w fun e w'=>e=.returned (.tuple #[I (numTake l k).1,I (numTake l k).2])/\Ext w w':=by
 obtain⟨a,cap,rfl,c1,c2,hc⟩:=h.form
 have HC:=Hd hc
 clear hc h
 unfold maxLen at c2
 by_cases hs:l.length<k
 ·have hn:numTake l k=(0,2):=by unfold numTake;rw[if_neg (by omega),if_pos (by omega)]
  rw[hn]
  have D:(k=1/\decide ((l.length:Int)<1)=true)\/(k=2/\decide ((l.length:Int)<2)=true)\/(k=4/\decide ((l.length:Int)<4)=true):=by
   rcases hk with rfl|rfl|rfl
   ·exact .inl ⟨rfl,dT (by omega)⟩
   ·exact .inr (.inl ⟨rfl,dT (by omega)⟩)
   ·exact .inr (.inr ⟨rfl,dT (by omega)⟩)
  clear hk hn hs
  rcases D with⟨rfl,d2⟩|⟨rfl,d2⟩|⟨rfl,d2⟩
  all_goals
   go_enter Tryz.func123,Tryz.ntmps123
   go_wp2_with (first
    |(go_at_call 129;(with_reducible refine(sized_yes _ (by decide) _).mono ?_);rintro e w2 ⟨he,hw⟩;subst he hw))
   go_ret2
   exact⟨rfl,eR _⟩
 ·have hn:numTake l k=(((deN (l.take k):Nat):Int),0):=by unfold numTake;rw[if_neg (by omega),if_neg (by omega),Int.toNat_natCast]
  rw[hn]
  have D:(k=1/\decide ((l.length:Int)<1)=false)\/(k=2/\decide ((l.length:Int)<2)=false)\/(k=4/\decide ((l.length:Int)<4)=false):=by
   rcases hk with rfl|rfl|rfl
   ·exact .inl ⟨rfl,dF (by omega)⟩
   ·exact .inr (.inl ⟨rfl,dF (by omega)⟩)
   ·exact .inr (.inr ⟨rfl,dF (by omega)⟩)
  have hk4:k<=4:=by omega
  have HKL:=Hd (Nat.le_of_not_lt hs)
  clear hk hn hs
  obtain⟨K,hK⟩:∃K:Nat,K=k:=⟨k,rfl⟩
  rcases D with⟨rfl,d2⟩|⟨rfl,d2⟩|⟨rfl,d2⟩
  all_goals
   have HK:=Hd hK
   clear hK
   go_enter Tryz.func123,Tryz.ntmps123
   go_wp2_with (first
    |(go_at_call 129;(with_reducible refine(sized_yes _ (by decide) _).mono ?_);rintro e w2 ⟨he,hw⟩;subst he hw))
   go_loopw[4,15] (fun n i wr=>∃(j:Nat),j<=K/\n=I (deN (l.take j):Nat)/\i=I j/\Hid (wr=w)) (fun _ i _=>K-(intOf i).toNat)
   case atStart=>exact⟨0,Nat.zero_le _,by simp[deN],rfl,Hd rfl⟩
   case round=>
    obtain⟨j,hj,rfl,rfl,HW⟩:=hrel
    obtain rfl:=HW.out
    by_cases hlt:j<K
    ·have hjl:j<l.length:=Nat.lt_of_lt_of_le hlt (by rw[HK.out];exact HKL.out)
     obtain⟨b,off,rfl,hcell⟩:=HC.out j _ (gE hjl)
     have HT:=Hd (take_step hjl)
     have HB:=Hd (take_lt l j)
     have HJ:=Hd hlt
     have HK':=HK.out
     subst HK'
     have hm:deN (l.take j)<16777216:=Nat.lt_of_lt_of_le HB.out (show 256^j<=256^3 from Nat.pow_le_pow_right (by decide) (by omega))
     clear HB
     generalize l[j]=x at*
     generalize hmm:deN (l.take j)=m at*
     have hx:=yv_bd x
     go_wp2_with fail
     go_roundw
     case rel=>
      refine⟨j+1,HJ.out,?_,by go_num,Hd trivial⟩
      rw[HT.out,or_byte hm]
     case measure=>simp[intOf];omega
    ·have hjK:j=K:=Nat.le_antisymm hj (Nat.le_of_not_lt hlt)
     have HK':=HK.out
     subst hjK
     subst HK'
     go_wp2_with fail
     go_ret2
     exact⟨rfl,eR _⟩
theorem groupTake_any(v:Value)(l:List Byt)(w:World)(h:BsAt w v l):
 Calls Tryz.prog 87 #[v] w fun e w'=>e=.returned (.tuple #[I ((gtake l).1:Nat),I ((gtake l).2.1:Nat),I (gtake l).2.2])/\Ext w w':=by
 obtain⟨a,cap,rfl,c1,c2,hc⟩:=h.form
 have HC:=Hd hc
 clear hc h
 unfold maxLen at c2
 go_enter Tryz.func87,Tryz.ntmps87
 go_wp2_with fail
 go_step3
 go_wp2_with fail
 go_step3
 go_wp2_with fail
 go_loopw[5,6,7,12] (fun n c b i wr=>∃(j m:Nat),j<=4/\j<=l.length/\n=I m/\c=I j/\b=.bool false/\i=I j/\Hid (gtake l=gtk j m (l.drop j))/\m<128^j/\Hid (wr=w)) (fun _ _ _ i _=>l.length-(intOf i).toNat)
 case atStart=>exact⟨0,0,by omega,by omega,rfl,rfl,rfl,rfl,Hd rfl,by decide,Hd rfl⟩
 case round=>
  obtain⟨j,m,hj4,hjl,rfl,rfl,rfl,rfl,HG,hm,HW⟩:=hrel
  obtain rfl:=HW.out
  by_cases hlt:j<l.length
  ·have hd1:decide ((j:Int)<(l.length:Int))=true:=dT (by omega)
   obtain⟨b,off,rfl,hcell⟩:=HC.out j _ (gE hlt)
   have HD:=Hd (List.drop_eq_getElem_cons hlt)
   generalize l[j]=x at*
   have hx:=yv_bd x
   have hm3:j<4->m<2097152:=fun h=>Nat.lt_of_lt_of_le hm (show 128^j<=128^3 from Nat.pow_le_pow_right (by decide) (by omega))
   have hyx:yv x=(x.toNat:Int):=rfl
   by_cases h0:j=0/\x=128#8
   ·obtain⟨hj0,rfl⟩:=h0
    have HA:=Hd (show gtake l=(0,0,3)by rw[HG.out,HD.out];unfold gtk;rw[if_pos ⟨hj0,rfl⟩])
    have hy:(yv 128#8==128)=true:=rfl
    subst hj0
    rw[Nat.add_zero]at hcell
    go_wp2_with fail
    try rw[Exit.noGoto_ret]
    go_ret3
    exact⟨by rw[HA.out];rfl,eR _⟩
   ·by_cases h4:j=4
    ·have HA:=Hd (show gtake l=(0,0,3)by rw[HG.out,HD.out];unfold gtk;rw[if_neg h0,if_pos h4])
     subst h4
     clear h0
     go_wp2_with fail
     try rw[Exit.noGoto_ret]
     go_ret3
     exact⟨by rw[HA.out];rfl,eR _⟩
    ·have hm4:=hm3 (by omega)
     have H0:=Hd h0
     clear h0 hm3
     by_cases hl:x.toNat<128
     ·have HA:=Hd (show gtake l=(m*128+x.toNat%128,j+1,0)by rw[HG.out,HD.out];unfold gtk;rw[if_neg H0.out,if_neg h4,if_pos hl])
      have hyl:yv x<128:=by omega
      have hye:(yv x==128)=false:=by rw[beq_eq_false_iff_ne];omega
      by_cases hj0:j=0
      ·subst hj0
       rw[Nat.add_zero]at hcell
       go_wp2_with fail
       try rw[Exit.noGoto_ret]
       go_ret3
       refine⟨?_,eR _⟩
       rw[HA.out]
       exact congrArg (fun z=>Ending.returned (Value.tuple #[z,_,I 0])) (by go_num)
      ·go_wp2_with fail
       try rw[Exit.noGoto_ret]
       go_ret3
       refine⟨?_,eR _⟩
       rw[HA.out]
       exact congrArg (fun z=>Ending.returned (Value.tuple #[z,_,I 0])) (by go_num)
     ·have hyl:¬yv x<128:=by omega
      have HA:=Hd (show gtake l=gtk (j+1) (m*128+x.toNat%128) (l.drop (j+1))by rw[HG.out,HD.out];conv=>(lhs;unfold gtk);rw[if_neg H0.out,if_neg h4,if_neg hl])
      have HM:=Hd (show m*128+x.toNat%128<128^(j+1)by rw[Nat.pow_succ];omega)
      by_cases hj0:j=0
      ·have hye:(yv x==128)=false:=by rw[beq_eq_false_iff_ne];intro e;exact H0.out ⟨hj0,yv_inj e⟩
       subst hj0
       rw[Nat.add_zero]at hcell
       go_wp2_with fail
       go_roundw
       case rel=>
        refine⟨1,m*128+x.toNat%128,by omega,hlt,?_,rfl,rfl,rfl,HA,HM.out,Hd trivial⟩
        go_num
       case measure=>simp[intOf];omega
      ·go_wp2_with fail
       go_roundw
       case rel=>
        refine⟨j+1,m*128+x.toNat%128,by omega,hlt,?_,by go_num,rfl,by go_num,HA,HM.out,Hd trivial⟩
        go_num
       case measure=>simp[intOf];omega
  ·obtain rfl:j=l.length:=by omega
   have HA:=Hd (show gtake l=(if l.length=4 then(0,0,3)else(0,0,2))by rw[HG.out,List.drop_length];rfl)
   by_cases h4:l.length=4
   ·go_wp2_with fail
    try rw[Exit.noGoto_ret]
    go_ret3
    exact⟨by rw[HA.out,if_pos h4];rfl,eR _⟩
   ·go_wp2_with fail
    try rw[Exit.noGoto_ret]
    go_ret3
    exact⟨by rw[HA.out,if_neg h4];rfl,eR _⟩
theorem gsize_at{n j:Nat}(hj:j<=3)(h1:0<j->128^j<=n)(h2:n/128^j<128):gsize n=j+1:=by
 unfold gsize
 rcases(show j=0\/j=1\/j=2\/j=3 by omega)with rfl|rfl|rfl|rfl
 ·simp at h2;rw[if_pos h2]
 ·have:=h1 (by decide);simp at this h2;rw[if_neg (by omega),if_pos (by omega)]
 ·have:=h1 (by decide);simp at this h2;rw[if_neg (by omega),if_neg (by omega),if_pos (by omega)]
 ·have:=h1 (by decide);simp at this h2;rw[if_neg (by omega),if_neg (by omega),if_neg (by omega)]
theorem groupSize_any(n:Nat)(hn:n<268435456)(w:World):Calls Tryz.prog 133 #[I n] w fun e w'=>e=.returned (I (gsize n))/\w=w':=by
 go_enter Tryz.func133,Tryz.ntmps133
 go_wp2_with fail
 go_loopw[0,3] (fun p s wr=>∃(j q:Nat),j<=3/\p=I q/\s=I (j+1:Nat)/\Hid (q=n/128^j)/\Hid (0<j->128^j<=n)/\Hid (wr=w)/\q<268435456) (fun p _ _=>(intOf p).toNat)
 case atStart=>exact⟨0,n,by omega,rfl,rfl,Hd (by simp),Hd (fun h=>absurd h (by decide)),Hd rfl,hn⟩
 case round=>
  obtain⟨j,q,hj,rfl,rfl,HQ,HG,HW,hq⟩:=hrel
  obtain rfl:=HW.out
  by_cases hge:128<=q
  ·have HL:=Hd (show 128^(j+1)<=n by
    have h:=HQ.out
    have h2:=Nat.mul_le_of_le_div _ _ _ (h▸hge)
    rw[Nat.pow_succ,Nat.mul_comm];exact h2)
   have HJ:=Hd (show j+1<=3 by
    refine Nat.lt_of_not_le fun h3=>?_
    have h:=HL.out
    have:j=3:=by omega
    subst this
    omega)
   go_wp2_with fail
   go_roundw
   case rel=>
    refine⟨j+1,q/128,HJ.out,by go_num,by go_num,Hd ?_,Hd (fun _=>HL.out),Hd trivial,by omega⟩
    rw[HQ.out,Nat.div_div_eq_div_mul,Nat.pow_succ]
   case measure=>simp[intOf];omega
  ·have HS:=Hd (gsize_at hj HG.out (by rw[<-HQ.out];omega))
   go_wp2_with fail
   go_ret
   exact⟨by rw[HS.out];rfl,rfl⟩
theorem gput_cell(t j n:Nat):(ycells (List.replicate (t+1) 0#8++gmore j n))[t]?=some (Y 0#8):=by
 refine ycells_get ?_
 rw[List.getElem?_append_left (by rw[List.length_replicate];omega),List.getElem?_replicate,if_pos (by omega)]
theorem gput_set(t j n:Nat):(ycells (List.replicate (t+1) 0#8++gmore j n)).set t (Y (byt (n/128^j%128+128)))=ycells (List.replicate t 0#8++gmore (j+1) n):=by
 unfold ycells
 rw[<-List.map_set,gmore_cons]
 congr 1
 rw[List.replicate_succ',List.append_assoc,List.set_append,List.length_replicate,if_neg (by omega),Nat.sub_self]
 rfl
theorem groupPut_any(n:Nat)(hn:n<268435456)(w:World):
 Calls Tryz.prog 81 #[I n] w fun e w'=>∃v,e=.returned (.tuple #[v,I 0])/\OwnY w' w.heap.size v (gput n)/\Ext w w':=by
 obtain⟨i8,hi8,hz8,hs8,hb8⟩:=info_parts infoU8'
 have HI8:=Hd hi8
 have HZ8:=Hd hz8
 have HS8:=Hd hs8
 clear hi8 hz8 hs8
 have HZ:=Hd (fun w=>groupSize_any n hn w)
 have hg:=gsize_bd n
 obtain⟨S,hS⟩:∃S,gsize n=S+1:=⟨gsize n-1,by omega⟩
 have HSZ:=Hd hS
 rw[hS]at HZ hg
 clear hS
 have he0:((S:Int)+1==0)=false:=by rw[beq_eq_false_iff_ne];omega
 go_enter Tryz.func81,Tryz.ntmps81
 go_wp2_with (first
  |(go_at_call 133;(with_reducible refine(HZ.out _).mono ?_);rintro e w2 ⟨he,hw⟩;subst he hw)
  |(at_make;refine wpList_make_row _ rfl _ _ 22 rfl 5 i8 (.int .u8 0) Tryz.underlying22 HI8.out HZ8.out HS8.out rfl .i64 .i64 (S+1) rfl rfl (by rw[hb8];omega) (by omega) ?_))
 refine hWp (fun W=>Ext w W/\Blk W w.heap.size (ycells (List.replicate (S+1) 0#8)) 5)
  ⟨by(repeat with_reducible first|exact eR _|assumption|refine eA ?_ _|refine eD ?_|refine eW ?_ _|(refine eS ?_ ?_;focus(first|(simp;done)|(simp;omega)|omega))),by rw[made_bytes];exact Blk.new w _ _⟩ (fun W1 hW1=>?_)
 obtain⟨hx1,hb1⟩:=hW1
 have HX1:=Hd hx1
 have HB1:=Hd hb1
 clear hx1 hb1
 go_loopw[0,6] (fun p i wr=>∃(t j q:Nat),t+j=S+1/\p=I q/\i=.int .i64 ((t:Int)-1)/\Hid (q=n/128^j)/\q<268435456/\Hid (Blk wr w.heap.size (ycells (List.replicate t 0#8++gmore j n)) 5)/\Hid (Ext w wr)) (fun _ i _=>(intOf i+1).toNat)
 case atStart=>exact⟨S+1,0,n,rfl,rfl,by go_num,Hd (by simp),hn,Hd (by simpa[gmore]using HB1.out),HX1⟩
 case round=>
  obtain⟨t,j,q,htj,rfl,rfl,HQ,hq,HB,HX⟩:=hrel
  cases t with
  |zero=>
   obtain rfl:j=S+1:=by omega
   have hc:=HB.out.cells S
   have hsn:ycells (List.replicate 0 0#8++gmore (S+1) n)=ycells (gmore S (n/128))++[Y (byt (n%128+128))]:=by
    rw[show gmore (S+1) n=gmore S (n/128)++[byt (n%128+128)]from rfl,List.replicate_zero,List.nil_append,ycells_app];rfl
   have hle:(ycells (gmore S (n/128))).length=S:=by rw[ycells_len,gmore_len]
   rw[hsn,List.getElem?_append_right (by rw[hle];exact Nat.le_refl _),hle,Nat.sub_self]at hc
   replace hc:wr.cell? ⟨w.heap.size,S,none⟩=some (Y (byt (n%128+128))):=hc
   have hf:=HB.out.frozen S
   have HS:=Hd (show∀v,v=Y (byt (n%128))->Blk (wr.setCell ⟨w.heap.size,S,none⟩ v) w.heap.size (ycells (gput n)) 5 from fun v hv=>by
    have h:=HB.out.set S v
    rw[hsn,List.set_append,hle,if_neg (Nat.lt_irrefl _),Nat.sub_self]at h
    have e:ycells (gput n)=ycells (gmore S (n/128))++[Y (byt (n%128))]:=by
     unfold gput
     rw[HSZ.out,Nat.add_sub_cancel,ycells_app];rfl
    rw[e,<-hv]
    exact h)
   have HXS:=Hd (show∀v,Ext w (wr.setCell ⟨w.heap.size,S,none⟩ v)from fun v=>HX.out.setCell (Nat.le_refl _) v)
   have hyv:yv (byt (n%128+128))=((n%128+128:Nat):Int):=by rw[yv_byt];omega
   have HLN:=Hd (show(gput n).length=S+1 by rw[gput_len,HSZ.out])
   clear hsn hle
   go_wp2_with fail
   go_ret2
   have hB:=HS.out _ (show Value.int .u8 (((n%128:Nat):Int))=Y (byt (n%128))from by show Value.int .u8 _=.int .u8 (yv _);rw[yv_byt];refine congrArg _ ?_;omega)
   have hO:=ownY_blk hB (by rw[HLN.out];unfold maxLen;omega)
   rw[HLN.out]at hO
   exact⟨_,rfl,hO,HXS.out _⟩
  |succ t=>
   have hc:=HB.out.cells t
   rw[gput_cell t j n]at hc
   have hf:=HB.out.frozen t
   have HS:=Hd (show∀v,v=Y (byt (n/128^j%128+128))->Blk (wr.setCell ⟨w.heap.size,t,none⟩ v) w.heap.size (ycells (List.replicate t 0#8++gmore (j+1) n)) 5 from fun v hv=>by
    rw[<-gput_set t j n,<-hv];exact HB.out.set _ _)
   have HXS:=Hd (show∀v,Ext w (wr.setCell ⟨w.heap.size,t,none⟩ v)from fun v=>HX.out.setCell (Nat.le_refl _) v)
   have HT:=Hd htj
   have htS:t<=S:=by omega
   clear htj
   go_wp2_with fail
   go_roundw
   case rel=>
    refine⟨t,j+1,q/128,by have:=HT.out;omega,by go_num,by go_num,Hd ?_,by omega,Hd (HS.out _ ?_),Hd (HXS.out _)⟩
    ·rw[HQ.out,Nat.div_div_eq_div_mul,Nat.pow_succ]
    ·rw[<-HQ.out]
     show Value.int .u8 _=.int .u8 (yv _)
     rw[yv_byt]
     refine congrArg _ ?_
     omega
   case measure=>simp[intOf]
theorem low_bit(s:BitVec 32):(s&&&1#32)=(if s.getLsbD 0 then 1#32 else 0#32):=by
 refine BitVec.eq_of_getLsbD_eq fun i hi=>?_
 rw[BitVec.getLsbD_and]
 by_cases e:i=0
 ·subst e;cases s.getLsbD 0<;>simp
 ·have:(1#32).getLsbD i=false:=by
   rw[BitVec.getLsbD_one];simp[e]
  rw[this,Bool.and_false]
  split
  ·rw[this]
  ·simp
theorem uv_half(q:BitVec 32):(uv q/(2:Int):Int)=uv (q>>>(1:Nat)):=by
 unfold uv
 rw[BitVec.toNat_ushiftRight,Nat.shiftRight_eq_div_pow]
 omega
theorem xor_poly(q:BitVec 32):bits .xor .u32 (uv q) 2197175160=uv (q^^^2197175160#32):=bits_xor_uv q 2197175160#32
theorem crcStep_any(s:BitVec 32)(c:Byt)(w:World):Calls Tryz.prog 169 #[U s,Y c] w fun e w'=>e=.returned (U (crcStep s c))/\w=w':=by
 go_enter Tryz.func169,Tryz.ntmps169
 go_wp2_with fail
 go_loopw[0,9] (fun v i wr=>∃(j:Nat) (q:BitVec 32),j<=8/\i=I j/\v=U q/\Hid (crcStep s c=crcIt (8-j) q)/\Hid (wr=w)) (fun _ i _=>8-(intOf i).toNat)
 case atStart=>exact⟨0,_,by omega,rfl,rfl,Hd rfl,Hd rfl⟩
 case round=>
  obtain⟨j,q,hj,rfl,rfl,HQ,HW⟩:=hrel
  obtain rfl:=HW.out
  by_cases hlt:j<8
  ·have HS:=Hd (show crcStep s c=crcIt (8-(j+1)) (crcBit q)by rw[HQ.out,show 8-j=(8-(j+1))+1 by omega];rfl)
   have hl:=low_bit q
   cases hb:q.getLsbD 0 with
   |true=>
    rw[hb,if_pos rfl]at hl
    have HB:=Hd (show crcBit q=(q>>>1)^^^2197175160#32 by unfold crcBit;rw[hb,if_pos rfl];rfl)
    go_wp2_with fail
    go_roundw
    case rel=>
     refine⟨j+1,crcBit q,hlt,by go_num,?_,HS,Hd trivial⟩
     rw[HB.out,uv_half,xor_poly]
    case measure=>simp[intOf];omega
   |false=>
    rw[hb]at hl
    have HB:=Hd (show crcBit q=(q>>>1)by unfold crcBit;rw[hb];simp)
    go_wp2_with fail
    go_roundw
    case rel=>
     refine⟨j+1,crcBit q,hlt,by go_num,?_,HS,Hd trivial⟩
     rw[HB.out,uv_half]
    case measure=>simp[intOf];omega
  ·obtain rfl:j=8:=by omega
   go_wp2_with fail
   go_ret
   exact⟨by rw[HQ.out];rfl,rfl⟩
def tabL(j:Nat):List Value:=(List.range j).map (fun i=>U (crcStep 0#32 (byt i)))++List.replicate (256-j) (U 0#32)
theorem tabL_len{j:Nat}(h:j<=256):(tabL j).length=256:=by unfold tabL;simp;omega
theorem tabL_cell{j:Nat}(h:j<256):(tabL j)[j]?=some (U 0#32):=by
 unfold tabL
 rw[List.getElem?_append_right (by simp),List.getElem?_replicate,if_pos (by simp;omega)]
theorem tabL_set{j:Nat}(h:j<256):(tabL j).set j (U (crcStep 0#32 (byt j)))=tabL (j+1):=by
 unfold tabL
 rw[List.set_append,if_neg (by simp),show 256-j=(256-(j+1))+1 by omega,List.replicate_succ,List.range_succ,List.map_append,List.append_assoc]
 congr 1
 simp
theorem tabL_get{i:Nat}(h:i<256):(tabL 256)[i]?=some (U (crcStep 0#32 (byt i))):=by
 unfold tabL
 rw[List.getElem?_append_left (by simpa using h),List.getElem?_map,List.getElem?_range h];rfl
theorem infoTab:(Tryz.prog.info? 178).map (fun i=>(i.zero,i.size))=some (some (.agg (List.replicate 256 (U 0#32)).toArray),256):=by kernel_rfl
theorem crcTable_any(w:World):Calls Tryz.prog 130 #[] w fun e w'=>e=.returned (.agg (tabL 256).toArray)/\Ext w w':=by
 obtain⟨hz,hsz⟩:=zero_of_info (show(Tryz.prog.info? 178).map (fun i=>(i.zero,i.size))=some (some (.agg (tabL 0).toArray),256)from infoTab)
 have HSZ:=Hd hsz
 clear hsz
 go_enter Tryz.func130,Tryz.ntmps130
 go_wp2_with fail
 refine hWp (fun W=>Ext w W/\Blk W w.heap.size (tabL 0) 178)
  ⟨by(repeat with_reducible first|exact eR _|assumption|refine eA ?_ _|refine eD ?_|refine eW ?_ _|(refine eS ?_ ?_;focus(first|(simp;done)|(simp;omega)|omega))),Blk.new w _ _⟩ (fun W1 hW1=>?_)
 obtain⟨hx1,hb1⟩:=hW1
 have HX1:=Hd hx1
 have HB1:=Hd hb1
 clear hx1 hb1 hz
 go_loopw[2] (fun i wr=>∃(j:Nat),j<=256/\i=I j/\Hid (Blk wr w.heap.size (tabL j) 178)/\Hid (Ext w wr)) (fun i _=>256-(intOf i).toNat)
 case atStart=>exact⟨0,Nat.zero_le _,rfl,HB1,HX1⟩
 case round=>
  obtain⟨j,hj,rfl,HB,HX⟩:=hrel
  by_cases hlt:j<256
  ·have hc:=HB.out.cells j
   rw[tabL_cell hlt]at hc
   have hf:=HB.out.frozen j
   have hby:yv (byt j)=(j:Int):=by rw[yv_byt];omega
   have HS:=Hd (show∀W,Blk W w.heap.size (tabL j) 178->Blk (W.setCell ⟨w.heap.size,j,none⟩ (U (crcStep 0#32 (byt j)))) w.heap.size (tabL (j+1)) 178 from fun W hW=>by
    rw[<-tabL_set hlt];exact hW.set _ _)
   have HXS:=Hd (show∀v,Ext w (wr.setCell ⟨w.heap.size,j,none⟩ v)from fun v=>HX.out.setCell (Nat.le_refl _) v)
   have HC:=Hd (show∀w,Calls Tryz.prog 169 #[.int .u32 0,.int .u8 (j:Int)] w fun e w'=>e=.returned (U (crcStep 0#32 (byt j)))/\w=w' from fun w=>by
    rw[<-hby];exact crcStep_any 0#32 (byt j) w)
   generalize crcStep 0#32 (byt j)=z at*
   go_wp2_with (first
    |(go_at_call 169;(with_reducible refine(HC.out _).mono ?_);rintro e w2 ⟨he,hw⟩;subst he hw))
   go_roundw
   case rel=>exact⟨j+1,hlt,by go_num,Hd (HS.out _ HB.out),Hd (HXS.out _)⟩
   case measure=>simp[intOf];omega
  ·obtain rfl:j=256:=by omega
   have HSI:=Hd (show(Tryz.prog.info? 178).map (·.size)=some (tabL 256).toArray.size by
    rw[HSZ.out,List.size_toArray,tabL_len (Nat.le_refl _)])
   have HAL:=Hd (show(tabL 256).toArray.all (·.oneCell')=true from by
    rw[List.all_toArray,List.all_eq_true]
    intro u hu
    unfold tabL at hu
    rcases List.mem_append.1 hu with hu|hu
    ·obtain⟨i,_,rfl⟩:=List.mem_map.1 hu
     rfl
    ·rw[List.eq_of_mem_replicate hu];rfl)
   go_wp2_with (first
    |(refine wpList_load_row rfl 178 (.tmp 0) rfl w.heap.size rfl 178 (tabL 256).toArray (0,0) _ HB.out Tryz.underlying178 rfl HSI.out ?_)
    |(refine wpList_store_row rfl 178 (.tmp 0) (.tmp 11) rfl w.heap.size (tabL 256).toArray rfl rfl 178 (tabL 256).toArray HB.out HSI.out rfl HAL.out ?_))
   rw[setRow_self wr w.heap.size (tabL 256).toArray 178 (0,0) HB.out]
   refine bodyPost_ret (v:=.agg (tabL 256).toArray) (results_cell_row rfl _ _ w.heap.size 178 _ (0,0) _ rfl HB.out Tryz.underlying178 rfl HSI.out) rfl ?_
   exact⟨rfl,HX.out⟩
@[go_sem high] theorem wrap_u8_uv(q:BitVec 32):IntKind.u8.wrap (uv q)=yv (q.setWidth 8):=by
  show uv q%2^8=_
  unfold uv yv
  simp
theorem uv_byteDown(q:BitVec 32):(uv q/(256:Int):Int)=uv (q>>>(8:Nat)):=by
 unfold uv
 rw[BitVec.toNat_ushiftRight,Nat.shiftRight_eq_div_pow]
 omega
theorem crcMore_any(s:BitVec 32)(v:Value)(l:List Byt)(w:World)(h:BsAt w v l):Calls Tryz.prog 78 #[U s,v] w fun e w'=>e=.returned (U (crcMore s l))/\Ext w w':=by
 obtain⟨a,cap,rfl,c1,c2,hc⟩:=h.form
 have HC:=Hd hc
 clear hc h
 unfold maxLen at c2
 obtain⟨hz,hsz⟩:=zero_of_info (show(Tryz.prog.info? 178).map (fun i=>(i.zero,i.size))=some (some (.agg (tabL 0).toArray),256)from infoTab)
 have HS0:=Hd (show(Tryz.prog.info? 178).map (·.size)=some (tabL 256).toArray.size by
       rw[hsz,List.size_toArray,tabL_len (Nat.le_refl _)])
 clear hsz
 have HAL:=Hd (show(tabL 256).toArray.all (·.oneCell')=true from by
       rw[List.all_toArray,List.all_eq_true]
       intro u hu
       unfold tabL at hu
       rcases List.mem_append.1 hu with hu|hu
       ·obtain⟨i,_,rfl⟩:=List.mem_map.1 hu
        rfl
       ·rw[List.eq_of_mem_replicate hu];rfl)
 have HSZ:=Hd (show(tabL 0).toArray.size=(tabL 256).toArray.size by rw[List.size_toArray,List.size_toArray,tabL_len (by decide),tabL_len (by decide)])
 go_enter Tryz.func78,Tryz.ntmps78
 go_wp2_with (first
  |(go_at_call 130;(with_reducible refine(crcTable_any _).mono ?_);rintro e w2 ⟨he,hx2⟩;subst he;have HX2:=Hd hx2;clear hx2)
  |(refine wpList_store_row rfl 178 (.tmp 5) (.tmp 8) rfl w2.heap.size (tabL 256).toArray rfl rfl 178 (tabL 0).toArray (Blk.new w2 (tabL 0) 178) HS0.out HSZ.out HAL.out ?_))
 refine hWp (fun W=>Ext w W/\Blk W w2.heap.size (tabL 256) 178)
  ⟨by rw[World.setRow_alloc_new];exact HX2.out.alloc _,by rw[World.setRow_alloc_new];exact Blk.new w2 _ _⟩ (fun W1 hW1=>?_)
 obtain⟨hx1,hb1⟩:=hW1
 have HX1:=Hd hx1
 have hbc:=hb1.cells
 clear hx1 hb1 hz
 generalize w2.heap.size=tb at*
 have HQ0:=Hd (show crcMore s l= ~~~ (crcAll (BitVec.ofInt 32 IntKind.u32.max^^^s) (l.drop 0))by
  unfold crcMore
  rw[show BitVec.ofInt 32 IntKind.u32.max=BitVec.allOnes 32 from rfl,BitVec.allOnes_xor];rfl)
 generalize BitVec.ofInt 32 IntKind.u32.max^^^s=q0 at*
 go_loopw[0,13] (fun v i wr=>∃(j:Nat) (q:BitVec 32),j<=l.length/\i=I j/\v=U q/\Hid (crcMore s l= ~~~ (crcAll q (l.drop j)))/\Hid (wr=W1)) (fun _ i _=>l.length-(intOf i).toNat)
 case atStart=>exact⟨0,_,by omega,rfl,rfl,HQ0,Hd rfl⟩
 case round=>
  obtain⟨j,q,hj,rfl,rfl,HQ,HW⟩:=hrel
  obtain rfl:=HW.out
  by_cases hlt:j<l.length
  ·have hd1:decide ((j:Int)<(l.length:Int))=true:=dT (by omega)
   obtain⟨b,off,rfl,hcell⟩:=HC.out j _ (gE hlt)
   replace hcell:=HX1.out.cell hcell
   have HD:=Hd (List.drop_eq_getElem_cons hlt)
   generalize l[j]=x at*
   have HS:=Hd (show crcMore s l= ~~~ (crcAll ((q>>>(8:Nat))^^^crcStep 0#32 (q.setWidth 8^^^x)) (l.drop (j+1)))by
    rw[HQ.out,HD.out,<-crcStep_table];rfl)
   have hty:(tabL 256)[(q.setWidth 8^^^x).toNat]?=some (U (crcStep 0#32 (q.setWidth 8^^^x))):=by
    rw[tabL_get (q.setWidth 8^^^x).isLt,byt_toNat]
   have hct:=hbc (q.setWidth 8^^^x).toNat
   rw[hty]at hct
   have hyb:=yv_bd (q.setWidth 8^^^x)
   have hyn:(yv (q.setWidth 8^^^x)).toNat=(q.setWidth 8^^^x).toNat:=rfl
   clear hty
   clear hbc
   generalize crcStep 0#32 (q.setWidth 8^^^x)=z at*
   rw[<-hyn]at hct
   clear hyn
   go_wp2_with fail
   go_roundw
   case rel=>
    refine⟨j+1,(q>>>(8:Nat))^^^z,hlt,by go_num,?_,HS,Hd trivial⟩
    rw[uv_byteDown,ofInt_uv]
   case measure=>simp[intOf];omega
  ·obtain rfl:j=l.length:=by omega
   go_wp2_with fail
   go_ret
   refine⟨?_,HX1.out⟩
   rw[HQ.out,List.drop_length,<-BitVec.allOnes_xor]
   rfl
theorem crcSum_any(v:Value)(l:List Byt)(w:World)(h:BsAt w v l):Calls Tryz.prog 29 #[v] w fun e w'=>e=.returned (U (crcSum l))/\Ext w w':=by
 have H:=Hd (show Calls Tryz.prog 78 #[.int .u32 0,v] w fun e w'=>e=.returned (U (crcSum l))/\Ext w w' from crcMore_any 0#32 v l w h)
 obtain⟨a,cap,rfl,-⟩:=h.form
 clear h
 go_enter Tryz.func29,Tryz.ntmps29
 go_wp2_with (first
  |(go_at_call 78;(with_reducible refine H.out.mono ?_);rintro e w2 ⟨he,hx2⟩;subst he;have HX2:=Hd hx2;clear hx2))
 go_ret
 exact⟨rfl,HX2.out⟩
theorem frameFour_any(s:BitVec 32)(w:World):Calls Tryz.prog 28 #[U s] w fun e w'=>∃v,e=.returned v/\OwnY w' w.heap.size v (be4 s)/\Ext w w':=by
 have HP:=Hd (show∀w,Calls Tryz.prog 77 #[.int .i64 (uv s),.int .i64 4] w fun e w'=>∃v,e=.returned (.tuple #[v,I 0])/\OwnY w' w.heap.size v (be4 s)/\Ext w w' from fun w=>
  numPut_any 4 (by decide) s.toNat (by have:=s.isLt;omega) w)
 go_enter Tryz.func28,Tryz.ntmps28
 go_wp2_with (first
  |(go_at_call 77;(with_reducible refine(HP.out _).mono ?_);rintro e w2 ⟨v,he,ho,hx2⟩;obtain⟨a,cap,rfl,-⟩:=ho.bs.form;subst he;have HO:=Hd ho;have HX2:=Hd hx2;clear ho hx2))
 go_ret
 exact⟨_,rfl,HO.out,HX2.out⟩
theorem frameOwn_any(v:Value)(l:List Byt)(w:World)(h:BsAt w v l)(hl:l.length<=1000000000):Calls Tryz.prog 86 #[v] w fun e w'=>∃u,e=.returned u/\OwnY w' w.heap.size u l/\Ext w w':=by
 have HC:=Hd h
 have HN:=Hd (OwnY.nil w w.heap.size)
 obtain⟨a,cap,rfl,-⟩:=h.form
 clear h
 go_enter Tryz.func86,Tryz.ntmps86
 go_wp2_with (first
  |(at_builtin;refine wpList_app rfl _ (.tmp 3) 22 rfl w.heap.size 5 (.int .u8 0) 1 1 Tryz.underlying22 infoU8' rfl (by decide) (by decide) _ _ _ rfl HN.out _ _ _ rfl HC.out (ycells_one _) (by simp;omega) (Nat.le_refl _) ?_
    intro v9 w9 ho9 hg9;have HO9:=Hd ho9;have HX9:=Hd (Ext.grown (eR w) hg9 HN.out (Nat.le_refl _));clear ho9 hg9))
 go_ret
 refine⟨_,rfl,?_,HX9.out⟩
 have h:=HO9.out
 simp only[List.length_nil,Nat.zero_add]at h
 exact h
theorem OwnY.form{w:World}{B:Nat}{v:Value}{l:List Byt}(h:OwnY w B v l):∃a cap,v=.slice a l.length cap:=let⟨a,cap,e,_⟩:=h.bs.form;⟨a,cap,e⟩
theorem framePut_any(m:BitVec 32)(v:Value)(l:List Byt)(w:World)(h:BsAt w v l)(hl:l.length<=1000000000):Calls Tryz.prog 12 #[U m,v] w fun e w'=>∃u,e=.returned u/\OwnY w' w.heap.size u (fput m l)/\Ext w w':=by
 have HC:=Hd h
 obtain⟨a,cap,rfl,c1,c2,-⟩:=h.form
 clear h
 obtain⟨i8,hi8,hz8,hs8,hb8⟩:=info_parts infoU8'
 have HI8:=Hd hi8
 have HZ8:=Hd hz8
 have HS8:=Hd hs8
 clear hi8 hz8 hs8
 have h4:∀s,(be4 s).length=4:=fun s=>beN_len 4 _
 have H4:=Hd h4
 clear h4
 go_enter Tryz.func12,Tryz.ntmps12
 go_upto_region 2 with(first
  |(at_make;refine wpList_make_own _ rfl _ _ 22 rfl w.heap.size 5 i8 (.int .u8 0) 1 Tryz.underlying22 HI8.out HZ8.out HS8.out .i64 .i64 _ (l.length+8) rfl rfl (by omega) (by rw[hb8];omega) (by unfold maxLen;omega) (Nat.le_refl _) ?_
    intro w1 ho1 hg1;have HO1:=Hd (show OwnY w1 w.heap.size _ []from ho1);have HX1:=Hd (show Ext w w1 from Below.grown (Below.refl _ _) hg1 (Nat.le_refl _) (fun k hk=>by cases hk));clear ho1 hg1))
 go_upto_region 3 with(first
  |(go_at_call 28;(with_reducible refine(frameFour_any m _).mono ?_);rintro e w2 ⟨v2,he,ho2,hx2⟩;subst he;have HF2:=Hd ho2.bs;have HO2:=Hd (HO1.out.later hx2);have HX2:=Hd (HX1.out.trans hx2);clear ho2 hx2;obtain⟨a2,p2,-,e2⟩:∃a2 p2,True/\v2=.slice a2 (be4 m).length p2:=(let⟨a,c,e,_⟩:=HF2.out.form;⟨a,c,trivial,e⟩);subst e2)
  |(at_builtin;refine wpList_app rfl _ _ 22 rfl w.heap.size 5 (.int .u8 0) 1 1 Tryz.underlying22 infoU8' rfl (by decide) (by decide) _ _ _ rfl HO2.out _ _ _ rfl HF2.out (ycells_one _) (by rw[H4.out];simp) HX2.out.size ?_
    intro v3 w3 ho3 hg3;have HO3:=Hd (show OwnY w3 w.heap.size v3 (be4 m)by simpa[OwnY,ycells]using ho3);have HX3:=Hd (Ext.grown HX2.out hg3 HO2.out (Nat.le_refl _));clear ho3 hg3))
 obtain⟨a3,p3,e3⟩:=HO3.out.form
 subst e3
 have HL3:=Hd (HC.out.later HX3.out)
 have HLE:=Hd (show(be4 m++l).length=l.length+4 by rw[List.length_append,H4.out];omega)
 go_upto_region 4 with(first
  |(at_builtin;refine wpList_app rfl _ _ 22 rfl w.heap.size 5 (.int .u8 0) 1 1 Tryz.underlying22 infoU8' rfl (by decide) (by decide) _ _ _ rfl HO3.out _ _ _ rfl HL3.out (ycells_one _) (by rw[H4.out];omega) HX3.out.size ?_
    intro v4 w4 ho4 hg4;have HO4:=Hd (show OwnY w4 w.heap.size v4 (be4 m++l)by unfold OwnY;rw[ycells_app,List.length_append];exact ho4);have HX4:=Hd (Ext.grown HX3.out hg4 HO3.out (Nat.le_refl _));clear ho4 hg4))
 have HFP:=Hd (show fput m l=(be4 m++l)++be4 (crcSum (be4 m++l))from rfl)
 generalize be4 m++l=L at*
 obtain⟨a4,p4,e4⟩:=HO4.out.form
 subst e4
 go_wp2_with (first
  |(go_at_call 29;(with_reducible refine(crcSum_any _ _ _ HO4.out.bs).mono ?_);rintro e w5 ⟨he,hx5⟩;subst he;have HO5:=Hd (HO4.out.later hx5);have HX5:=Hd (HX4.out.trans hx5);clear hx5)
  |(go_at_call 28;(with_reducible refine(frameFour_any _ _).mono ?_);rintro e w6 ⟨v6,he,ho6,hx6⟩;subst he;have HF6:=Hd ho6.bs;have HO6:=Hd (HO5.out.later hx6);have HX6:=Hd (HX5.out.trans hx6);clear ho6 hx6)
  |(at_builtin;refine wpList_app rfl _ _ 22 rfl w.heap.size 5 (.int .u8 0) 1 1 Tryz.underlying22 infoU8' rfl (by decide) (by decide) _ _ _ rfl HO6.out _ _ _ rfl HF6.out (ycells_one _) (by rw[H4.out,HLE.out];omega) HX6.out.size ?_
    intro v7 w7 ho7 hg7;have HO7:=Hd (show OwnY w7 w.heap.size v7 (fput m l)by rw[HFP.out];unfold OwnY;rw[ycells_app,List.length_append];exact ho7);have HX7:=Hd (Ext.grown HX6.out hg7 HO6.out (Nat.le_refl _));clear ho7 hg7))
 go_ret
 exact⟨_,rfl,HO7.out,HX7.out⟩
theorem frameSection_any(t:Byt)(v:Value)(l:List Byt)(w:World)(h:BsAt w v l)(hl:l.length<=268435455):
 Calls Tryz.prog 84 #[Y t,v] w fun e w'=>∃u,e=.returned (.tuple #[u,I 0])/\OwnY w' w.heap.size u (sectB t l)/\Ext w w':=by
 have HC:=Hd h
 obtain⟨a,cap,rfl,c1,c2,-⟩:=h.form
 clear h
 obtain⟨i8,hi8,hz8,hs8,hb8⟩:=info_parts infoU8'
 have HI8:=Hd hi8
 have HZ8:=Hd hz8
 have HS8:=Hd hs8
 clear hi8 hz8 hs8
 have HP:=Hd (fun w=>groupPut_any l.length (by omega) w)
 have hgs:=gsize_bd l.length
 have HGL:=Hd (gput_len l.length)
 have HSB:=Hd (show sectB t l=([t]++gput l.length)++l from by unfold sectB;simp)
 generalize gput l.length=g at*
 generalize gsize l.length=gs at*
 go_enter Tryz.func84,Tryz.ntmps84
 go_upto_region 4 with(first
  |(go_at_call 81;(with_reducible refine(HP.out _).mono ?_);rintro e w1 ⟨v1,he,ho1,hx1⟩;subst he;have HG1:=Hd ho1.bs;have HX1:=Hd hx1;clear ho1 hx1))
 obtain⟨a1,p1,e1,-⟩:=HG1.out.form
 subst e1
 rw[show g.length=gs from HGL.out]
 have HC1:=Hd (HC.out.later HX1.out)
 go_upto_region 7 with(first
  |(at_make;refine wpList_make_own _ rfl _ _ 22 rfl w1.heap.size 5 i8 (.int .u8 0) 1 Tryz.underlying22 HI8.out HZ8.out HS8.out .i64 .i64 _ (1+gs+l.length) rfl rfl (by omega) (by rw[hb8];omega) (by unfold maxLen;omega) (Nat.le_refl _) ?_
    intro w2 ho2 hg2;have HO2:=Hd (show OwnY w2 w1.heap.size _ []from ho2);have HX2:=Hd (show Ext w1 w2 from Below.grown (Below.refl _ _) hg2 (Nat.le_refl _) (fun k hk=>by cases hk));clear ho2 hg2))
 have HXA:=Hd (HX2.out.alloc (.cells #[Y t] 5))
 have HOA:=Hd (HO2.out.later ((eR w2).alloc (.cells #[Y t] 5)))
 have HSC:=Hd (show(w2.alloc (.cells #[Y t] 5)).cell? ⟨w2.heap.size,0,none⟩=some (Y t)from(Blk.new w2 [Y t] 5).cells 0)
 go_upto_region 8 with(first
  |(at_builtin
    refine wpList_app1 rfl (.tmp 28) (.tmp 30) 22 rfl w1.heap.size 5 (.int .u8 0) 1 Tryz.underlying22 infoU8' rfl (by decide) _ _ _ rfl HOA.out w2.heap.size rfl (Y t) HSC.out rfl (by simp) HXA.out.size ?_
    intro v3 w3 ho3 hg3 hl3
    have HX3:=Hd (Ext.grown HXA.out hg3 HOA.out (Nat.le_refl _))
    have HO3:=Hd (show OwnY w3 w1.heap.size v3 [t]from ho3)
    clear ho3 hg3 hl3))
 obtain⟨a3,p3,e3⟩:=HO3.out.form
 subst e3
 have HG3:=Hd (show BsAt w3 (.slice a1 gs p1) g by have h:=HG1.out.later HX3.out;rw[HGL.out]at h;exact h)
 go_upto_region 9 with(first
  |(at_builtin;refine wpList_app rfl _ _ 22 rfl w1.heap.size 5 (.int .u8 0) 1 1 Tryz.underlying22 infoU8' rfl (by decide) (by decide) _ _ _ rfl HO3.out _ _ _ rfl HG3.out (ycells_one _) (by rw[HGL.out];simp;omega) HX3.out.size ?_
    intro v4 w4 ho4 hg4;have HO4:=Hd (show OwnY w4 w1.heap.size v4 ([t]++g)by unfold OwnY;rw[ycells_app,List.length_append];exact ho4);have HX4:=Hd (Ext.grown HX3.out hg4 HO3.out (Nat.le_refl _));clear ho4 hg4))
 have HLE:=Hd (show([t]++g).length=1+gs by rw[List.length_append,HGL.out];rfl)
 generalize [t]++g=L at*
 obtain⟨a4,p4,e4⟩:=HO4.out.form
 subst e4
 have HC4:=Hd (HC1.out.later HX4.out)
 go_wp2_with (first
  |(at_builtin;refine wpList_app rfl _ _ 22 rfl w1.heap.size 5 (.int .u8 0) 1 1 Tryz.underlying22 infoU8' rfl (by decide) (by decide) _ _ _ rfl HO4.out _ _ _ rfl HC4.out (ycells_one _) (by rw[HLE.out];omega) HX4.out.size ?_
    intro v5 w5 ho5 hg5;have HO5:=Hd (show OwnY w5 w1.heap.size v5 (sectB t l)by rw[HSB.out];unfold OwnY;rw[ycells_app,List.length_append];exact ho5);have HX5:=Hd (Ext.grown HX4.out hg5 HO4.out (Nat.le_refl _));clear ho5 hg5))
 go_ret2
 exact⟨_,rfl,HO5.out.low HX1.out.size,HX1.out.trans HX5.out⟩
theorem bytesOf_yv:∀{x y:List Byt},Lib.bytesOf (x.map yv)=Lib.bytesOf (y.map yv)->x=y
 |[],[],_=>rfl
 |[],b::y,h=>by cases h
 |a::x,[],h=>by cases h
 |a::x,b::y,h=>by
  unfold Lib.bytesOf at h
  simp only[List.map_cons,List.cons.injEq]at h
  have e:a=b:=by
   have h1:=congrArg UInt8.toNat h.1
   have ha:=a.isLt
   have hb:=b.isLt
   refine BitVec.eq_of_toNat_eq ?_
   unfold yv at h1
   simp at h1
   omega
  rw[e,bytesOf_yv (x:=x) (y:=y) h.2]
theorem BsAt.bytesIn{w:World}{a:Option Addr}{cap:Nat}{l:List Byt}(h:BsAt w (.slice a l.length cap) l):Lib.BytesIn w a l.length (l.map yv):=fun hn=>by
 obtain⟨a',cap',e,-,-,hc⟩:=h.form
 cases e
 obtain⟨b,o,rfl,-⟩:=hc 0 _ (gE hn)
 refine⟨b,o,rfl,fun i hi=>?_⟩
 obtain⟨b',o',e,h2⟩:=hc i _ (gE hi)
 cases e
 rw[h2,List.getD_eq_getElem?_getD,List.getElem?_map,gE hi]
 rfl
theorem bytesEqual_any(u v:Value)(x y:List Byt)(w:World)(hx:BsAt w u x)(hy:BsAt w v y):Calls Tryz.prog 85 #[u,v] w fun e w'=>e=.returned (.bool (decide (x=y)))/\w'=w:=by
 obtain⟨a,c,rfl,-⟩:=hx.form
 obtain⟨b,d,rfl,-⟩:=hy.form
 refine(Tryz.bytes_Equal_all a b x.length c y.length d (x.map yv) (y.map yv) w (by simp) (by simp) hx.bytesIn hy.bytesIn).mono ?_
 rintro e w' ⟨he,hw⟩
 refine⟨?_,hw⟩
 rw[he]
 by_cases h:x=y
 ·subst h;simp
 ·rw[dF h,beq_eq_false_iff_ne.2 fun e=>h (bytesOf_yv e)]
theorem BsAt.cut{w:World}{a:Option Addr}{n cap j k:Nat}{l:List Byt}(h:BsAt w (.slice a n cap) l)(hj:j<=k)(hk:k<=cap)(hjl:j<=l.length):BsAt w (.slice a j k) (l.take j):=by
 obtain⟨h0,a',cap',e,h2,h3,h4,h5⟩:=h
 cases e
 have hlen:(l.take j).length=j:=by rw[List.length_take];omega
 unfold BsAt
 rw[hlen]
 refine⟨by rw[ycells_len,hlen];omega,a,k,rfl,hj,by omega,fun hn=>?_,fun b hb=>?_⟩
 ·obtain⟨e1,e2⟩:=h4 hn
  omega
 ·obtain⟨e1,e2⟩:=h5 b hb
  refine⟨?_,fun i u hi=>e2 i u ?_⟩
  ·rcases e1 with e1|e1
   ·exact .inl e1
   ·refine .inr ?_
    have:l=[]:=by cases l with
     |nil=>rfl
     |cons _ _=>cases e1
    subst this;simp[ycells]
  ·unfold ycells at hi ⊢
   rw[List.map_take,List.getElem?_take]at hi
   split at hi
   ·exact hi
   ·cases hi
theorem BsAt.piece3{w:World}{a:Option Addr}{n cap i j k:Nat}{l:List Byt}(h:BsAt w (.slice a n cap) l)(hi:i<=j)(hj:j<=k)(hk:k<=cap)(hjl:j<=l.length):BsAt w (sliced a i j k 1) ((l.take j).drop i):=by
 have h1:=(h.cut hj hk hjl).piece (j:=i) (k:=j) hi (by rw[List.length_take];omega)
 rw[List.take_of_length_le (by rw[List.length_take];omega)]at h1
 exact h1
def TookY(w:World)(r:List Byt × Int)(e:Ending)(w':World):Prop:=
 (∃u,e=.returned (.tuple #[u,I r.2])/\OwnY w' w.heap.size u r.1/\(r.2≠0->u=.slice none 0 0))/\Ext w w'
theorem frameTake_any(m:BitVec 32)(v:Value)(l:List Byt)(w:World)(h:BsAt w v l)(hl:l.length<=1000000000):Calls Tryz.prog 34 #[U m,v] w (TookY w (ftake m l)):=by
 have HC:=Hd h
 obtain⟨a,cap,rfl,c1,c2,-⟩:=h.form
 clear h
 unfold maxLen at c2
 by_cases h8:l.length<8
 ·have HA:=Hd (show ftake m l=([],2)by unfold ftake;rw[if_pos h8])
  have hd:decide ((l.length:Int)<8)=true:=dT (by omega)
  go_enter Tryz.func34,Tryz.ntmps34
  go_wp2_with fail
  go_ret2
  rw[HA.out]
  exact⟨⟨_,rfl,OwnY.nil _ _,fun _=>rfl⟩,eR _⟩
 ·obtain⟨E,hE⟩:∃E,l.length=E+4:=⟨l.length-4,by omega⟩
  have hd:decide ((l.length:Int)<8)=false:=dF (by omega)
  go_enter Tryz.func34,Tryz.ntmps34
  go_upto_region 4 with fail
  have hEc:E<=cap:=by omega
  go_region
  go_upto_region 5 with fail
  have hE4:4<=E:=by omega
  have hE4i:(4:Int)<=(E:Int):=by omega
  have HXD:=Hd (show Ext w w.drew from(eR w).drew)
  generalize w.drew=w1 at*
  refine wp_region_R (RB (w1.heap.size)) 4 rfl (by kernel_rfl) (by kernel_rfl) (fun w0 hx0=>?_)
  refine WRi_at 0 ?_
  iterate 3
   refine WRi_q (preRB _) rfl (by decide) (by kernel_rfl) rfl ?_;apply Exists.intro;refine⟨fun w1 hx1=>?_,?_⟩
   ·go_simp;try go_bits
    first|with_reducible rfl|rfl
   go_frame;try simp only[Nat.reduceAdd]
  refine WRi_out ?_
  refine WR_one 3 rfl (by decide) (by kernel_rfl) rfl (fun K hK=>?_)
  go_simp
  refine(frameFour_any m _).mono ?_
  rintro e w5 ⟨fv,he,hfo,hx5⟩
  subst he
  refine hK _ _ (RB.ext hx5) ?_
  clear hK K
  have HX5:=Hd (HXD.out.trans (hx0.trans hx5))
  have HF5:=Hd hfo.bs
  have HT4:=Hd (show BsAt w5 (.slice a 4 4) (l.take 4)from(HC.out.cut (j:=4) (k:=4) (by decide) (by omega) (by omega)).later HX5.out)
  clear hfo hx5 hx0
  refine WR_done (by kernel_rfl) ?_
  (try simp only[List.drop_succ_cons,List.drop_zero])
  by_cases hm:l.take 4=be4 m
  ·have hmd:decide (l.take 4=be4 m)=true:=dT hm
   go_upto_region 7 with(first
    |(go_at_call 85;(with_reducible refine(bytesEqual_any _ _ _ _ _ HT4.out HF5.out).mono ?_);rintro e w6 ⟨he,hw⟩;subst he hw))
   have HTE:=Hd (show BsAt w6 (.slice a E E) (l.take E)from(HC.out.cut (j:=E) (k:=E) (Nat.le_refl _) hEc (by omega)).later HX5.out)
   have HTD:=Hd (show BsAt w6 (.slice (Option.map (fun x=>x.add E) a) 4 (cap-E)) (l.drop E)from by
    have h:=(HC.out.piece (j:=E) (k:=l.length) (by omega) (Nat.le_refl _)).later HX5.out
    rw[List.take_length]at h
    have e:slv 1 (.slice a l.length cap) E l.length=.slice (Option.map (fun x=>x.add E) a) 4 (cap-E):=by
     show Value.slice (if cap=E then a else a.map (·.add (E*1))) (l.length-E) (cap-E)=_
     rw[if_neg (by omega),Nat.mul_one,show l.length-E=4 by omega]
    rw[e]at h;exact h)
   by_cases hs:l.drop E=be4 (crcSum (l.take E))
   ·have hsd:decide (l.drop E=be4 (crcSum (l.take E)))=true:=dT hs
    have HA:=Hd (show ftake m l=((l.take E).drop 4,0)by
     unfold ftake;rw[if_neg h8,if_neg (not_not_intro hm),show l.length-4=E by omega,if_neg (not_not_intro hs)])
    go_upto_region 9 with(first
     |(go_at_call 29;(with_reducible refine(crcSum_any _ _ _ HTE.out).mono ?_);rintro e w7 ⟨he,hx7⟩;subst he;have HX7:=Hd (HX5.out.trans hx7);have HTD7:=Hd (HTD.out.later hx7);clear hx7)
     |(go_at_call 28;(with_reducible refine(frameFour_any _ _).mono ?_);rintro e w8 ⟨v8,he,ho8,hx8⟩;subst he;have HF8:=Hd ho8.bs;have HX8:=Hd (HX7.out.trans hx8);have HTD8:=Hd (HTD7.out.later hx8);clear hx8 ho8)
     |(go_at_call 85;(with_reducible refine(bytesEqual_any _ _ _ _ _ HTD8.out HF8.out).mono ?_);rintro e w9 ⟨he,hw⟩;subst he hw))
    have HT9:=Hd (show BsAt _ (.slice (if E=4 then a else Option.map (fun x=>(⟨x.block,x.off+4,none⟩:Addr)) a) (E-4) (E-4)) ((l.take E).drop 4)from(HC.out.piece3 (i:=4) (j:=E) (k:=E) hE4 (Nat.le_refl _) hEc (by omega)).later HX8.out)
    have hn9:((l.take E).drop 4).length<=1000000000:=by rw[List.length_drop,List.length_take];omega
    go_wp2_with (first
     |(go_at_call 86;(with_reducible refine(frameOwn_any _ _ _ HT9.out hn9).mono ?_);rintro e w9 ⟨u9,he,ho9,hx9⟩;subst he;have HO9:=Hd (ho9.low HX8.out.size);have HX9:=Hd (HX8.out.trans hx9);clear ho9 hx9))
    all_goals
     go_ret2
     rw[HA.out]
     exact⟨⟨_,rfl,HO9.out,fun h=>absurd rfl h⟩,HX9.out⟩
   ·have hsd:decide (l.drop E=be4 (crcSum (l.take E)))=false:=dF hs
    have HA:=Hd (show ftake m l=([],6)by
     unfold ftake;rw[if_neg h8,if_neg (not_not_intro hm),show l.length-4=E by omega,if_pos hs])
    go_wp2_with (first
     |(go_at_call 29;(with_reducible refine(crcSum_any _ _ _ HTE.out).mono ?_);rintro e w7 ⟨he,hx7⟩;subst he;have HX7:=Hd (HX5.out.trans hx7);have HTD7:=Hd (HTD.out.later hx7);clear hx7)
     |(go_at_call 28;(with_reducible refine(frameFour_any _ _).mono ?_);rintro e w8 ⟨v8,he,ho8,hx8⟩;subst he;have HF8:=Hd ho8.bs;have HX8:=Hd (HX7.out.trans hx8);have HTD8:=Hd (HTD7.out.later hx8);clear hx8 ho8)
     |(go_at_call 85;(with_reducible refine(bytesEqual_any _ _ _ _ _ HTD8.out HF8.out).mono ?_);rintro e w9 ⟨he,hw⟩;subst he hw))
    go_ret2
    rw[HA.out]
    exact⟨⟨_,rfl,OwnY.nil _ _,fun _=>rfl⟩,HX8.out⟩
  ·have hmd:decide (l.take 4=be4 m)=false:=dF hm
   have HA:=Hd (show ftake m l=([],5)by unfold ftake;rw[if_neg h8,if_pos hm])
   go_wp2_with (first
    |(go_at_call 85;(with_reducible refine(bytesEqual_any _ _ _ _ _ HT4.out HF5.out).mono ?_);rintro e w6 ⟨he,hw⟩;subst he hw))
   go_ret2
   rw[HA.out]
   exact⟨⟨_,rfl,OwnY.nil _ _,fun _=>rfl⟩,HX5.out⟩
end Go.Proofs.YtjflkifodfncmaaGreatDoor
