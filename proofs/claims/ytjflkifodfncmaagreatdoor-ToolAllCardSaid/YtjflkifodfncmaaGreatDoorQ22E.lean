/- Q6W, Q22E: these texts in one. Conditions: each theorem names its own. -/
import Derived.Test.YtjflkifodfncmaaGreatDoorGExp
import Derived.Test.YtjflkifodfncmaaGreatDoorQ10T
namespace Go.Proofs.YtjflkifodfncmaaGreatDoor
set_option maxHeartbeats 8000000
set_option maxRecDepth 100000
open Go.RowKit
def sufTo(a j:Nat):List UInt8:=
 match j with
 |0=>[]
 |1=>dd (byteK a 0)
 |2=>dd (byteK a 1)++46::dd (byteK a 0)
 |3=>dd (byteK a 2)++46::(dd (byteK a 1)++46::dd (byteK a 0))
 |_=>prN a
theorem sufTo_len(a j:Nat):(sufTo a j).length<=15:=by
 have h1:=dd3 a 0
 have h2:=dd3 a 1
 have h3:=dd3 a 2
 unfold sufTo
 split
 ·simp
 ·omega
 ·simp;omega
 ·simp;omega
 ·exact prN_len a
theorem byte_div(a k:Nat):((a/256^k:Nat):Int)%256=(byteK a k:Nat):=by unfold byteK;omega
theorem r05Print_any(X:Nat)(hX:X<4294967296)(w:World)(ht:Tab10 w):
 Calls Tryz.prog 61 #[.int .u32 X] w fun e w'=>e=.returned (S (prN X))/\Ext w w':=by
 have HT:=Hd ht
 clear ht
 go_enter Tryz.func61,Tryz.ntmps61
 go_wp2_with fail
 go_loopw[0,3,4] (fun a t i wr=>∃(j Y:Nat),j<=4/\i=I j/\Y<4294967296/\Hid (Y=X/256^j)/\a=.int .u32 Y/\t=S (sufTo X j)/\Ext w wr) (fun _ _ i _=>4-(intOf i).toNat)
 case atStart=>exact⟨0,X,by omega,rfl,hX,by show X=X/256^0;simp,rfl,rfl,eR w⟩
 case round=>
  obtain⟨j,Y,hj,rfl,hY,HY,rfl,rfl,hx⟩:=hrel
  have hl:=sufTo_len X j
  by_cases hlt:j<4
  ·have hd:=dd3 X j
   have hb:=byteK_lt X j
   have HB:=Hd (show(Y:Int)%256=(byteK X j:Nat)by rw[HY.out];exact byte_div X j)
   have HN:=Hd (show Y/256=X/256^(j+1)by rw[HY.out,Nat.div_div_eq_div_mul,Nat.pow_succ])
   clear HY
   by_cases h0:j=0
   ·subst h0
    go_wp2_with (first
     |(go_at_call 23;with_reducible refine(itoa_is (byteK X 0) _ _ HB.out (by omega) (HT.out.later hx)).mono ?_;rintro e w1 ⟨rfl,hx1⟩))
    go_roundw
    case rel=>exact⟨1,Y/256,by omega,rfl,by omega,HN.out,by go_num,S_congr (by simp[sufTo]),hx.trans hx1⟩
    case measure=>decide
   ·have hz:0<j:=by omega
    have HF:=Hd (show sufTo X (j+1)=dd (byteK X j)++46::sufTo X j by
     obtain rfl|rfl|rfl:j=1\/j=2\/j=3:=by omega
     all_goals simp[sufTo,prN,join4])
    clear h0
    go_wp2_with (first
     |(go_at_call 23;with_reducible refine(itoa_is (byteK X j) _ _ HB.out (by omega) (HT.out.later hx)).mono ?_;rintro e w1 ⟨rfl,hx1⟩))
    go_roundw
    case rel=>exact⟨j+1,Y/256,by omega,by go_num,by omega,HN.out,by go_num,S_congr (by rw[HF.out]),hx.trans hx1⟩
    case measure=>simp[intOf];omega
  ·have HF:=Hd (show sufTo X j=prN X by
    obtain rfl:j=4:=(by omega)
    rfl)
   go_wp2
   go_ret
   exact⟨ret_S HF.out,hx⟩
theorem r05PrintU(a:BitVec 32)(w:World)(ht:Tab10 w):Calls Tryz.prog 61 #[U a] w fun e w'=>e=.returned (S (prN a.toNat))/\Ext w w':=r05Print_any a.toNat a.isLt w ht
theorem r06Print_any(a:BitVec 32)(n:Int)(w:World)(h:In64 n)(ht:Tab10 w):
 Calls Tryz.prog 22 #[U a,I n] w fun e w'=>e=.returned (S (prefL a.toNat n))/\Ext w w':=by
 have HT:=Hd ht
 clear ht
 have hl:=prN_len a.toNat
 have hl2:=Lib.itoa_length_le n h.1 h.2
 go_enter Tryz.func22,Tryz.ntmps22
 go_wp2_with (first
  |(go_at_call 61;with_reducible refine(r05PrintU a _ HT.out).mono ?_;rintro e w1 ⟨rfl,hx1⟩)
  |(go_at_call 23;with_reducible refine(itoa_any _ _ h (HT.out.later hx1)).mono ?_;rintro e w2 ⟨rfl,hx2⟩))
 go_ret
 exact⟨ret_S (by unfold prefL;simp),hx1.trans hx2⟩
open Go Go.Maps Go.Proofs
theorem r22Explain_any(v:Value)(l:List Byt)(a:BitVec 32)(w:World)(h:BsAt w v l)(hl:l.length<=1000000000)(ht:Tab10 w):Calls Tryz.prog 9 #[v,U a] w (ExOut w l a):=by
 have HN:=Hd (r10Take_any v l w h hl)
 have HTT:=Hd ht
 obtain⟨a0,cap,rfl,-⟩:=h.form
 clear h ht
 cases ht:netTake l with
 |error z=>
  have HT:=Hd ht
  clear ht
  go_enter Tryz.func9,Tryz.ntmps9
  go_upto_region 2 with(first
   |(go_at_call 17
     go_loud(
      (with_reducible refine HN.out.mono ?_)
      rintro e w2 ⟨h1,hx⟩
      rw[HT.out]at h1
      obtain⟨hz,he⟩:=h1
      subst he
      have HX2:=Hd hx
      have HZ:=Hd hz
      clear hx hz)))
  refine hWp (fun W=>Ext w2 W) (by(repeat with_reducible first|exact eR _|assumption|refine eA ?_ _|refine eD ?_|refine eW ?_ _|(refine eS ?_ ?_;focus(first|(simp;done)|(simp;omega)|omega)))) (fun W3 hW3=>?_)
  have HX3:=Hd (HX2.out.trans hW3)
  have hzb:(z !=0)=true:=by simp[HZ.out]
  clear hW3
  go_wp2_with fail
  go_ret2
  unfold ExOut
  rw[HT.out]
  exact⟨⟨HZ.out,rfl⟩,HX3.out⟩
 |ok ls=>
  have HT:=Hd ht
  have HM:=Hd (netTake_may ht)
  clear ht
  have hlen:=(netMay_tabs HM.out).1
  go_enter Tryz.func9,Tryz.ntmps9
  go_upto_region 2 with(first
   |(go_at_call 17
     go_loud(
      (with_reducible refine HN.out.mono ?_)
      rintro e w2 ⟨h1,hx⟩
      rw[HT.out]at h1
      obtain⟨u2,he,ho⟩:=h1
      obtain⟨va,vc,hue,-⟩:=ho.read.form
      subst hue
      subst he
      have HX2:=Hd hx
      have HR2:=Hd ho.read
      clear hx ho)))
  refine hBk w2 [.slice va ls.length vc] 43 (fun W3 hW3=>?_)
  obtain⟨hx3,hb3⟩:=hW3
  have HX3:=Hd (HX2.out.trans hx3)
  have HB3:=Hd hb3
  have HR3:=Hd (HR2.out.later hx3)
  clear hx3 hb3
  generalize w2.heap.size=nb at*
  obtain⟨va',vc',hve,-,-,hvf⟩:=HR3.out.form
  cases hve
  have HVF:=Hd hvf
  clear hvf
  go_upto_region 5 with fail
  refine hWp (fun W=>Ext W3 W/\OwnS W W3.heap.size (.slice (some ⟨W3.heap.size,0,none⟩) 0 0) []) ⟨(eR _).alloc _,own_made W3 1 9 0 [] rfl (by unfold maxLen;omega)⟩ (fun W4 hW4=>?_)
  obtain⟨hx4,ho4⟩:=hW4
  have HX4:=Hd hx4
  have HO4:=Hd ho4
  clear hx4 ho4
  go_wp2_with fail
  go_loopw[8,9] (fun u i wr=>∃(k:Nat),k<=ls.length/\i=I k/\Hid (OwnS wr W3.heap.size u ((ls.take k).map fun t=>explT t a))/\Hid (Ext W3 wr)) (fun _ i _=>ls.length-(intOf i).toNat)
  case atStart=>exact⟨0,Nat.zero_le _,rfl,HO4,HX4⟩
  case round=>
   obtain⟨k,hk,rfl,HO,HX⟩:=hrel
   have hbc:=(HB3.out.later HX.out).cells
   have HKL:=Hd (show((ls.take k).map fun t=>explT t a).length=k by rw[List.length_map,List.length_take];omega)
   by_cases hlt:k<ls.length
   ·have HST:=Hd (expl_step ls a hlt)
    have HLT:=Hd hlt
    have HKR:=Hd (net_rules HM.out _ (List.getElem_mem hlt))
    obtain⟨b,o,x,he,hc,hx⟩:=HVF.out k _ (gE hlt)
    subst he
    replace hc:=HX.out.cell hc
    have HFI:=Hd (r08Find_any x ls[k] a wr (hx.later HX.out) ((may_ok HM.out).at hlt))
    obtain⟨xa,xc,hxf,-⟩:=hx.form
    subst hxf
    clear hx
    have HEX:=Hd (show explT ls[k] a=match findL ls[k] a with|none=>[45]|some r=>saidL r from rfl)
    have HAC:=Hd (fun r (h:findL ls[k] a=some r)=>rul_act (HKR.out r (findL_mem h)))
    generalize explT ls[k] a=T at*
    generalize (ls.take k).map (fun t=>explT t a)=L at*
    generalize ls[k]=t at*
    obtain⟨ua,uc,huf,ub1,ub2⟩:∃ad c,u8=.slice ad L.length c/\L.length<=c/\c<=maxLen:=own_bds HO.out
    subst huf
    cases hf:findL t a with
    |none=>
     have HF0:=Hd (show foundV (findL t a)=.tuple #[.agg #[U 0#32,I 0,I 0,I 0],.bool false]by rw[hf];rfl)
     have HTE:=Hd (show T=[45]by rw[HEX.out,hf])
     have HPR:=Hd (fun W (h:Tab10 W)=>show Calls Tryz.prog 22 #[U 0#32,I 0] W fun e w'=>e=.returned (S (prefL 0 0))/\Ext W w' from r06Print_any 0#32 0 W (by unfold In64;decide) h)
     have hlen':=prefL_len 0 (n:=0) (by unfold In64;decide)
     generalize prefL 0 0=P at*
     clear hf
     go_upto_region 9 with(first
      |(go_at_call 21;(with_reducible refine HFI.out.mono ?_);rintro e w3' ⟨he,hx⟩;rw[HF0.out]at he;subst he;have HX3':=Hd (HX.out.trans hx);have HY3:=Hd hx;clear hx hbc hc))
     refine hWp (fun W=>Ext w3' W/\Blk W w3'.heap.size [U (⟨0#32,0,0,0⟩:Rul).pa,I (⟨0#32,0,0,0⟩:Rul).pl,I (⟨0#32,0,0,0⟩:Rul).act,I (⟨0#32,0,0,0⟩:Rul).nx] 39) ⟨by(repeat with_reducible first|exact eR _|assumption|refine eA ?_ _|refine eD ?_|refine eW ?_ _|(refine eS ?_ ?_;focus(first|(simp;done)|(simp;omega)|omega))),Blk.new w3' [U (⟨0#32,0,0,0⟩:Rul).pa,I (⟨0#32,0,0,0⟩:Rul).pl,I (⟨0#32,0,0,0⟩:Rul).act,I (⟨0#32,0,0,0⟩:Rul).nx] 39⟩ (fun W4' hW4=>?_)
     obtain⟨hx4,hb4⟩:=hW4
     have HX4':=Hd (HX3'.out.trans hx4);have HY4:=Hd (HY3.out.trans hx4)
     have HB4:=Hd hb4
     have hrc:=hb4.cells
     clear hx4 hb4
     generalize w3'.heap.size=rb at*
     go_upto_region 10 with(first
      |(go_at_call 22;(with_reducible refine(HPR.out _ (HTT.out.later (HX3.out.trans HX4'.out))).mono ?_);rintro e w4' ⟨he,hx⟩;subst he;have HX5:=Hd (HX4'.out.trans hx);have HY5:=Hd (HY4.out.trans hx);have HB5:=Hd (HB4.out.later hx);clear hx hrc))
     have hrc:=HB5.out.cells
     go_upto_region 19 with fail
     refine hWp (fun W=>Ext W3 W/\Ext wr W) ⟨HX5.out,HY5.out⟩ (fun w5 hw5=>?_)
     have HX6:=Hd hw5.1;have HWR:=Hd hw5.2
     clear hw5 hrc
     have hT:[45]=T:=by rw[HTE.out]
     rw[hT]
     clear hT
     have HXA:=Hd (HX6.out.alloc (.cells #[S T] 9))
     have HOA:=Hd (show OwnS (w5.alloc (.cells #[S T] 9)) W3.heap.size _ L from own_later HO.out (HWR.out.alloc _))
     have HSC:=Hd (show(w5.alloc (.cells #[S T] 9)).cell? ⟨w5.heap.size,0,none⟩=some (S T)from(Blk.new w5 [S T] 9).cells 0)
     go_wp2_with (first
      |(at_builtin
        refine wpList_app1 rfl (.tmp 65) (.tmp 67) 29 rfl W3.heap.size 9 (.string ⟨#[]⟩) 16 Tryz.underlying29 infoStr rfl (by decide) _ _ _ rfl HOA.out w5.heap.size rfl (S T) HSC.out rfl (by have:=HKL.out;omega) HXA.out.size ?_
        intro v7 w7 ho7 hg7 hl7
        have HX7:=Hd (Ext.grown HXA.out hg7 HOA.out (Nat.le_refl _))
        have HO7:=Hd (show OwnS w7 W3.heap.size v7 (L++[T])from by unfold OwnS;rw[List.map_append,List.length_append];exact ho7)
        clear ho7 hg7 hl7))
     go_roundw
     case rel=>exact⟨k+1,HLT.out,by go_num,by rw[HST.out];exact HO7,HX7⟩
     case measure=>have:=HLT.out;simp[intOf];omega
    |some r=>
     obtain⟨hact,hpl,hnx⟩:=HAC.out r hf
     have HF0:=Hd (show foundV (findL t a)=.tuple #[.agg #[U r.pa,I r.pl,I r.act,I r.nx],.bool true]by rw[hf];rfl)
     have HPR:=Hd (fun W (h:Tab10 W)=>r06Print_any r.pa r.pl W hpl h)
     have HTE:=Hd (show T=prefL r.pa.toNat r.pl++[32]++wordL.getD r.act.toNat []++(if r.act=1 then 32::Lib.itoa r.nx else [])by rw[HEX.out,hf];rfl)
     have hlen':=prefL_len r.pa.toNat hpl
     generalize prefL r.pa.toNat r.pl=P at*
     rcases hact with ha|ha|ha
     ·have HIN:=Hd (show In64 r.nx by have:=hnx ha;unfold In64;omega)
      rw[ha]at HTE HF0
      have hl5:=Lib.itoa_length_le r.nx HIN.out.1 HIN.out.2
      clear hnx hf
      go_upto_region 9 with(first
       |(go_at_call 21;(with_reducible refine HFI.out.mono ?_);rintro e w3' ⟨he,hx⟩;rw[HF0.out]at he;subst he;have HX3':=Hd (HX.out.trans hx);have HY3:=Hd hx;clear hx hbc hc))
      refine hWp (fun W=>Ext w3' W/\Blk W w3'.heap.size [U r.pa,I r.pl,I 1,I r.nx] 39) ⟨by(repeat with_reducible first|exact eR _|assumption|refine eA ?_ _|refine eD ?_|refine eW ?_ _|(refine eS ?_ ?_;focus(first|(simp;done)|(simp;omega)|omega))),Blk.new w3' [U r.pa,I r.pl,I 1,I r.nx] 39⟩ (fun W4' hW4=>?_)
      obtain⟨hx4,hb4⟩:=hW4
      have HX4':=Hd (HX3'.out.trans hx4);have HY4:=Hd (HY3.out.trans hx4)
      have HB4:=Hd hb4
      have hrc:=hb4.cells
      clear hx4 hb4
      generalize w3'.heap.size=rb at*
      go_upto_region 10 with(first
       |(go_at_call 22;(with_reducible refine(HPR.out _ (HTT.out.later (HX3.out.trans HX4'.out))).mono ?_);rintro e w4' ⟨he,hx⟩;subst he;have HX5:=Hd (HX4'.out.trans hx);have HY5:=Hd (HY4.out.trans hx);have HB5:=Hd (HB4.out.later hx);clear hx hrc))
      have hrc:=HB5.out.cells
      go_upto_region 19 with(first
       |(go_at_call 23;(with_reducible refine(itoa_any _ _ HIN.out (HTT.out.later (HX3.out.trans HX5.out))).mono ?_);rintro e w5 ⟨he,hx⟩;subst he;have HX6:=Hd (HX5.out.trans hx);have HWR:=Hd (HY5.out.trans hx);clear hx hrc))
      have hT:P++32::110::101::120::116::32::Lib.itoa r.nx=T:=by rw[HTE.out];simp[wordL]
      rw[hT]
      clear hT
      have HXA:=Hd (HX6.out.alloc (.cells #[S T] 9))
      have HOA:=Hd (show OwnS (w5.alloc (.cells #[S T] 9)) W3.heap.size _ L from own_later HO.out (HWR.out.alloc _))
      have HSC:=Hd (show(w5.alloc (.cells #[S T] 9)).cell? ⟨w5.heap.size,0,none⟩=some (S T)from(Blk.new w5 [S T] 9).cells 0)
      go_wp2_with (first
       |(at_builtin
         refine wpList_app1 rfl (.tmp 65) (.tmp 67) 29 rfl W3.heap.size 9 (.string ⟨#[]⟩) 16 Tryz.underlying29 infoStr rfl (by decide) _ _ _ rfl HOA.out w5.heap.size rfl (S T) HSC.out rfl (by have:=HKL.out;omega) HXA.out.size ?_
         intro v7 w7 ho7 hg7 hl7
         have HX7:=Hd (Ext.grown HXA.out hg7 HOA.out (Nat.le_refl _))
         have HO7:=Hd (show OwnS w7 W3.heap.size v7 (L++[T])from by unfold OwnS;rw[List.map_append,List.length_append];exact ho7)
         clear ho7 hg7 hl7))
      go_roundw
      case rel=>exact⟨k+1,HLT.out,by go_num,by rw[HST.out];exact HO7,HX7⟩
      case measure=>have:=HLT.out;simp[intOf];omega
     ·rw[ha]at HTE HF0
      clear hnx hf
      go_upto_region 9 with(first
       |(go_at_call 21;(with_reducible refine HFI.out.mono ?_);rintro e w3' ⟨he,hx⟩;rw[HF0.out]at he;subst he;have HX3':=Hd (HX.out.trans hx);have HY3:=Hd hx;clear hx hbc hc))
      refine hWp (fun W=>Ext w3' W/\Blk W w3'.heap.size [U r.pa,I r.pl,I 2,I r.nx] 39) ⟨by(repeat with_reducible first|exact eR _|assumption|refine eA ?_ _|refine eD ?_|refine eW ?_ _|(refine eS ?_ ?_;focus(first|(simp;done)|(simp;omega)|omega))),Blk.new w3' [U r.pa,I r.pl,I 2,I r.nx] 39⟩ (fun W4' hW4=>?_)
      obtain⟨hx4,hb4⟩:=hW4
      have HX4':=Hd (HX3'.out.trans hx4);have HY4:=Hd (HY3.out.trans hx4)
      have HB4:=Hd hb4
      have hrc:=hb4.cells
      clear hx4 hb4
      generalize w3'.heap.size=rb at*
      go_upto_region 10 with(first
       |(go_at_call 22;(with_reducible refine(HPR.out _ (HTT.out.later (HX3.out.trans HX4'.out))).mono ?_);rintro e w4' ⟨he,hx⟩;subst he;have HX5:=Hd (HX4'.out.trans hx);have HY5:=Hd (HY4.out.trans hx);have HB5:=Hd (HB4.out.later hx);clear hx hrc))
      have hrc:=HB5.out.cells
      go_upto_region 19 with fail
      refine hWp (fun W=>Ext W3 W/\Ext wr W) ⟨HX5.out,HY5.out⟩ (fun w5 hw5=>?_)
      have HX6:=Hd hw5.1;have HWR:=Hd hw5.2
      clear hw5 hrc
      have hT:P++[32,100,101,108,105,118,101,114]=T:=by rw[HTE.out];simp[wordL]
      rw[hT]
      clear hT
      have HXA:=Hd (HX6.out.alloc (.cells #[S T] 9))
      have HOA:=Hd (show OwnS (w5.alloc (.cells #[S T] 9)) W3.heap.size _ L from own_later HO.out (HWR.out.alloc _))
      have HSC:=Hd (show(w5.alloc (.cells #[S T] 9)).cell? ⟨w5.heap.size,0,none⟩=some (S T)from(Blk.new w5 [S T] 9).cells 0)
      go_wp2_with (first
       |(at_builtin
         refine wpList_app1 rfl (.tmp 65) (.tmp 67) 29 rfl W3.heap.size 9 (.string ⟨#[]⟩) 16 Tryz.underlying29 infoStr rfl (by decide) _ _ _ rfl HOA.out w5.heap.size rfl (S T) HSC.out rfl (by have:=HKL.out;omega) HXA.out.size ?_
         intro v7 w7 ho7 hg7 hl7
         have HX7:=Hd (Ext.grown HXA.out hg7 HOA.out (Nat.le_refl _))
         have HO7:=Hd (show OwnS w7 W3.heap.size v7 (L++[T])from by unfold OwnS;rw[List.map_append,List.length_append];exact ho7)
         clear ho7 hg7 hl7))
      go_roundw
      case rel=>exact⟨k+1,HLT.out,by go_num,by rw[HST.out];exact HO7,HX7⟩
      case measure=>have:=HLT.out;simp[intOf];omega
     ·rw[ha]at HTE HF0
      clear hnx hf
      go_upto_region 9 with(first
       |(go_at_call 21;(with_reducible refine HFI.out.mono ?_);rintro e w3' ⟨he,hx⟩;rw[HF0.out]at he;subst he;have HX3':=Hd (HX.out.trans hx);have HY3:=Hd hx;clear hx hbc hc))
      refine hWp (fun W=>Ext w3' W/\Blk W w3'.heap.size [U r.pa,I r.pl,I 3,I r.nx] 39) ⟨by(repeat with_reducible first|exact eR _|assumption|refine eA ?_ _|refine eD ?_|refine eW ?_ _|(refine eS ?_ ?_;focus(first|(simp;done)|(simp;omega)|omega))),Blk.new w3' [U r.pa,I r.pl,I 3,I r.nx] 39⟩ (fun W4' hW4=>?_)
      obtain⟨hx4,hb4⟩:=hW4
      have HX4':=Hd (HX3'.out.trans hx4);have HY4:=Hd (HY3.out.trans hx4)
      have HB4:=Hd hb4
      have hrc:=hb4.cells
      clear hx4 hb4
      generalize w3'.heap.size=rb at*
      go_upto_region 10 with(first
       |(go_at_call 22;(with_reducible refine(HPR.out _ (HTT.out.later (HX3.out.trans HX4'.out))).mono ?_);rintro e w4' ⟨he,hx⟩;subst he;have HX5:=Hd (HX4'.out.trans hx);have HY5:=Hd (HY4.out.trans hx);have HB5:=Hd (HB4.out.later hx);clear hx hrc))
      have hrc:=HB5.out.cells
      go_upto_region 19 with fail
      refine hWp (fun W=>Ext W3 W/\Ext wr W) ⟨HX5.out,HY5.out⟩ (fun w5 hw5=>?_)
      have HX6:=Hd hw5.1;have HWR:=Hd hw5.2
      clear hw5 hrc
      have hT:P++[32,100,114,111,112]=T:=by rw[HTE.out];simp[wordL]
      rw[hT]
      clear hT
      have HXA:=Hd (HX6.out.alloc (.cells #[S T] 9))
      have HOA:=Hd (show OwnS (w5.alloc (.cells #[S T] 9)) W3.heap.size _ L from own_later HO.out (HWR.out.alloc _))
      have HSC:=Hd (show(w5.alloc (.cells #[S T] 9)).cell? ⟨w5.heap.size,0,none⟩=some (S T)from(Blk.new w5 [S T] 9).cells 0)
      go_wp2_with (first
       |(at_builtin
         refine wpList_app1 rfl (.tmp 65) (.tmp 67) 29 rfl W3.heap.size 9 (.string ⟨#[]⟩) 16 Tryz.underlying29 infoStr rfl (by decide) _ _ _ rfl HOA.out w5.heap.size rfl (S T) HSC.out rfl (by have:=HKL.out;omega) HXA.out.size ?_
         intro v7 w7 ho7 hg7 hl7
         have HX7:=Hd (Ext.grown HXA.out hg7 HOA.out (Nat.le_refl _))
         have HO7:=Hd (show OwnS w7 W3.heap.size v7 (L++[T])from by unfold OwnS;rw[List.map_append,List.length_append];exact ho7)
         clear ho7 hg7 hl7))
      go_roundw
      case rel=>exact⟨k+1,HLT.out,by go_num,by rw[HST.out];exact HO7,HX7⟩
      case measure=>have:=HLT.out;simp[intOf];omega
   ·obtain rfl:k=ls.length:=by omega
    have HO':=Hd (show OwnS wr W3.heap.size u8 (ls.map fun t=>explT t a)by have h:=HO.out;rw[List.take_length]at h;exact h)
    go_wp2_with fail
    go_ret2
    unfold ExOut
    rw[HT.out]
    exact⟨⟨_,rfl,own_low HO'.out HX3.out.size⟩,HX3.out.trans HX.out⟩
end Go.Proofs.YtjflkifodfncmaaGreatDoor
