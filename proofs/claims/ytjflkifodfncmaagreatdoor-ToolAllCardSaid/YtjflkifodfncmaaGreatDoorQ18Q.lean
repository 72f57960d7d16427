/- Q18P, Q18Q: these texts in one. Conditions: each theorem names its own. -/
import Derived.Test.YtjflkifodfncmaaGreatDoorQ1R
import Derived.Test.YtjflkifodfncmaaGreatDoorGCPt
import Derived.Test.YtjflkifodfncmaaGreatDoorGNTk
namespace Go.Proofs.YtjflkifodfncmaaGreatDoor
set_option maxHeartbeats 8000000
set_option maxRecDepth 100000
open Go Go.RowKit Go.Maps Go.Proofs
theorem groupsB_step{l:List Int}{k:Nat}(h:k<l.length):groupsB (l.take (k+1))=groupsB (l.take k)++gput l[k].toNat:=by
 unfold groupsB
 rw[List.take_succ_eq_append_getElem h,List.flatMap_append,List.flatMap_cons,List.flatMap_nil,List.append_nil]
theorem r18Groups_any(v:Value)(l:List Int)(w:World)(h:IntsAt w v l)(hb:∀x∈l,0<=x/\x<268435456)(hl:l.length<=1000000):Calls Tryz.prog 117 #[v] w fun e w'=>∃u,e=.returned u/\OwnY w' w.heap.size u (groupsB l)/\Ext w w':=by
 have HB:=Hd hb
 obtain⟨a,cap,rfl,c1,c2,hc⟩:=h.form
 have HC:=Hd hc
 clear h hc hb
 unfold maxLen at c2
 go_enter Tryz.func117,Tryz.ntmps117
 go_upto_region 2 with fail
 refine hWp (fun W=>Ext w W/\OwnY W w.heap.size (.slice (some ⟨w.heap.size,0,none⟩) 0 0) []) ⟨by(repeat with_reducible first|exact eR _|assumption|refine eA ?_ _|refine eD ?_|refine eW ?_ _|(refine eS ?_ ?_;focus(first|(simp;done)|(simp;omega)|omega))),ownY_made w [] (Nat.zero_le _)⟩ (fun W1 hW1=>?_)
 obtain⟨hx1,ho1⟩:=hW1
 have HX1:=Hd hx1
 have HO1:=Hd ho1
 clear hx1 ho1
 go_wp2_with fail
 go_loopw[3,4] (fun v i wr=>∃(k:Nat),k<=l.length/\i=I k/\Hid (OwnY wr w.heap.size v (groupsB (l.take k)))/\Hid (Ext w wr)) (fun _ i _=>l.length-(intOf i).toNat)
 case atStart=>exact⟨0,by omega,rfl,HO1,HX1⟩
 case round=>
  obtain⟨k,hk,rfl,HO,HX⟩:=hrel
  have HBL:=Hd (show(groupsB (l.take k)).length<=4*k from by
   have h:=groupsB_len (l.take k)
   rw[List.length_take]at h;omega)
  obtain⟨oa,oc,hof⟩:=HO.out.form
  subst hof
  by_cases hlt:k<l.length
  ·have HLT:=Hd hlt
   have HN:=Hd (groupsB_step hlt)
   have hxb:=HB.out l[k] (List.getElem_mem hlt)
   obtain⟨b,off,rfl,hcell⟩:=HC.out k l[k] (gE hlt)
   replace hcell:=HX.out.cell hcell
   generalize l[k]=xk at*
   obtain⟨m,rfl⟩:∃m:Nat,xk=m:=⟨xk.toNat,by omega⟩
   have HP:=Hd (r02Put_any m (by omega))
   have HGL:=Hd (show(gput m).length<=4 by rw[gput_len];exact(gsize_bd m).2)
   replace HN:=Hd (HN.out.trans (by rw[Int.toNat_natCast]))
   generalize groupsB (l.take k)=L at*
   go_wp2_with (first
    |(go_at_call 158;(with_reducible refine(HP.out _).mono ?_);rintro e w2 ⟨v2,he,ho2,hx2⟩;obtain⟨a2,p2,hue⟩:=ho2.form;subst hue;subst he;have HB2:=Hd ho2.bs;have HO2:=Hd (HO.out.later hx2);have HX2:=Hd (HX.out.trans hx2);clear ho2 hx2 hcell)
    |(at_builtin;refine wpList_app rfl _ _ 22 rfl w.heap.size 5 (.int .u8 0) 1 1 Tryz.underlying22 infoU8' rfl (by decide) (by decide) _ _ _ rfl HO2.out _ _ _ rfl HB2.out (ycells_one _) (by have:=HGL.out;have:=HBL.out;have:=HLT.out;omega) HX2.out.size ?_
      intro v9 w9 ho9 hg9
      have HX9:=Hd (Ext.grown HX2.out hg9 HO2.out (Nat.le_refl _))
      have HO9:=Hd (show OwnY w9 w.heap.size v9 (L++gput m)from by unfold OwnY;rw[ycells_app,List.length_append];exact ho9)
      clear ho9 hg9))
   go_roundw
   case rel=>exact⟨k+1,HLT.out,by go_num,by rw[HN.out];exact HO9,HX9⟩
   case measure=>have:=HLT.out;simp[intOf];omega
  ·obtain rfl:k=l.length:=by omega
   rw[List.take_length]at HO ⊢
   go_wp2_with fail
   go_ret
   exact⟨_,rfl,HO.out,HX.out⟩
theorem own_slice{w:World}{B:Nat}{e:TypeId}{z:Nat}{v:Value}{n:Nat}{xs:List Value}(h:w.ownsRow B e z v n xs):∃a c,v=.slice a n c:=let ⟨a,c,h,_⟩:=own_bds h;⟨a,c,h⟩
theorem lit_made{W:World}{p B:Nat}(y:Byt)(hp:W.heap.size=p)(hB:B<=W.heap.size):OwnY (W.alloc (.cells #[Y y] 5)) B (.slice (some ⟨p,0,none⟩) 1 1) [y]:=by
 subst hp
 exact OwnY.low (ownY_made W [y] (by unfold maxLen;simp)) hB
theorem ints_made1{W:World}{p:Nat}(x:Int)(hp:W.heap.size=p):IntsAt (W.alloc (.cells #[I x] 3)) (.slice (some ⟨p,0,none⟩) 1 1) [x]:=by
 subst hp
 exact Reads.made W 1 3 1 [I x] rfl (by unfold maxLen;omega)
theorem r18Body_any(pv tv:Value)(c:Crt)(n:Nat)(w:World)(h:CertAt w pv tv c)(hm:certMayV n c=0)(hn:n<=256):
 Calls Tryz.prog 57 #[.agg #[I c.vd,pv,U c.dest,tv],I n] w fun e w'=>∃u,e=.returned u/\OwnY w' w.heap.size u (certB c n)/\Ext w w':=by
 have HC:=Hd h
 have HM:=Hd hm
 obtain⟨pa,pc,rfl,p1,p2,p3⟩:=h.parts.form
 obtain⟨ta,tc,rfl,t1,t2,-⟩:=h.tr.form
 clear h hm
 unfold maxLen at p2 t2
 have hvd:c.vd=1\/c.vd=2:=by
  by_cases hv:c.vd=1
  ·exact .inl hv
  ·exact .inr (loop_ok HM.out hv).vd
 have HGN:=Hd (fun W v (h:IntsAt W v [(n:Int)])=>r18Groups_any v [(n:Int)] W h (fun x hx=>by simp only[List.mem_singleton]at hx;subst hx;omega) (by simp))
 rw[groupsB_one,Int.toNat_natCast]at HGN
 go_enter Tryz.func57,Tryz.ntmps57
 go_upto_region 1 with fail
 refine hBk w [I c.vd,.slice pa c.ps.length pc,U c.dest,.slice ta c.tr.length tc] 49 (fun W1 hW1=>?_)
 obtain⟨hx1,hb1⟩:=hW1
 have HX1:=Hd hx1
 have HB1:=Hd hb1
 clear hx1 hb1
 generalize w.heap.size=cb at*
 have hvy:IntKind.u8.wrap c.vd=yv (byt c.vd.toNat):=by rcases hvd with h|h<;>rw[h]<;>decide
 have HVB:=Hd (show beN 1 c.vd.toNat=[byt c.vd.toNat]from rfl)
 generalize byt c.vd.toNat=y at*
 refine wp_region_R (RB (W1.heap.size)) 8 rfl (by kernel_rfl) (by kernel_rfl) (fun w0 hx0=>?_)
 have HX0:=Hd hx0
 have hsz:W1.heap.size<=w0.heap.size:=hx0.size
 have k0:=RB.keep hsz HB1.out.lt ((HB1.out.later hx0).cells 0)
 clear hx0
 refine WRi_at 0 ?_
 iterate 3
  refine WRi_q (preRB _) rfl (by decide) (by kernel_rfl) rfl ?_;apply Exists.intro;refine⟨fun w1 hx1=>?_,?_⟩
  ·go_simp;try go_bits
   first|with_reducible rfl|rfl
  go_frame;try simp only[Nat.reduceAdd]
 refine WRi_out ?_
 refine WR_q (preRB _) 4 rfl (by decide) (by kernel_rfl) rfl ?_;apply Exists.intro;refine⟨fun w1 hx1=>?_,?_⟩
 ·go_simp;try go_bits
  first|with_reducible rfl|rfl
 go_frame
 have HGL:=Hd (show(gput n).length<=4 by rw[gput_len];exact(gsize_bd n).2)
 obtain⟨L2,hL2⟩:∃L2,L2=[y]++gput n:=⟨_,rfl⟩
 have HLD:=Hd hL2
 clear k0 hL2
 refine WR_two 3 5 rfl rfl (by decide) (by decide) (by kernel_rfl) rfl rfl (fun K hK=>?_) (fun K hK=>?_)
 focus
  go_simp
  refine hK _ _ (RB.ext ((eR _).alloc _)) ?_
  clear hK K
  have HE1:=Hd (show Ext W1 (w0.alloc (.cells #[Y y] 5))from HX0.out.alloc _)
  have HL2:=Hd (show OwnY (w0.alloc (.cells #[Y y] 5)) W1.heap.size (.slice (some ⟨w0.heap.size,0,none⟩) 1 1) [y]from lit_made y rfl HX0.out.size)
  refine WR_one 5 rfl (by decide) (by kernel_rfl) rfl (fun K hK=>?_)
  go_simp
  refine hK _ _ (RB.ext ((eR _).alloc _)) ?_
  clear hK K
  have HE3:=Hd (show Ext W1 ((w0.alloc (.cells #[Y y] 5)).alloc (.cells #[I n] 3))from HE1.out.alloc _)
  have HI4:=Hd (ints_made1 (W:=(w0.alloc (.cells #[Y y] 5))) (n:Int) (p:=w0.heap.size+1) (by simp))
  have HL5:=Hd (HL2.out.later ((eR _).alloc (.cells #[I n] 3)))
  refine WR_one 6 rfl (by decide) (by kernel_rfl) rfl (fun K hK=>?_)
  go_simp
  (with_reducible refine(HGN.out _ _ HI4.out).mono ?_)
  rintro e wc6 ⟨gv9,he,ho,hx⟩
  obtain⟨ga10,gc11,hue⟩:=ho.form
  subst hue
  subst he
  refine hK _ _ (RB.ext hx) ?_
  have HG7:=Hd ho.bs
  have HE8:=Hd (HE3.out.trans hx)
  have HL12:=Hd (HL5.out.later hx)
  clear hK K ho hx
  refine WR_one 7 rfl (by decide) (by kernel_rfl) rfl (fun K hK=>?_)
  refine wp_of_list (ops:=#[]) rfl ?_
  refine wpList_app rfl (.tmp 15) (.tmp 18) 22 rfl W1.heap.size 5 (.int .u8 0) 1 1 Tryz.underlying22 infoU8' rfl (by decide) (by decide) _ _ _ rfl HL12.out _ _ _ rfl HG7.out (ycells_one _) (by have:=HGL.out;simp only[List.length_cons,List.length_nil];omega) HE8.out.size ?_
  intro vf14 wf13 hof hgf
  refine⟨rfl,hK _ _ (RB.below HE8.out.size (Below.grown (Below.refl _ _) hgf HE8.out.size fun q hq=>(HL12.out.lt q hq).1)) ?_⟩
  have HR:=Hd (show Ext W1 wf13/\OwnY wf13 W1.heap.size vf14 L2 from⟨Ext.grown HE8.out hgf HL12.out (Nat.le_refl _),by rw[HLD.out];unfold OwnY;rw[ycells_app,List.length_append];exact hof⟩)
  clear hK K hof hgf
 rotate_left
 focus
  go_simp
  refine hK _ _ (RB.ext ((eR _).alloc _)) ?_
  clear hK K
  have HE15:=Hd (show Ext W1 (w0.alloc (.cells #[I n] 3))from HX0.out.alloc _)
  have HI16:=Hd (ints_made1 (W:=w0) (n:Int) (p:=w0.heap.size) rfl)
  refine WR_two 3 6 rfl rfl (by decide) (by decide) (by kernel_rfl) rfl rfl (fun K hK=>?_) (fun K hK=>?_)
  focus
   go_simp
   refine hK _ _ (RB.ext ((eR _).alloc _)) ?_
   clear hK K
   have HE17:=Hd (show Ext W1 ((w0.alloc (.cells #[I n] 3)).alloc (.cells #[Y y] 5))from HE15.out.alloc _)
   have HL18:=Hd (show OwnY ((w0.alloc (.cells #[I n] 3)).alloc (.cells #[Y y] 5)) W1.heap.size (.slice (some ⟨w0.heap.size+1,0,none⟩) 1 1) [y]from lit_made y (by simp) HE15.out.size)
   have HI19:=Hd (HI16.out.later ((eR _).alloc (.cells #[Y y] 5)))
   refine WR_one 6 rfl (by decide) (by kernel_rfl) rfl (fun K hK=>?_)
   go_simp
   (with_reducible refine(HGN.out _ _ HI19.out).mono ?_)
   rintro e wc20 ⟨gv23,he,ho,hx⟩
   obtain⟨ga24,gc25,hue⟩:=ho.form
   subst hue
   subst he
   refine hK _ _ (RB.ext hx) ?_
   have HG21:=Hd ho.bs
   have HE22:=Hd (HE17.out.trans hx)
   have HL26:=Hd (HL18.out.later hx)
   clear hK K ho hx
   refine WR_one 7 rfl (by decide) (by kernel_rfl) rfl (fun K hK=>?_)
   refine wp_of_list (ops:=#[]) rfl ?_
   refine wpList_app rfl (.tmp 15) (.tmp 18) 22 rfl W1.heap.size 5 (.int .u8 0) 1 1 Tryz.underlying22 infoU8' rfl (by decide) (by decide) _ _ _ rfl HL26.out _ _ _ rfl HG21.out (ycells_one _) (by have:=HGL.out;simp only[List.length_cons,List.length_nil];omega) HE22.out.size ?_
   intro vf28 wf27 hof hgf
   refine⟨rfl,hK _ _ (RB.below HE22.out.size (Below.grown (Below.refl _ _) hgf HE22.out.size fun q hq=>(HL26.out.lt q hq).1)) ?_⟩
   have HR:=Hd (show Ext W1 wf27/\OwnY wf27 W1.heap.size vf28 L2 from⟨Ext.grown HE22.out hgf HL26.out (Nat.le_refl _),by rw[HLD.out];unfold OwnY;rw[ycells_app,List.length_append];exact hof⟩)
   clear hK K hof hgf
  rotate_left
  focus
   go_simp
   (with_reducible refine(HGN.out _ _ HI16.out).mono ?_)
   rintro e wc29 ⟨gv32,he,ho,hx⟩
   obtain⟨ga33,gc34,hue⟩:=ho.form
   subst hue
   subst he
   refine hK _ _ (RB.ext hx) ?_
   have HG30:=Hd ho.bs
   have HE31:=Hd (HE15.out.trans hx)
   clear hK K ho hx
   refine WR_one 3 rfl (by decide) (by kernel_rfl) rfl (fun K hK=>?_)
   go_simp
   refine hK _ _ (RB.ext ((eR _).alloc _)) ?_
   clear hK K
   have HE35:=Hd (show Ext W1 (wc29.alloc (.cells #[Y y] 5))from HE31.out.alloc _)
   have HL36:=Hd (show OwnY (wc29.alloc (.cells #[Y y] 5)) W1.heap.size (.slice (some ⟨wc29.heap.size,0,none⟩) 1 1) [y]from lit_made y rfl HE31.out.size)
   have HI37:=Hd (HI16.out.later ((eR _).alloc (.cells #[Y y] 5)))
   have HG38:=Hd (HG30.out.later ((eR _).alloc (.cells #[Y y] 5)))
   refine WR_one 7 rfl (by decide) (by kernel_rfl) rfl (fun K hK=>?_)
   refine wp_of_list (ops:=#[]) rfl ?_
   refine wpList_app rfl (.tmp 15) (.tmp 18) 22 rfl W1.heap.size 5 (.int .u8 0) 1 1 Tryz.underlying22 infoU8' rfl (by decide) (by decide) _ _ _ rfl HL36.out _ _ _ rfl HG38.out (ycells_one _) (by have:=HGL.out;simp only[List.length_cons,List.length_nil];omega) HE35.out.size ?_
   intro vf40 wf39 hof hgf
   refine⟨rfl,hK _ _ (RB.below HE35.out.size (Below.grown (Below.refl _ _) hgf HE35.out.size fun q hq=>(HL36.out.lt q hq).1)) ?_⟩
   have HR:=Hd (show Ext W1 wf39/\OwnY wf39 W1.heap.size vf40 L2 from⟨Ext.grown HE35.out hgf HL36.out (Nat.le_refl _),by rw[HLD.out];unfold OwnY;rw[ycells_app,List.length_append];exact hof⟩)
   clear hK K hof hgf
 all_goals
  obtain⟨hxf,hof⟩:=HR.out
  have HL2:=Hd (show L2.length<=5 by rw[HLD.out,List.length_append];have:=HGL.out;simp only[List.length_cons,List.length_nil];omega)
  have HCB:=Hd (show certB c n=L2++(if c.vd=1 then gput c.ps.length++(c.ps.zip c.rks).flatMap partB else be4 c.dest++(gput c.tr.length++groupsB c.tr))from by rw[HLD.out];unfold certB;rw[HVB.out,List.append_assoc])
  obtain⟨oa,oc,hov⟩:=hof.form
  subst hov
  refine WR_done (by kernel_rfl) ?_
  (try simp only[List.drop_succ_cons,List.drop_zero])
  go_upto_region 2 with fail
  refine hWp (fun W=>Ext W1 W/\OwnY W W1.heap.size (.slice oa L2.length oc) L2) ⟨hxf,hof⟩ (fun W2 hW2=>?_)
  obtain⟨hx2,ho2⟩:=hW2
  have HX2:=Hd hx2
  have HO2:=Hd ho2
  have HB2:=Hd (HB1.out.later hx2)
  have hbc:=HB2.out.cells
  clear hxf hof HR hx2 ho2
  have P3:=Hd p3
  have HP:=Hd (fun(s:BitVec 32) W=>show Calls Tryz.prog 116 #[.int .i64 (uv s),.int .i64 4] W fun e w'=>∃u,e=.returned (.tuple #[u,I 0])/\OwnY w' W.heap.size u (be4 s)/\Ext W w' from r01Put4_any s.toNat (by have:=s.isLt;omega) W)
  have HW1:=Hd (show w.heap.size<=W1.heap.size from HX1.out.size)
  rcases hvd with hv|hv
  rotate_left
  focus
   have hvb:(c.vd==2)=true:=by rw[hv];rfl
   have HLK:=Hd (loop_ok HM.out (by rw[hv];decide))
   have HCZ:=Hd (show certB c n=(L2++be4 c.dest)++groupsB ((c.tr.length:Int)::c.tr)by
    rw[HCB.out,if_neg (by rw[hv];decide)]
    show _=(L2++be4 c.dest)++(gput ((c.tr.length:Int)).toNat++groupsB c.tr)
    rw[Int.toNat_natCast,List.append_assoc])
   have hfew:=HLK.out.few
   have HGT:=Hd (fun W v (h:IntsAt W v ((c.tr.length:Int)::c.tr))=>r18Groups_any v ((c.tr.length:Int)::c.tr) W h (fun x hx=>by
    rcases List.mem_cons.1 hx with rfl|hx
    ·omega
    ·have:=HLK.out.bd x hx;omega) (by simp only[List.length_cons];omega))
   have HGB:=Hd (show(groupsB ((c.tr.length:Int)::c.tr)).length<=4000 by have:=groupsB_len ((c.tr.length:Int)::c.tr);simp only[List.length_cons]at this;omega)
   clear hv P3
   go_upto_region 4 with(first
    |(go_at_call 116;(with_reducible refine(HP.out _ _).mono ?_);rintro e w3 ⟨v3,he,ho,hx⟩;obtain⟨da,dc,hue⟩:=ho.form;subst hue;subst he;have HX3:=Hd (HX2.out.trans hx);have HD3:=Hd ho.bs;have HO3:=Hd (HO2.out.later hx);have HB3:=Hd (HB2.out.later hx);clear ho hx hbc))
   go_upto_region 5 with(first
    |(at_builtin;refine wpList_app rfl _ _ 22 rfl W1.heap.size 5 (.int .u8 0) 1 1 Tryz.underlying22 infoU8' rfl (by decide) (by decide) _ _ _ rfl HO3.out _ _ _ rfl HD3.out (ycells_one _) (by rw[be4_len];have:=HL2.out;omega) HX3.out.size ?_;intro v4 w4 ho hg
      have HX4:=Hd (Ext.grown HX3.out hg HO3.out (Nat.le_refl _))
      have HO4:=Hd (show OwnY w4 W1.heap.size v4 (L2++be4 c.dest)from by unfold OwnY;rw[ycells_app,List.length_append];exact ho)
      clear ho hg))
   have HL4:=Hd (show(L2++be4 c.dest).length<=9 by rw[List.length_append,be4_len];have:=HL2.out;omega)
   generalize L2++be4 c.dest=L4 at*
   obtain⟨oa4,oc4,hov⟩:=HO4.out.form
   subst hov
   have HBK:=Hd (HB1.out.later HX4.out)
   have hbc:=HBK.out.cells
   have HAL:=Hd ((eR w4).alloc (.cells #[I c.tr.length] 3))
   have HXA:=Hd (HX4.out.trans HAL.out)
   have HIA:=Hd (show(w4.alloc (.cells #[I c.tr.length] 3)).ownsRow w4.heap.size 3 1 (.slice (some ⟨w4.heap.size,0,none⟩) 1 1) 1 [I c.tr.length]from own_made w4 1 3 1 [I c.tr.length] rfl (by unfold maxLen;omega))
   have HTR:=Hd (show IntsAt (w4.alloc (.cells #[I c.tr.length] 3)) (.slice ta c.tr.length tc) c.tr from HC.out.tr.later (HX1.out.trans HXA.out))
   have HOA:=Hd (HO4.out.later HAL.out)
   have hbca:=(HBK.out.later HAL.out).cells
   go_wp2_with (first
    |(at_builtin;refine wpList_app rfl (.tmp 37) (.tmp 39) 47 rfl w4.heap.size 3 (.int .i64 0) 1 8 Tryz.underlying47 infoInt rfl (by decide) (by decide) _ _ _ rfl HIA.out _ _ _ rfl HTR.out (icells_one _) (by omega) HAL.out.size ?_
      intro v5 w5 ho hg
      obtain⟨ia,ic,hiv⟩:=own_slice ho
      subst hiv
      have HX5:=Hd (Ext.grown HAL.out hg HIA.out (Nat.le_refl _))
      have HI5:=Hd (show IntsAt w5 (.slice ia (1+c.tr.length) ic) ((c.tr.length:Int)::c.tr)from by
       have h:=Reads.of_own ho
       show Reads w5 1 _ ((c.tr.length:Int)::c.tr).length (icells ((c.tr.length:Int)::c.tr))
       rw[show((c.tr.length:Int)::c.tr).length=1+c.tr.length by rw[List.length_cons,Nat.add_comm]];exact h)
      have HO5:=Hd (HO4.out.later HX5.out)
      have HXV:=Hd (HX4.out.trans HX5.out)
      clear ho hg hbc hbca)
    |(go_at_call 117;(with_reducible refine(HGT.out _ _ HI5.out).mono ?_);rintro e w6 ⟨v6,he,ho,hx⟩;obtain⟨ga,gc,hue⟩:=ho.form;subst hue;subst he;have HX6:=Hd (HXV.out.trans hx);have HG6:=Hd ho.bs;have HO6:=Hd (HO5.out.later hx);clear ho hx)
    |(at_builtin;refine wpList_app rfl (.tmp 33) (.tmp 41) 22 rfl W1.heap.size 5 (.int .u8 0) 1 1 Tryz.underlying22 infoU8' rfl (by decide) (by decide) _ _ _ rfl HO6.out _ _ _ rfl HG6.out (ycells_one _) (by have:=HGB.out;have:=HL4.out;omega) HX6.out.size ?_;intro v7 w7 ho hg
      have HX7:=Hd (Ext.grown HX6.out hg HO6.out (Nat.le_refl _))
      have HO7:=Hd (show OwnY w7 W1.heap.size v7 (L4++groupsB ((c.tr.length:Int)::c.tr))from by unfold OwnY;rw[ycells_app,List.length_append];exact ho)
      clear ho hg))
   go_ret
   rw[HCZ.out]
   exact⟨_,rfl,HO7.out.low HW1.out,HX1.out.trans HX7.out⟩
  have hvb:(c.vd==2)=false:=by rw[hv];rfl
  have HF:=Hd (free_ok HM.out hv)
  have hfew:=HF.out.few
  have HGP:=Hd (fun W v (h:IntsAt W v [(c.ps.length:Int)])=>r18Groups_any v [(c.ps.length:Int)] W h (fun x hx=>by simp only[List.mem_singleton]at hx;subst hx;omega) (by simp))
  rw[groupsB_one,Int.toNat_natCast]at HGP
  have HGB:=Hd (show(gput c.ps.length).length<=4 by rw[gput_len];exact(gsize_bd c.ps.length).2)
  have HCZ:=Hd (show certB c n=(L2++gput c.ps.length)++(c.ps.zip c.rks).flatMap partB by rw[HCB.out,if_pos hv,List.append_assoc])
  clear hv
  have HIP:=Hd (ints_made1 (W:=W2) (c.ps.length:Int) rfl)
  have HAL:=Hd ((eR W2).alloc (.cells #[I c.ps.length] 3))
  have HXA:=Hd (HX2.out.trans HAL.out)
  have HOA:=Hd (HO2.out.later HAL.out)
  have HBA:=Hd (HB2.out.later HAL.out)
  go_upto_region 7 with(first
   |(go_at_call 117;(with_reducible refine(HGP.out _ _ HIP.out).mono ?_);rintro e w3 ⟨v3,he,ho,hx⟩;obtain⟨ga,gc,hue⟩:=ho.form;subst hue;subst he;have HX3:=Hd (HXA.out.trans hx);have HG3:=Hd ho.bs;have HO3:=Hd (HOA.out.later hx);have HB3:=Hd (HBA.out.later hx);clear ho hx hbc)
   |(at_builtin;refine wpList_app rfl (.tmp 43) (.tmp 48) 22 rfl W1.heap.size 5 (.int .u8 0) 1 1 Tryz.underlying22 infoU8' rfl (by decide) (by decide) _ _ _ rfl HO3.out _ _ _ rfl HG3.out (ycells_one _) (by have:=HGB.out;have:=HL2.out;omega) HX3.out.size ?_;intro v4 w4 ho hg
     have HX4:=Hd (Ext.grown HX3.out hg HO3.out (Nat.le_refl _))
     have HO4:=Hd (show OwnY w4 W1.heap.size v4 (L2++gput c.ps.length)from by unfold OwnY;rw[ycells_app,List.length_append];exact ho)
     clear ho hg))
  have HL4:=Hd (show(L2++gput c.ps.length).length<=9 by rw[List.length_append];have:=HL2.out;have:=HGB.out;omega)
  generalize L2++gput c.ps.length=L4 at*
  have HRL:=Hd (show c.rks.length=c.ps.length from HC.out.len)
  have HPB:=Hd (show∀k,(L4++((c.ps.zip c.rks).take k).flatMap partB).length<=100000000 from fun k=>by
   have h4:=partsB_len hn ((c.ps.zip c.rks).take k) fun q hq=>by
    have:=(rksV_all HF.out.rks q.2 (List.of_mem_zip (List.mem_of_mem_take hq)).2).1
    omega
   rw[List.length_take,List.length_zip]at h4
   have:=HL4.out
   rw[List.length_append];omega)
  have HB4:=Hd (HB1.out.later HX4.out)
  go_wp2_with fail
  go_loopw[5,8] (fun v i wr=>∃(k:Nat),k<=c.ps.length/\i=I k/\Hid (OwnY wr W1.heap.size v (L4++((c.ps.zip c.rks).take k).flatMap partB))/\Hid (Ext W1 wr)) (fun _ i _=>c.ps.length-(intOf i).toNat)
  case atStart=>exact⟨0,by omega,rfl,Hd (by simpa using HO4.out),HX4⟩
  case round=>
   obtain⟨k,hk,rfl,HO,HX⟩:=hrel
   have HBW:=Hd (HB1.out.later HX.out)
   have hbc:=HBW.out.cells
   obtain⟨oa5,oc5,hof⟩:=HO.out.form
   subst hof
   by_cases hlt:k<c.ps.length
   ·have HLT:=Hd hlt
    have hkr:k<c.rks.length:=by rw[HRL.out];exact hlt
    obtain⟨b0,o0,hpe,p0,p1,p2⟩:=P3.out k c.ps[k] (gE hlt)
    subst hpe
    have HXW:=Hd (HX1.out.trans HX.out)
    replace p0:=HXW.out.cell p0
    replace p1:=HXW.out.cell p1
    replace p2:=HXW.out.cell p2
    have HIK:=Hd (HC.out.rk k _ _ (gE hlt) (gE hkr))
    have HRB:=Hd (rksV_all HF.out.rks _ (List.getElem_mem hkr))
    have HZ:=Hd (show L4++((c.ps.zip c.rks).take (k+1)).flatMap partB=((L4++((c.ps.zip c.rks).take k).flatMap partB)++[c.ps[k].fr,c.ps[k].up].flatMap be4)++groupsB c.rks[k]by
     rw[flatB_step (by rw[List.length_zip];omega),List.getElem_zip]
     unfold partB
     simp only[List.append_assoc,List.flatMap_cons,List.flatMap_nil,List.append_nil]
     rfl)
    have HPK:=Hd (HPB.out k)
    generalize c.ps[k]=p at*
    generalize c.rks[k]=rk at*
    generalize L4++((c.ps.zip c.rks).take k).flatMap partB=K4 at*
    obtain⟨RB8,hrb⟩:∃L,L=[p.fr,p.up].flatMap be4:=⟨_,rfl⟩
    rw[<-hrb]at HZ
    have HRL6:=Hd (show RB8.length=8 by rw[hrb];simp[be4_len])
    have HGR:=Hd (fun W v (h:IntsAt W v rk)=>r18Groups_any v rk W h (fun x hx=>by have:=HRB.out.2 x hx;omega) (by have:=HRB.out.1;omega))
    have HGRL:=Hd (show(groupsB rk).length<=2000 by have:=groupsB_len rk;have:=HRB.out.1;omega)
    go_upto_region 11 with fail
    refine hWp (fun W=>Ext wr W/\Blk W wr.heap.size [U p.fr,U p.up,p.rk] 85) ⟨(eR _).alloc _,Blk.new wr [U p.fr,U p.up,p.rk] 85⟩ (fun W5 hW5=>?_)
    obtain⟨hx5,hb5⟩:=hW5
    have HX5:=Hd (HX.out.trans hx5)
    have HP5:=Hd hb5
    have HO5:=Hd (HO.out.later hx5)
    clear hx5 hb5 p0 p1 p2 hbc
    generalize hpb:wr.heap.size=pb at*
    have HNA:=Hd (show∀g,(Value.slice oa5 K4.length oc5).ownBlock=some g->¬g=pb from fun g e h=>by have:=(HO.out.lt g e).2;omega)
    clear hpb
    have hpc:=HP5.out.cells
    have HRW:=Hd (r01Row4_any (.slice (some ⟨W5.heap.size,0,none⟩) 2 2) [p.fr,p.up] (W5.alloc (.cells #[.int .i64 (uv p.fr),.int .i64 (uv p.up)] 3)) (Reads.made W5 1 3 2 [I (uv p.fr),I (uv p.up)] rfl (by unfold maxLen;omega)) (by simp))
    rw[<-hrb]at HRW
    clear hrb
    have HAL5:=Hd ((eR W5).alloc (.cells #[.int .i64 (uv p.fr),.int .i64 (uv p.up)] 3))
    go_upto_region 12 with(first
     |(go_at_call 118;(with_reducible refine HRW.out.mono ?_);rintro e w6 ⟨v6,he,ho,hx⟩;obtain⟨ra,rc,hue⟩:=ho.form;subst hue;subst he;have HX6:=Hd (HX5.out.trans (HAL5.out.trans hx));have HR6:=Hd ho.bs;have HO6:=Hd (HO5.out.later (HAL5.out.trans hx));have HP6:=Hd (HP5.out.later (HAL5.out.trans hx));clear ho hx hpc))
    have HIK6:=Hd (HIK.out.later (HX1.out.trans HX6.out))
    refine wp_region_R (RK (fun b=>b=pb)) 7 rfl (by kernel_rfl) (by kernel_rfl) (fun w7 hx7=>?_)
    have HX7:=Hd (HX6.out.trans hx7)
    have HO7:=Hd (HO6.out.later hx7)
    have HR7:=Hd (HR6.out.later hx7)
    have HP7:=Hd (HP6.out.later hx7)
    have q2:=RK.keep (A:=fun b=>b=pb) (w:=w7) (p:=⟨pb,2,none⟩) rfl (HP7.out.cells 2)
    clear hx7
    refine WRi_at 0 ?_
    iterate 2
     refine WRi_q (preRK _) rfl (by decide) (by kernel_rfl) rfl ?_;apply Exists.intro;refine⟨fun w1 hx1=>?_,?_⟩
     ·go_simp;try go_bits
      first|with_reducible rfl|rfl
     go_frame;try simp only[Nat.reduceAdd]
    refine WRi_out ?_
    refine WRi_at 3 ?_
    iterate 2
     refine WRi_q (preRK _) rfl (by decide) (by kernel_rfl) rfl ?_;apply Exists.intro;refine⟨fun w1 hx1=>?_,?_⟩
     ·go_simp;try go_bits
      first|with_reducible rfl|rfl
     go_frame;try simp only[Nat.reduceAdd]
    refine WRi_out ?_
    clear q2
    refine WR_one 2 rfl (by decide) (by kernel_rfl) rfl (fun K hK=>?_)
    refine wp_of_list (ops:=#[]) rfl ?_
    refine wpList_app_at rfl (.tmp 73) (.tmp 74) 22 rfl W1.heap.size 5 (.int .u8 0) 1 1 Tryz.underlying22 infoU8' rfl (by decide) (by decide) _ _ _ rfl HO7.out _ _ _ rfl HR7.out (ycells_one _) (by have:=HPK.out;have:=HRL6.out;omega) HX7.out.size ?_
    intro v8 w8 ho hg hl8
    refine⟨rfl,hK _ _ (RK.grown hg HNA.out) ?_⟩
    have HX8:=Hd (Ext.grown HX7.out hg HO7.out (Nat.le_refl _))
    have HO8:=Hd (show OwnY w8 W1.heap.size v8 (K4++RB8)from by unfold OwnY;rw[ycells_app,List.length_append];exact ho)
    have HNB:=Hd (show∀g,v8.ownBlock=some g->¬g=pb from fun g e h=>by
     rcases hl8 with h8|h8
     ·rw[h8]at e;exact HNA.out g e h
     ·rw[h8]at e;cases e;have:=HP7.out.lt;omega)
    have HI8:=Hd (HIK.out.later (HX1.out.trans HX8.out))
    clear hK K ho hg hl8
    (try go_frame)
    refine WR_one 5 rfl (by decide) (by kernel_rfl) rfl (fun K hK=>?_)
    go_simp
    (with_reducible refine(HGR.out _ _ HI8.out).mono ?_)
    rintro e w9 ⟨v9,he,ho,hx⟩
    obtain⟨ga,gc,hue⟩:=ho.form
    subst hue
    subst he
    refine hK _ _ (RK.ext hx) ?_
    have HX9:=Hd (HX8.out.trans hx)
    have HO9:=Hd (HO8.out.later hx)
    have HG9:=Hd ho.bs
    clear hK K ho hx
    have HKL:=Hd (show(K4++RB8).length<=100000008 by rw[List.length_append];have:=HPK.out;have:=HRL6.out;omega)
    refine WR_one 6 rfl (by decide) (by kernel_rfl) rfl (fun K hK=>?_)
    refine wp_of_list (ops:=#[]) rfl ?_
    refine wpList_app_at rfl (.tmp 75) (.tmp 78) 22 rfl W1.heap.size 5 (.int .u8 0) 1 1 Tryz.underlying22 infoU8' rfl (by decide) (by decide) _ _ _ rfl HO9.out _ _ _ rfl HG9.out (ycells_one _) (by have:=HKL.out;have:=HGRL.out;omega) HX9.out.size ?_
    intro v10 w10 ho hg _
    refine⟨rfl,hK _ _ (RK.grown hg HNB.out) ?_⟩
    have HX10:=Hd (Ext.grown HX9.out hg HO9.out (Nat.le_refl _))
    have HO10:=Hd (show OwnY w10 W1.heap.size v10 ((K4++RB8)++groupsB rk)from by unfold OwnY;rw[ycells_app,List.length_append];exact ho)
    clear hK K ho hg
    (try go_frame)
    refine WR_done (by kernel_rfl) ?_
    (try simp only[List.drop_succ_cons,List.drop_zero])
    go_wp2_with fail
    go_roundw
    case rel=>exact⟨k+1,HLT.out,by go_num,by rw[HZ.out];exact HO10,HX10⟩
    case measure=>have:=HLT.out;simp[intOf];omega
   ·obtain rfl:k=c.ps.length:=by omega
    have hto:(c.ps.zip c.rks).take c.ps.length=c.ps.zip c.rks:=List.take_of_length_le (by rw[List.length_zip];omega)
    rw[hto]at HO ⊢
    go_wp2_with fail
    go_ret
    rw[HCZ.out]
    exact⟨_,rfl,HO.out.low HW1.out,HX1.out.trans HX.out⟩
theorem r18Put_any(pv tv:Value)(c:Crt)(n:Nat)(w:World)(h:CertAt w pv tv c)(hm:certMayV n c=0)(hn:n<=256):
 Calls Tryz.prog 19 #[.agg #[I c.vd,pv,U c.dest,tv],I n] w fun e w'=>∃u,e=.returned (.tuple #[u,I 0])/\OwnY w' w.heap.size u (certPut c n)/\Ext w w':=by
 have HC:=Hd h
 have HM:=Hd hm
 have HBD:=Hd (fun W (x:Ext w W)=>r18Body_any pv tv c n W (h.later x) hm hn)
 have HFP:=Hd (show∀(v:Value) (w:World),BsAt w v (certB c n)->Calls Tryz.prog 56 #[.int .u32 1129468977,v] w fun e w'=>∃u,e=.returned u/\OwnY w' w.heap.size u (certPut c n)/\Ext w w' from fun v w h'=>r04Put_any magC v _ w h' (certB_few hn h.len hm))
 obtain⟨pa,pc,rfl,p1,p2,p3⟩:=h.parts.form
 obtain⟨ta,tc,rfl,t1,t2,-⟩:=h.tr.form
 have hn0:decide ((n:Int)<0)=false:=dF (by omega)
 have hn1:decide ((256:Int)<(n:Int))=false:=dF (by omega)
 clear h hm p3
 unfold maxLen at p2 t2
 go_enter Tryz.func19,Tryz.ntmps19
 go_upto_region 1 with fail
 refine hBk w [I c.vd,.slice pa c.ps.length pc,U c.dest,.slice ta c.tr.length tc] 49 (fun W1 hW1=>?_)
 obtain⟨hx1,hb1⟩:=hW1
 have HX1:=Hd hx1
 have HB1:=Hd hb1
 have hbc:=hb1.cells
 clear hx1 hb1
 generalize w.heap.size=cb at*
 go_upto_region 6 with(first
  |(go_at_call 55;(with_reducible refine(r17May_any _ _ c n _ (HC.out.later HX1.out)).mono ?_);rintro e w2 ⟨he,hx⟩;rw[HM.out]at he;subst he;have HX2:=Hd (HX1.out.trans hx);have HB2:=Hd (HB1.out.later hx);clear hx hbc))
 have hbc:=HB2.out.cells
 go_wp2_with (first
  |(go_at_call 57;(with_reducible refine(HBD.out _ HX2.out).mono ?_);rintro e w3 ⟨v3,he,ho,hx⟩;obtain⟨ba,bc,hue⟩:=ho.form;subst hue;subst he;have HX3:=Hd (HX2.out.trans hx);have HO3:=Hd ho.bs;clear ho hx hbc)
  |(go_at_call 56;(with_reducible refine(HFP.out _ _ HO3.out).mono ?_);rintro e w4 ⟨v4,he,ho,hx⟩;subst he;have HX4:=Hd (HX3.out.trans hx);have HO4:=Hd (ho.low HX3.out.size);clear ho hx))
 go_ret2
 exact⟨_,rfl,HO4.out,HX4.out⟩
end Go.Proofs.YtjflkifodfncmaaGreatDoor
