/- Q7W, Q10N, Q4O, Q10T: these texts in one. Conditions: each theorem names its own. -/
import Derived.Test.YtjflkifodfncmaaGreatDoorQ1R
import Derived.Test.YtjflkifodfncmaaGreatDoorGNTk
import Derived.Test.YtjflkifodfncmaaGreatDoorGReg
namespace Go.Proofs.YtjflkifodfncmaaGreatDoor
set_option maxHeartbeats 8000000
set_option maxRecDepth 100000
open Go Go.RowKit Go.Maps Go.Proofs
theorem rulOf_cells{l:List Byt}(h:8<=l.length):U (BitVec.ofNat 32 (deN (l.take 4)))=U (rulOf l).pa/\yv (l.getD 4 0#8)=(rulOf l).pl/\yv (l.getD 5 0#8)=(rulOf l).act/\((deN ((l.drop 6).take 2):Nat):Int)=(rulOf l).nx:=by
 have one:∀i,i<l.length->yv (l.getD i 0#8)=((deN ((l.drop i).take 1):Nat):Int):=fun i hi=>by
  rw[List.getD_eq_getElem?_getD,gE hi,List.drop_eq_getElem_cons hi,List.take_succ_cons,List.take_zero]
  simp[deN,yv]
 exact⟨rfl,one 4 (by omega),one 5 (by omega),rfl⟩
theorem r07Take_any(v:Value)(l:List Byt)(w:World)(h:BsAt w v l):Calls Tryz.prog 107 #[v] w fun e w'=>e=.returned (.tuple #[(resR2 l).val,I (resE2 l)])/\Ext w w':=by
 have HC:=Hd h
 obtain⟨a,cap,rfl,c1,c2,hc⟩:=h.form
 clear h
 unfold maxLen at c2
 by_cases h8:l.length<8
 ·have hd:decide ((l.length:Int)<8)=true:=dT (by omega)
  have HR:=Hd (show resR2 l=⟨0#32,0,0,0⟩/\resE2 l=2 by unfold resR2 resE2;rw[if_pos h8,if_pos h8];exact⟨rfl,rfl⟩)
  clear hc
  go_enter Tryz.func107,Tryz.ntmps107
  go_upto_region 1 with fail
  refine hBk w [U 0#32,I 0,I 0,I 0] 39 (fun W1 hW1=>?_)
  obtain⟨hx1,hb1⟩:=hW1
  have HX1:=Hd hx1
  have HB1:=Hd hb1
  have hbf:=hb1.frozen
  have hbc:=hb1.cells
  clear hx1 hb1
  generalize hab:w.heap.size=ab at*
  have HAB:=Hd (show w.heap.size<=ab from Nat.le_of_eq hab)
  clear hab
  go_wp2_with fail
  refine hideW (Φ:=fun W=>bodyPost _ _ _ _ _ W) (fun W=>Ext w W/\Blk W ab [U 0#32,I 0,I 0,I 0] 39) ⟨((((HX1.out.setCell HAB.out _).setCell HAB.out _).setCell HAB.out _).setCell HAB.out _),(((HB1.out.set 0 _).set 1 _).set 2 _).set 3 _⟩ (fun W9 hW9=>?_)
  obtain⟨hx9,hb9⟩:=hW9
  have hbc:=hb9.cells
  refine bodyPost_ret (v:=.tuple #[.agg #[U 0#32,I 0,I 0,I 0],I 2]) (by rw[results_cell_tmp rfl];go_simp) rfl ?_
  rw[HR.out.1,HR.out.2]
  exact⟨rfl,hx9⟩
 ·have hd:decide ((l.length:Int)<8)=false:=dF (by omega)
  have HR:=Hd (show resR2 l=rulOf l/\resE2 l=0 by unfold resR2 resE2;rw[if_neg h8,if_neg h8];exact⟨rfl,rfl⟩)
  have HK:=Hd (rulOf_cells (l:=l) (by omega))
  obtain⟨b,off,rfl,h4⟩:=hc 4 (l.getD 4 0#8) (by rw[List.getD_eq_getElem?_getD,gE (by omega)];rfl)
  obtain⟨b',off',hbo,h5⟩:=hc 5 (l.getD 5 0#8) (by rw[List.getD_eq_getElem?_getD,gE (by omega)];rfl)
  cases hbo
  have H4:=Hd h4
  have H5:=Hd h5
  clear hc h4 h5
  generalize l.getD 4 0#8=y4 at*
  generalize l.getD 5 0#8=y5 at*
  have HN1:=Hd (show numTake l ((4:Nat):Int)=(((deN (l.take 4):Nat):Int),0)by unfold numTake;rw[if_neg (by decide),if_neg (by omega)];rfl)
  have HN2:=Hd (show numTake (l.drop 6) ((2:Nat):Int)=(((deN ((l.drop 6).take 2):Nat):Int),0)by unfold numTake;rw[if_neg (by decide),if_neg (by rw[List.length_drop];omega)];rfl)
  have HT1:=Hd (fun W V L (h:BsAt W V L)=>show Calls Tryz.prog 105 #[V,.int .i64 4] W _ from r01Take_any V L 4 (.inr (.inr rfl)) W h)
  have HT2:=Hd (fun W V L (h:BsAt W V L)=>show Calls Tryz.prog 105 #[V,.int .i64 2] W _ from r01Take_any V L 2 (.inr (.inl rfl)) W h)
  have HD:=Hd (show BsAt w (.slice (some ⟨b,off+6,none⟩) (l.length-6) (cap-6)) (l.drop 6)from by
   have h:=BsAt.dropN (j:=6) HC.out (by omega)
   unfold sliced at h
   rw[if_neg (by omega),Nat.mul_one]at h
   exact h)
  have h6:(6:Int)<=(l.length:Int):=by omega
  have hlc:(l.length:Int)<=(cap:Int):=by omega
  have h6n:6<=l.length:=by omega
  have h6c:6<cap:=by omega
  have h4i:(4:Int)<(l.length:Int):=by omega
  have h5i:(5:Int)<(l.length:Int):=by omega
  have h4n:4<l.length:=by omega
  have h5n:5<l.length:=by omega
  go_enter Tryz.func107,Tryz.ntmps107
  go_upto_region 3 with fail
  refine hBk w [U 0#32,I 0,I 0,I 0] 39 (fun W1 hW1=>?_)
  obtain⟨hx1,hb1⟩:=hW1
  have HX1:=Hd hx1
  have HB1:=Hd hb1
  clear hx1 hb1
  generalize hab:w.heap.size=ab at*
  have HAB:=Hd (show w.heap.size<=ab from Nat.le_of_eq hab)
  clear hab
  go_upto_region 5 with(first
   |(go_at_call 105;(with_reducible refine(HT1.out _ _ _ (HC.out.later HX1.out)).mono ?_);rintro e w2 ⟨he,hx⟩;rw[HN1.out]at he;subst he;have HX2:=Hd (HX1.out.trans hx);have HB2:=Hd (HB1.out.later hx);clear hx)
   |(go_at_call 105;(with_reducible refine(HT2.out _ _ _ (HD.out.later HX2.out)).mono ?_);rintro e w3 ⟨he,hx⟩;rw[HN2.out]at he;subst he;have HX3:=Hd (HX2.out.trans hx);have HB3:=Hd (HB2.out.later hx);clear hx))
  have hc4:=fun W (h:Ext w3 W)=>(HX3.out.trans h).cell H4.out
  have hc5:=fun W (h:Ext w3 W)=>(HX3.out.trans h).cell H5.out
  have hn4:IntKind.u32.wrap ((deN (l.take 4):Nat):Int)=uv (rulOf l).pa:=by
   have h:=deN_lt 4 (l.take 4) (by rw[List.length_take];omega)
   show _=uv (BitVec.ofNat 32 (deN (l.take 4)))
   unfold uv
   rw[BitVec.toNat_ofNat,Nat.mod_eq_of_lt (by omega),IntKind.wrap_u32']
   omega
  refine wp_region_E 12 rfl (by kernel_rfl) (by kernel_rfl) ?_
  refine WEi_at 0 ?_
  iterate 12
   refine WEi_q rfl (by decide) (by kernel_rfl) rfl ?_;apply Exists.intro;refine⟨fun w1 hx1=>?_,?_⟩
   ·have hq1:=hx1.cells;go_simp;try go_bits
    first|with_reducible rfl
   go_frame;try simp only[Nat.reduceAdd]
  refine WEi_out ?_
  refine WE_done (by kernel_rfl) (fun wz hxz=>?_)
  (try simp only[List.drop_succ_cons,List.drop_zero])
  have HXZ:=Hd (HX3.out.trans hxz)
  have HBZ:=Hd (HB3.out.later hxz)
  have hbf:=HBZ.out.frozen
  have hbc:=HBZ.out.cells
  clear hxz hc4 hc5 hn4
  go_wp2_with fail
  refine hideW (Φ:=fun W=>bodyPost _ _ _ _ _ W) (fun W=>Ext w W/\Blk W ab [U (rulOf l).pa,I (yv (y4)),I (yv (y5)),I ((deN ((l.drop 6).take 2):Nat):Int)] 39) ⟨((((HXZ.out.setCell HAB.out _).setCell HAB.out _).setCell HAB.out _).setCell HAB.out _),(((HBZ.out.set 0 _).set 1 _).set 2 _).set 3 _⟩ (fun W9 hW9=>?_)
  obtain⟨hx9,hb9⟩:=hW9
  have hbc:=hb9.cells
  refine bodyPost_ret (v:=.tuple #[.agg #[U (rulOf l).pa,I (yv (y4)),I (yv (y5)),I ((deN ((l.drop 6).take 2):Nat):Int)],I 0]) (by rw[results_cell_tmp rfl];go_simp) rfl ?_
  rw[HR.out.1,HR.out.2,HK.out.2.1,HK.out.2.2.1,HK.out.2.2.2]
  exact⟨rfl,hx9⟩
theorem r10Node_any(v:Value)(l:List Byt)(w:World)(h:BsAt w v l):Calls Tryz.prog 49 #[v] w (TookAllR w (takeAllL ruleOne 4096 l)):=by
 have HC:=Hd h
 obtain⟨a,cap,rfl,c1,c2,-⟩:=h.form
 clear h
 unfold maxLen at c2
 by_cases hg:(gtake l).2.2=0
 ·obtain⟨hu,hgl⟩:=gtake_used hg
  have HGR:=Hd (show gtake l=((gtake l).1,(gtake l).2.1,0)by rw[<-hg])
  have HO:=Hd (show takeAllL ruleOne 4096 l=if 4096<(gtake l).1 then .error 12 else bindE (takeNs ruleOne (gtake l).1 (l.drop (gtake l).2.1)) fun p=>if 0<p.2.length then .error 4 else .ok p.1 by
   conv=>lhs;unfold takeAllL
   rw[if_neg (by simp[hg])])
  have HD:=Hd (show BsAt w (.slice (if cap=(gtake l).2.1 then a else Option.map (fun x=>x.add (gtake l).2.1) a) (l.length-(gtake l).2.1) (cap-(gtake l).2.1)) (l.drop (gtake l).2.1)from by
   have h:=HC.out.dropN (j:=(gtake l).2.1) hu
   unfold sliced at h
   rw[Nat.mul_one]at h;exact h)
  generalize (gtake l).1=cnt at*
  generalize (gtake l).2.1=us at*
  clear hg
  by_cases hb:4096<cnt
  ·have hd:decide ((4096:Int)<(cnt:Int))=true:=dT (by omega)
   rw[if_pos hb]at HO
   go_enter Tryz.func49,Tryz.ntmps49
   go_wp2_with (first
    |(go_at_call 47;(with_reducible refine(r02Take_any _ _ _ HC.out).mono ?_);rintro e w1 ⟨he,hx⟩;rw[HGR.out]at he;subst he;have HX1:=Hd hx;clear hx))
   go_ret2
   rw[HO.out]
   exact⟨⟨by decide,rfl⟩,HX1.out⟩
  ·have hd:decide ((4096:Int)<(cnt:Int))=false:=dF (by omega)
   rw[if_neg hb]at HO
   have hul:(us:Int)<=(l.length:Int):=by omega
   have hlc:(l.length:Int)<=(cap:Int):=by omega
   go_enter Tryz.func49,Tryz.ntmps49
   go_upto_region 8 with(first
    |(go_at_call 47;(with_reducible refine(r02Take_any _ _ _ HC.out).mono ?_);rintro e w1 ⟨he,hx⟩;rw[HGR.out]at he;subst he;have HX1:=Hd hx;clear hx))
   have HVW:=Hd HD.out
   clear HD
   have hvl:=HVW.out.caps
   generalize (if cap=us then a else Option.map (fun x=>x.add us) a)=va at*
   generalize l.length-us=n at*
   generalize cap-us=vc at*
   generalize l.drop us=L at*
   obtain⟨hvl1,hvl2,hvl3⟩:=hvl
   have HCN:=Hd (show cnt<=4096 by omega)
   clear hvl1 hvl2 hvl3 hul hlc hb
   refine hWp (fun W=>Ext w W/\OwnRl W w.heap.size (.slice (some ⟨w1.heap.size,0,none⟩) 0 0) []) ⟨HX1.out.alloc _,own_low (own_made w1 4 39 0 [] rfl (by unfold maxLen;omega)) HX1.out.size⟩ (fun W1 hW1=>?_)
   obtain⟨hx1,ho1⟩:=hW1
   have HX1':=Hd hx1
   have HO1:=Hd ho1
   clear hx1 ho1
   generalize w1.heap.size=ob at*
   go_wp2_with fail
   go_loopw[0,7,8] (fun v u i wr=>∃(k:Nat) (rs:List Rul) (rest:List Byt),k<=cnt/\i=I k/\Hid (takeNs ruleOne k L=.ok (rs,rest))/\Hid (BsAt w v rest)/\Hid (OwnRl wr w.heap.size u rs)/\Hid (Ext w wr)) (fun _ _ i _=>cnt-(intOf i).toNat)
   case atStart=>exact⟨0,[],L,by omega,rfl,rfl,HVW,HO1,HX1'⟩
   case round=>
    obtain⟨k,rs,rest,hk,rfl,HT,HV,HR,HX⟩:=hrel
    obtain⟨va,vc,hve,hvc1,hvc2,-⟩:=HV.out.form
    subst hve
    unfold maxLen at hvc2
    have HRN:=Hd (show rs.length=k from takeNs_len ruleOne k L HT.out)
    obtain⟨ra,rc,hre,-⟩:=HR.out.read.form
    subst hre
    by_cases hlt:k<cnt
    ·by_cases h8:rest.length<8
     ·have HE:=Hd (takeNs_bad ruleOne HT.out (show ruleOne rest=.error 2 by unfold ruleOne;rw[if_pos h8]) hlt)
      have HR7:=Hd (show resE2 rest=2 by unfold resE2;rw[if_pos h8])
      clear h8
      go_upto_region 12 with(first
       |(go_at_call 107;(with_reducible refine(r07Take_any _ rest _ (HV.out.later HX.out)).mono ?_);rintro e w2 ⟨he,hx⟩;rw[HR7.out]at he;subst he;have HX2:=Hd (HX.out.trans hx);clear hx))
      refine hWp (fun W=>Ext w W) (HX2.out.alloc _) (fun W3 hW3=>?_)
      have HX3:=Hd hW3
      clear hW3
      generalize w2.heap.size=xb at*
      go_wp2_with fail
      go_ret2
      rw[HO.out,HE.out]
      exact⟨⟨by decide,rfl⟩,HX3.out⟩
     ·have HTN:=Hd (takeNs_next HT.out (show ruleOne rest=.ok (rulOf rest,rest.drop 8)by unfold ruleOne;rw[if_neg h8]))
      have HR7:=Hd (show resR2 rest=rulOf rest/\resE2 rest=0 by unfold resR2 resE2;rw[if_neg h8,if_neg h8];exact⟨rfl,rfl⟩)
      have h8i:(8:Int)<=(rest.length:Int):=by omega
      have h8n:8<=rest.length:=by omega
      have hvci:(rest.length:Int)<=(vc:Int):=by omega
      have HV8:=Hd (show BsAt w (.slice (if vc=8 then va else Option.map (fun x=>x.add 8) va) (rest.length-8) (vc-8)) (rest.drop 8)from by
       have h:=HV.out.dropN (j:=8) h8n
       unfold sliced at h
       rw[Nat.mul_one]at h;exact h)
      clear h8
      generalize rulOf rest=x at*
      go_upto_region 12 with(first
       |(go_at_call 107;(with_reducible refine(r07Take_any _ rest _ (HV.out.later HX.out)).mono ?_);rintro e w2 ⟨he,hx⟩;rw[HR7.out.1,HR7.out.2]at he;subst he;have HX2:=Hd (HX.out.trans hx);have HR2:=Hd (HR.out.later hx);clear hx))
      refine hBk w2 [U x.pa,I x.pl,I x.act,I x.nx] 39 (fun W3 hW3=>?_)
      obtain⟨hx3,hb3⟩:=hW3
      have HX3:=Hd (HX2.out.trans hx3)
      have HR3:=Hd (HR2.out.later hx3)
      have hxc:=hb3.cells
      have HSA:=Hd (Reads.made W3 4 39 1 x.cells rfl (by unfold maxLen;omega))
      have HOA:=Hd (show(W3.alloc (.cells x.cells.toArray 39)).ownsRow w.heap.size 39 4 (.slice ra rs.length rc) rs.length (rcells rs)from HR3.out.alloc _)
      have HXA:=Hd (HX3.out.alloc (.cells x.cells.toArray 39))
      have hll:rs.length<=4096:=by rw[HRN.out];have:=HCN.out;omega
      clear hx3 hb3 HR2
      generalize w2.heap.size=xb at*
      go_wp2_with (first
       |(at_builtin;refine wpList_app rfl (.tmp 39) (.tmp 41) 40 rfl w.heap.size 39 _ 4 32 Tryz.underlying40 infoRule rfl (by decide) (by decide) _ _ _ rfl HOA.out _ _ _ rfl HSA.out (by intro u hu;exact rcells_one [x] u (by simpa[rcells]using hu)) (by omega) HXA.out.size ?_
         intro v6 w6 ho6 hg6
         have HO6:=Hd (show OwnRl w6 w.heap.size v6 (rs++[x])by
          show World.ownsRow _ _ _ _ _ _ _
          rw[rcells_app,List.length_append]
          simpa[rcells]using ho6)
         have HX6:=Hd (Ext.grown HXA.out hg6 HOA.out (Nat.le_refl _))
         clear ho6 hg6))
      go_roundw
      case rel=>exact⟨k+1,rs++[x],_,by omega,by go_num,HTN,HV8,HO6,HX6⟩
      case measure=>simp[intOf];omega
    ·obtain rfl:k=cnt:=by omega
     rw[HT.out]at HO
     by_cases hr:0<rest.length
     ·have HO2:=Hd (show takeAllL ruleOne 4096 l=.error 4 by rw[HO.out];show(if 0<rest.length then _ else _)=_;rw[if_pos hr])
      have hd2:decide ((0:Int)<(rest.length:Int))=true:=dT (by omega)
      go_wp2_with fail
      go_ret2
      rw[HO2.out]
      exact⟨⟨by decide,rfl⟩,HX.out⟩
     ·have HO2:=Hd (show takeAllL ruleOne 4096 l=.ok rs by rw[HO.out];show(if 0<rest.length then _ else _)=_;rw[if_neg hr])
      have hd2:decide ((0:Int)<(rest.length:Int))=false:=dF (by omega)
      go_wp2_with fail
      go_ret2
      rw[HO2.out]
      exact⟨⟨_,rfl,HR.out⟩,HX.out⟩
 ·have HO:=Hd (show takeAllL ruleOne 4096 l=.error (gtake l).2.2 by
   conv=>lhs;unfold takeAllL
   rw[if_pos hg])
  obtain⟨z,hz⟩:∃z,z=(gtake l).2.2:=⟨_,rfl⟩
  rw[<-hz]at HO hg
  have HZ:=Hd hz
  have HG:=Hd hg
  have hgb:(z !=0)=true:=by simp[hg]
  clear hg hz
  go_enter Tryz.func49,Tryz.ntmps49
  go_wp2_with (first
   |(go_at_call 47;(with_reducible refine(r02Take_any _ _ _ HC.out).mono ?_);rintro e w1 ⟨he,hx⟩;rw[<-HZ.out]at he;subst he;have HX1:=Hd hx;clear hx))
  go_ret2
  rw[HO.out]
  exact⟨⟨HG.out,rfl⟩,HX1.out⟩
structure Row2(w0 W:World)(x y:Option (Value × List Byt)):Prop where
 ext:Ext w0 W
 a:∀v l,x=some (v,l)->OwnY W w0.heap.size v l
 b:∀v l,y=some (v,l)->OwnY W w0.heap.size v l
 ne:∀v l u m g,x=some (v,l)->y=some (u,m)->v.ownBlock=some g->u.ownBlock≠some g
theorem Row2.swap{w0 W:World}{x y:Option (Value × List Byt)}(h:Row2 w0 W x y):Row2 w0 W y x:=⟨h.ext,h.b,h.a,fun v l u m g h1 h2 h3 h4=>h.ne u m v l g h2 h1 h4 h3⟩
theorem Row2.mk1{w0 W:World}{y:Option (Value × List Byt)}{p:Nat}(h:Row2 w0 W none y)(hp:W.heap.size=p):Row2 w0 (W.alloc (.cells #[] 5)) (some (.slice (some ⟨p,0,none⟩) 0 0,[])) y:=by
 subst hp
 refine⟨h.ext.alloc _,fun v l e=>?_,fun v l e=>(h.b v l e).later ((eR W).alloc _),fun v l u m g h1 h2 h3 h4=>?_⟩
 ·cases e
  exact OwnY.low (ownY_made W [] (Nat.zero_le _)) h.ext.size
 ·cases h1
  have hg:=((h.b u m h2).lt _ h4).2
  simp[Value.ownBlock]at h3
  omega
theorem ownY_far{w w':World}{B:Nat}{v:Value}{l:List Byt}{r:Option Nat}(h:OwnY w B v l)(hg:w.grownBy w' r)(hr:∀g,v.ownBlock=some g->r≠some g):OwnY w' B v l:=by
 have hlt:=h.lt
 obtain⟨h0,h1⟩:=h
 refine⟨h0,?_⟩
 rcases h1 with h1|⟨g,cap,cur,h1,h2,h3,h4⟩
 ·exact .inl h1
 ·refine .inr ⟨g,cap,cur,h1,h2,?_,h4⟩
  subst h1
  rw[hg.block g (hlt g rfl).2 (fun e=>hr g rfl e.symm),h3]
theorem Row2.grow{w0 W W':World}{v v':Value}{l m:List Byt}{y:Option (Value × List Byt)}(h:Row2 w0 W (some (v,l)) y)(ho:W'.ownsRow w0.heap.size 5 1 v' (l.length+m.length) (ycells l++ycells m))(hg:W.grownBy W' v.ownBlock)
 (hloc:v'.ownBlock=v.ownBlock\/v'.ownBlock=some W.heap.size):Row2 w0 W' (some (v',l++m)) y:=by
 refine⟨Ext.grown h.ext hg (h.a v l rfl) (Nat.le_refl _),fun u k e=>?_,fun u k e=>ownY_far (h.b u k e) hg fun g hu hv=>h.ne v l u k g rfl e hv hu,fun a b u k g h1 h2 h3 h4=>?_⟩
 ·cases e
  show World.ownsRow _ _ _ _ _ _ _
  rw[ycells_app,List.length_append]
  exact ho
 ·cases h1
  rcases hloc with hl|hl
  ·exact h.ne v l u k g rfl h2 (hl▸h3) h4
  ·rw[hl]at h3
   cases h3
   have:=((h.b u k h2).lt _ h4).2
   omega
theorem r04Open_any(t:Byt)(v:Value)(l:List Byt)(w:World)(h:BsAt w v l)(hl:l.length<=1000000000):Calls Tryz.prog 48 #[Y t,v] w (OpenedY w (openL t l)):=by
 have HC:=Hd h
 obtain⟨a,cap,rfl,c1,c2,hc⟩:=h.form
 clear h
 unfold maxLen at c2
 by_cases hl0:l.length=0
 ·obtain rfl:=List.eq_nil_of_length_eq_zero hl0
  have HR:=Hd (show openL t []=.error 2 from rfl)
  clear hc hl0
  go_enter Tryz.func48,Tryz.ntmps48
  go_wp2_with fail
  go_ret3
  rw[HR.out]
  exact⟨⟨by decide,rfl⟩,eR _⟩
 ·obtain⟨c,r,HLC⟩:∃c r,Hid (l=c::r):=by
   cases l with
   |nil=>exact absurd rfl hl0
   |cons c r=>exact⟨c,r,Hd rfl⟩
  obtain⟨b,off,rfl,hc0⟩:=hc 0 c (by rw[HLC.out];rfl)
  rw[Nat.add_zero]at hc0
  have HLR:=Hd (show l.length=r.length+1 by rw[HLC.out];rfl)
  have hn0:((l.length:Int)==0)=false:=by rw[beq_eq_false_iff_ne];omega
  have hn1:(1:Int)<=(l.length:Int):=by omega
  have hlc:(l.length:Int)<=(cap:Int):=by omega
  clear hc hl0
  by_cases hct:c=t
  ·subst hct
   have hcb:(c !=c)=false:=by simp
   have HB:=Hd (show BsAt w (sliced (some ⟨b,off,none⟩) 1 l.length cap 1) r from by
    have h:=BsAt.dropN (j:=1) HC.out (by omega)
    rw[HLC.out]at h ⊢
    exact h)
   by_cases hc1:cap=1
   ·have HRN:=Hd (show r=[]from List.eq_nil_of_length_eq_zero (by have:=HLR.out;omega))
    have hl1:l.length=1:=by have:=HLR.out;omega
    have HB2:=Hd (show BsAt w (.slice (some ⟨b,off,none⟩) 0 0) []from by have h:=HB.out;rw[hl1,hc1,HRN.out]at h;exact h)
    have HR:=Hd (show openL c l=.error 2 by rw[HLC.out,HRN.out];unfold openL;simp only;rw[if_neg (by simp)];rfl)
    have HG:=Hd (show gtake []=(0,0,2)from rfl)
    rw[hl1]at hn0 hn1 hlc c1
    subst hc1
    go_enter Tryz.func48,Tryz.ntmps48
    go_upto_region 6 with(first
     |(go_at_call 47;(with_reducible refine(r02Take_any _ _ _ HB2.out).mono ?_);rintro e w1 ⟨he,hx⟩;rw[HG.out]at he;subst he;have HX1:=Hd hx;clear hx))
    go_wp2_with fail
    go_ret3
    rw[HR.out]
    exact⟨⟨by decide,rfl⟩,HX1.out⟩
   ·have HB2:=Hd (show BsAt w (.slice (some ⟨b,off+1,none⟩) (l.length-1) (cap-1)) r from by
     have h:=HB.out
     unfold sliced at h
     rw[if_neg hc1]at h
     exact h)
    have HC1:=Hd hc1
    by_cases hg:(gtake r).2.2=0
    ·obtain⟨hu,hgl⟩:=gtake_used hg
     have HGR:=Hd (show gtake r=((gtake r).1,(gtake r).2.1,0)by rw[<-hg])
     have HO:=Hd (show openL c l=if(r.drop (gtake r).2.1).length<(gtake r).1 then .error 2 else .ok ((r.drop (gtake r).2.1).take (gtake r).1,(r.drop (gtake r).2.1).drop (gtake r).1)by
      rw[HLC.out]
      unfold openL
      simp only
      rw[if_neg (by simp),if_neg (by simp[hg])])
     rw[List.length_drop]at HO
     have HU:=Hd (show r.length+1=l.length from HLR.out.symm)
     have hu':1+(gtake r).2.1<=l.length:=by have:=HLR.out;omega
     generalize (gtake r).1=cnt at*
     generalize (gtake r).2.1=us at*
     clear hg hu
     by_cases hlt:r.length-us<cnt
     ·rw[if_pos hlt]at HO
      have hd:decide ((l.length:Int)-1-(us:Int)<(cnt:Int))=true:=dT (by have:=HU.out;omega)
      clear hlt
      go_enter Tryz.func48,Tryz.ntmps48
      go_upto_region 6 with(first
       |(go_at_call 47;(with_reducible refine(r02Take_any _ _ _ HB2.out).mono ?_);rintro e w1 ⟨he,hx⟩;rw[HGR.out]at he;subst he;have HX1:=Hd hx;clear hx))
      go_wp2_with fail
      go_ret3
      rw[HO.out]
      exact⟨⟨by decide,rfl⟩,HX1.out⟩
     ·rw[if_neg hlt]at HO
      have hd:decide ((l.length:Int)-1-(us:Int)<(cnt:Int))=false:=dF (by have:=HU.out;omega)
      obtain⟨P,hP⟩:∃P:Nat,P=1+us:=⟨_,rfl⟩
      obtain⟨Q,hQ⟩:∃Q:Nat,Q=P+cnt:=⟨_,rfl⟩
      have hPi:(1:Int)+(us:Int)=(P:Int):=by omega
      have hQi:(P:Int)+(cnt:Int)=(Q:Int):=by omega
      have hPQ:P<=Q:=by omega
      have hQl:Q<=l.length:=by have:=HU.out;omega
      have hPQi:(P:Int)<=(Q:Int):=by omega
      have hQli:(Q:Int)<=(l.length:Int):=by omega
      have hP0:0<P:=by omega
      have hQc:(Q:Int)<=(cap:Int):=by omega
      have hQc2:Q<=cap:=by omega
      have HP:=Hd hP
      have HQ:=Hd hQ
      have HPC:=Hd (show BsAt w (.slice (if cap=P then some ⟨b,off,none⟩else some ⟨b,off+P,none⟩) (Q-P) (cap-P)) ((r.drop us).take cnt)from by
       have h:=HC.out.piece3 (i:=P) (j:=Q) (k:=cap) hPQ hQc2 (Nat.le_refl _) hQl
       unfold sliced at h
       rw[Nat.mul_one]at h
       have e0:Option.map (fun x:Addr=>x.add P) (some ⟨b,off,none⟩)=some ⟨b,off+P,none⟩:=by rw[Option.map_some,addr_add _ hP0]
       rw[e0]at h
       have e:(l.take Q).drop P=(r.drop us).take cnt:=by
        rw[HLC.out,hP,List.drop_take,show Q-(1+us)=cnt by omega,Nat.add_comm 1 us,List.drop_succ_cons]
       rw[e]at h
       exact h)
      have HPD:=Hd (show BsAt w (.slice (if cap=Q then some ⟨b,off,none⟩else some ⟨b,off+Q,none⟩) (l.length-Q) (cap-Q)) ((r.drop us).drop cnt)from by
       have h:=BsAt.dropN (j:=Q) HC.out hQl
       unfold sliced at h
       rw[Nat.mul_one]at h
       have e0:Option.map (fun x:Addr=>x.add Q) (some ⟨b,off,none⟩)=some ⟨b,off+Q,none⟩:=by rw[Option.map_some,addr_add _ (by omega)]
       rw[e0]at h
       have e:l.drop Q=(r.drop us).drop cnt:=by
        rw[HLC.out,List.drop_drop,show Q=us+cnt+1 by omega,List.drop_succ_cons]
       rw[e]at h
       exact h)
      clear hlt hP hQ
      go_enter Tryz.func48,Tryz.ntmps48
      go_upto_region 6 with(first
       |(go_at_call 47;(with_reducible refine(r02Take_any _ _ _ HB2.out).mono ?_);rintro e w1 ⟨he,hx⟩;rw[HGR.out]at he;subst he;have HX1:=Hd hx;clear hx))
      go_upto_region 10 with fail
      refine wp_region_R (RB (w1.heap.size)) 20 rfl (by kernel_rfl) (by kernel_rfl) (fun w0 hx0=>?_)
      have HX0:=Hd hx0
      clear hx0
      refine WRi_at 1 ?_
      iterate 8
       refine WRi_q (preRB _) rfl (by decide) (by kernel_rfl) rfl ?_;apply Exists.intro;refine⟨fun w1 hx1=>?_,?_⟩
       ·go_simp;try go_bits
        first|with_reducible rfl|rfl
       go_frame;try simp only[Nat.reduceAdd]
      refine WRi_out ?_
      refine WRi_at 11 ?_
      iterate 6
       refine WRi_q (preRB _) rfl (by decide) (by kernel_rfl) rfl ?_;apply Exists.intro;refine⟨fun w1 hx1=>?_,?_⟩
       ·go_simp;try go_bits
        first|with_reducible rfl|rfl
       go_frame;try simp only[Nat.reduceAdd]
      refine WRi_out ?_
      have HR0:=Hd (show Row2 w1 w0 none none from⟨HX0.out,fun _ _ e=>(by cases e),fun _ _ e=>(by cases e),fun _ _ _ _ _ e=>(by cases e)⟩)
      have HTL:=Hd (show((r.drop us).take cnt).length<=1000000000 by rw[List.length_take,List.length_drop];have:=HU.out;omega)
      have HDL:=Hd (show((r.drop us).drop cnt).length<=1000000000 by rw[List.length_drop,List.length_drop];have:=HU.out;omega)
      clear HX0
      generalize (r.drop us).take cnt=TL at*
      generalize (r.drop us).drop cnt=DL at*
      refine WR_two 0 10 rfl rfl (by decide) (by decide) (by kernel_rfl) rfl rfl (fun K hK=>?_) (fun K hK=>?_)
      focus
       go_simp
       refine hK _ _ (RB.ext ((eR _).alloc _)) ?_
       clear hK K
       have HR1:=Hd (Row2.mk1 HR0.out (p:=w0.heap.size) rfl)
       refine WR_two 9 10 rfl rfl (by decide) (by decide) (by kernel_rfl) rfl rfl (fun K hK=>?_) (fun K hK=>?_)
       focus
        have HOA:=Hd (HR1.out.a _ _ rfl)
        have HSC:=Hd (HPC.out.later (HX1.out.trans HR1.out.ext))
        refine wp_of_list (ops:=#[]) rfl ?_
        refine wpList_app_at rfl (.tmp 35) (.tmp 43) 22 rfl w1.heap.size 5 (.int .u8 0) 1 1 Tryz.underlying22 infoU8' rfl (by decide) (by decide) _ _ _ rfl HOA.out _ _ _ rfl HSC.out (ycells_one _) (by have:=HTL.out;simp only[List.length_nil];omega) HR1.out.ext.size ?_
        intro vf4 wf3 hof hgf hlf
        refine⟨rfl,hK _ _ (RB.below HR1.out.ext.size (Below.grown (Below.refl _ _) hgf HR1.out.ext.size fun q hq=>(HOA.out.lt q hq).1)) ?_⟩
        clear hK K HSC HOA
        have HR2:=Hd (Row2.grow HR1.out hof hgf hlf)
        clear hof hgf hlf
        (try go_frame)
        refine WR_one 10 rfl (by decide) (by kernel_rfl) rfl (fun K hK=>?_)
        go_simp
        refine hK _ _ (RB.ext ((eR _).alloc _)) ?_
        clear hK K
        have HR5:=Hd (Row2.swap (Row2.mk1 (Row2.swap HR2.out) (p:=wf3.heap.size) rfl))
        refine WR_one 17 rfl (by decide) (by kernel_rfl) rfl (fun K hK=>?_)
        have HOA:=Hd (HR5.out.b _ _ rfl)
        have HSC:=Hd (HPD.out.later (HX1.out.trans HR5.out.ext))
        refine wp_of_list (ops:=#[]) rfl ?_
        refine wpList_app_at rfl (.tmp 45) (.tmp 51) 22 rfl w1.heap.size 5 (.int .u8 0) 1 1 Tryz.underlying22 infoU8' rfl (by decide) (by decide) _ _ _ rfl HOA.out _ _ _ rfl HSC.out (ycells_one _) (by have:=HDL.out;simp only[List.length_nil];omega) HR5.out.ext.size ?_
        intro vf8 wf7 hof hgf hlf
        refine⟨rfl,hK _ _ (RB.below HR5.out.ext.size (Below.grown (Below.refl _ _) hgf HR5.out.ext.size fun q hq=>(HOA.out.lt q hq).1)) ?_⟩
        clear hK K HSC HOA
        have HR6:=Hd (Row2.swap (Row2.grow (Row2.swap HR5.out) hof hgf hlf))
        clear hof hgf hlf
        (try go_frame)
        have HROW:=HR6
       rotate_left
       focus
        go_simp
        refine hK _ _ (RB.ext ((eR _).alloc _)) ?_
        clear hK K
        have HR9:=Hd (Row2.swap (Row2.mk1 (Row2.swap HR1.out) (p:=w0.heap.size+1) (by simp)))
        refine WR_one 9 rfl (by decide) (by kernel_rfl) rfl (fun K hK=>?_)
        have HOA:=Hd (HR9.out.a _ _ rfl)
        have HSC:=Hd (HPC.out.later (HX1.out.trans HR9.out.ext))
        refine wp_of_list (ops:=#[]) rfl ?_
        refine wpList_app_at rfl (.tmp 35) (.tmp 43) 22 rfl w1.heap.size 5 (.int .u8 0) 1 1 Tryz.underlying22 infoU8' rfl (by decide) (by decide) _ _ _ rfl HOA.out _ _ _ rfl HSC.out (ycells_one _) (by have:=HTL.out;simp only[List.length_nil];omega) HR9.out.ext.size ?_
        intro vf12 wf11 hof hgf hlf
        refine⟨rfl,hK _ _ (RB.below HR9.out.ext.size (Below.grown (Below.refl _ _) hgf HR9.out.ext.size fun q hq=>(HOA.out.lt q hq).1)) ?_⟩
        clear hK K HSC HOA
        have HR10:=Hd (Row2.grow HR9.out hof hgf hlf)
        clear hof hgf hlf
        (try go_frame)
        refine WR_one 17 rfl (by decide) (by kernel_rfl) rfl (fun K hK=>?_)
        have HOA:=Hd (HR10.out.b _ _ rfl)
        have HSC:=Hd (HPD.out.later (HX1.out.trans HR10.out.ext))
        refine wp_of_list (ops:=#[]) rfl ?_
        refine wpList_app_at rfl (.tmp 45) (.tmp 51) 22 rfl w1.heap.size 5 (.int .u8 0) 1 1 Tryz.underlying22 infoU8' rfl (by decide) (by decide) _ _ _ rfl HOA.out _ _ _ rfl HSC.out (ycells_one _) (by have:=HDL.out;simp only[List.length_nil];omega) HR10.out.ext.size ?_
        intro vf15 wf14 hof hgf hlf
        refine⟨rfl,hK _ _ (RB.below HR10.out.ext.size (Below.grown (Below.refl _ _) hgf HR10.out.ext.size fun q hq=>(HOA.out.lt q hq).1)) ?_⟩
        clear hK K HSC HOA
        have HR13:=Hd (Row2.swap (Row2.grow (Row2.swap HR10.out) hof hgf hlf))
        clear hof hgf hlf
        (try go_frame)
        have HROW:=HR13
      rotate_left 2
      focus
       go_simp
       refine hK _ _ (RB.ext ((eR _).alloc _)) ?_
       clear hK K
       have HR16:=Hd (Row2.swap (Row2.mk1 (Row2.swap HR0.out) (p:=w0.heap.size) rfl))
       refine WR_one 0 rfl (by decide) (by kernel_rfl) rfl (fun K hK=>?_)
       go_simp
       refine hK _ _ (RB.ext ((eR _).alloc _)) ?_
       clear hK K
       have HR17:=Hd (Row2.mk1 HR16.out (p:=w0.heap.size+1) (by simp))
       refine WR_one 9 rfl (by decide) (by kernel_rfl) rfl (fun K hK=>?_)
       have HOA:=Hd (HR17.out.a _ _ rfl)
       have HSC:=Hd (HPC.out.later (HX1.out.trans HR17.out.ext))
       refine wp_of_list (ops:=#[]) rfl ?_
       refine wpList_app_at rfl (.tmp 35) (.tmp 43) 22 rfl w1.heap.size 5 (.int .u8 0) 1 1 Tryz.underlying22 infoU8' rfl (by decide) (by decide) _ _ _ rfl HOA.out _ _ _ rfl HSC.out (ycells_one _) (by have:=HTL.out;simp only[List.length_nil];omega) HR17.out.ext.size ?_
       intro vf20 wf19 hof hgf hlf
       refine⟨rfl,hK _ _ (RB.below HR17.out.ext.size (Below.grown (Below.refl _ _) hgf HR17.out.ext.size fun q hq=>(HOA.out.lt q hq).1)) ?_⟩
       clear hK K HSC HOA
       have HR18:=Hd (Row2.grow HR17.out hof hgf hlf)
       clear hof hgf hlf
       (try go_frame)
       refine WR_one 17 rfl (by decide) (by kernel_rfl) rfl (fun K hK=>?_)
       have HOA:=Hd (HR18.out.b _ _ rfl)
       have HSC:=Hd (HPD.out.later (HX1.out.trans HR18.out.ext))
       refine wp_of_list (ops:=#[]) rfl ?_
       refine wpList_app_at rfl (.tmp 45) (.tmp 51) 22 rfl w1.heap.size 5 (.int .u8 0) 1 1 Tryz.underlying22 infoU8' rfl (by decide) (by decide) _ _ _ rfl HOA.out _ _ _ rfl HSC.out (ycells_one _) (by have:=HDL.out;simp only[List.length_nil];omega) HR18.out.ext.size ?_
       intro vf23 wf22 hof hgf hlf
       refine⟨rfl,hK _ _ (RB.below HR18.out.ext.size (Below.grown (Below.refl _ _) hgf HR18.out.ext.size fun q hq=>(HOA.out.lt q hq).1)) ?_⟩
       clear hK K HSC HOA
       have HR21:=Hd (Row2.swap (Row2.grow (Row2.swap HR18.out) hof hgf hlf))
       clear hof hgf hlf
       (try go_frame)
       have HROW:=HR21
      all_goals
       have HOa:=Hd (show OwnY _ w1.heap.size _ TL from HROW.out.a _ _ rfl)
       have HOb:=Hd (show OwnY _ w1.heap.size _ DL from HROW.out.b _ _ rfl)
       have HXE:=Hd HROW.out.ext
       obtain⟨a2,c2',e2⟩:=HOa.out.form
       obtain⟨a3,c3',e3⟩:=HOb.out.form
       subst e2 e3
       clear HROW
       refine WRi_at 18 ?_
       iterate 2
        refine WRi_q (preRB _) rfl (by decide) (by kernel_rfl) rfl ?_;apply Exists.intro;refine⟨fun w1 hx1=>?_,?_⟩
        ·go_simp;try go_bits
         first|with_reducible rfl|rfl
        go_frame;try simp only[Nat.reduceAdd]
       refine WRi_out ?_
       refine WR_done (by kernel_rfl) ?_
       (try simp only[List.drop_succ_cons,List.drop_zero])
       go_wp2_with fail
       all_goals
        go_ret3
        rw[HO.out]
        exact⟨⟨_,_,rfl,HOa.out.low HX1.out.size,HOb.out.low HX1.out.size⟩,HX1.out.trans HXE.out⟩
    ·have HO:=Hd (show openL c l=.error (gtake r).2.2 by
      rw[HLC.out]
      unfold openL
      simp only
      rw[if_neg (by simp),if_pos hg])
     obtain⟨z,hz⟩:∃z,z=(gtake r).2.2:=⟨_,rfl⟩
     rw[<-hz]at HO hg
     have HZ:=Hd hz
     have HG:=Hd hg
     have hgb:(z !=0)=true:=by simp[hg]
     clear hg hz
     go_enter Tryz.func48,Tryz.ntmps48
     go_wp2_with (first
      |(go_at_call 47;(with_reducible refine(r02Take_any _ _ _ HB2.out).mono ?_);rintro e w1 ⟨he,hx⟩;rw[<-HZ.out]at he;subst he;have HX1:=Hd hx;clear hx))
     go_ret3
     rw[HO.out]
     exact⟨⟨HG.out,rfl⟩,HX1.out⟩
  ·have hcb:(c !=t)=true:=by simp[hct]
   have HR:=Hd (show openL t l=.error 3 by rw[HLC.out];unfold openL;simp only;rw[if_pos hct])
   go_enter Tryz.func48,Tryz.ntmps48
   go_wp2_with fail
   go_ret3
   rw[HR.out]
   exact⟨⟨by decide,rfl⟩,eR _⟩
def LeftB(B:Nat)(w wr:World)(v:Value)(l:List Byt):Prop:=BsAt w v l\/OwnY wr B v l
theorem LeftB.bs{B:Nat}{w wr:World}{v:Value}{l:List Byt}(h:LeftB B w wr v l)(hx:Ext w wr):BsAt wr v l:=h.elim (fun h=>h.later hx) fun h=>h.bs
theorem openL_short{t:Byt}{b:List Byt}{q:List Byt × List Byt}(h:openL t b=.ok q):q.1.length<=b.length/\q.2.length<=b.length:=by
 obtain⟨x,r⟩:=q
 have h1:=congrArg List.length (sectB_openL h).1
 unfold sectB at h1
 rw[List.length_append,List.length_cons,List.length_append]at h1
 exact⟨by simp only;omega,by simp only;omega⟩
theorem r10Take_any(v:Value)(l:List Byt)(w:World)(h:BsAt w v l)(hl:l.length<=1000000000):Calls Tryz.prog 17 #[v] w (TookNet w (netTake l)):=by
 have HC:=Hd h
 obtain⟨a,cap,rfl,-⟩:=h.form
 clear h
 have HFT:=Hd (show∀w',BsAt w' (.slice a l.length cap) l->Calls Tryz.prog 46 #[.int .u32 1179206193,.slice a l.length cap] w' (TookY w' (ftake magN l))from fun w' h=>r04Take_any magN _ l w' h hl)
 have HXL:=Hd (show(ftake magN l).1.length<=1000000000 from Nat.le_trans (ftake_len magN l) hl)
 go_enter Tryz.func17,Tryz.ntmps17
 go_upto_region 1 with fail
 refine hBk w [.slice none 0 0] 43 (fun W1 hW1=>?_)
 obtain⟨hx1,hb1⟩:=hW1
 have HX1:=Hd hx1
 have HN1:=Hd hb1
 clear hx1 hb1
 generalize hnb:w.heap.size=nb at*
 have HNB:=Hd (show w.heap.size<=nb from Nat.le_of_eq hnb)
 clear hnb
 by_cases hf:(ftake magN l).2=0
 focus
  have HK:=Hd (show netTake l=bindE (takeAllL nodeOne 256 (ftake magN l).1) fun ls=>if netMayV ls≠0 then .error (netMayV ls)else .ok ls by
   conv=>lhs;unfold netTake
   rw[if_neg (by simp[hf])])
  have HF:=Hd hf
  clear hf
  go_upto_region 2 with(first
   |(go_at_call 46;(with_reducible refine(HFT.out _ (HC.out.later HX1.out)).mono ?_);rintro e w2 ⟨⟨u2,he,hu,-⟩,hx⟩;rw[HF.out]at he;obtain⟨ua,uc,hue⟩:=hu.form;subst hue;subst he;have HX2:=Hd (HX1.out.trans hx);have HN2:=Hd (HN1.out.later hx);have HI2:=Hd hu.bs;clear hx hu))
  generalize (ftake magN l).1=IN at*
  by_cases hg:(gtake IN).2.2=0
  focus
   obtain⟨hu,hgl⟩:=gtake_used hg
   have HGR:=Hd (show gtake IN=((gtake IN).1,(gtake IN).2.1,0)by rw[<-hg])
   have HO:=Hd (show takeAllL nodeOne 256 IN=if 256<(gtake IN).1 then .error 12 else bindE (takeNs nodeOne (gtake IN).1 (IN.drop (gtake IN).2.1)) fun p=>if 0<p.2.length then .error 4 else .ok p.1 by
    conv=>lhs;unfold takeAllL
    rw[if_neg (by simp[hg])])
   obtain⟨ua',uc',hue,hcp1,hcp2,-⟩:=HI2.out.form
   cases hue
   unfold maxLen at hcp2
   have HD:=Hd (fun W (h:Ext w2 W)=>show BsAt W (.slice (if uc=(gtake IN).2.1 then ua else Option.map (fun x=>x.add (gtake IN).2.1) ua) (IN.length-(gtake IN).2.1) (uc-(gtake IN).2.1)) (IN.drop (gtake IN).2.1)from by
    have h:=(HI2.out.later h).dropN (j:=(gtake IN).2.1) hu
    unfold sliced at h
    rw[Nat.mul_one]at h;exact h)
   generalize (gtake IN).1=cnt at*
   generalize (gtake IN).2.1=us at*
   clear hg
   by_cases hb:256<cnt
   ·have hd:decide ((256:Int)<(cnt:Int))=true:=dT (by omega)
    rw[if_pos hb]at HO
    have HT:=Hd (show netTake l=.error 12 by rw[HK.out,HO.out];rfl)
    clear hb
    go_upto_region 8 with(first
     |(go_at_call 47;(with_reducible refine(r02Take_any _ _ _ HI2.out).mono ?_);rintro e w3 ⟨he,hx⟩;rw[HGR.out]at he;subst he;have HX3:=Hd (HX2.out.trans hx);have HN3:=Hd (HN2.out.later hx);clear hx))
    have hnf:=HN3.out.frozen
    have hnc:=HN3.out.cells
    go_wp2_with fail
    refine hideW (Φ:=fun W=>bodyPost _ _ _ _ _ W) (fun W=>Ext w W/\Blk W nb [.slice none 0 0] 43) ⟨HX3.out.setCell HNB.out _,HN3.out.set 0 _⟩ (fun W9 hW9=>?_)
    obtain⟨hx9,hb9⟩:=hW9
    have hbc:=hb9.cells
    refine bodyPost_ret (v:=.tuple #[.agg #[.slice none 0 0],I 12]) (by rw[results_cell_tmp rfl];go_simp) rfl ?_
    rw[HT.out]
    exact⟨⟨by decide,rfl⟩,hx9⟩
   ·have hd:decide ((256:Int)<(cnt:Int))=false:=dF (by omega)
    rw[if_neg hb]at HO
    have hul:(us:Int)<=(IN.length:Int):=by omega
    have hlc:(IN.length:Int)<=(uc:Int):=by omega
    go_upto_region 10 with(first
     |(go_at_call 47;(with_reducible refine(r02Take_any _ _ _ HI2.out).mono ?_);rintro e w3 ⟨he,hx⟩;rw[HGR.out]at he;subst he;have HX3:=Hd (HX2.out.trans hx);have HN3:=Hd (HN2.out.later hx);have HV3:=Hd (HD.out _ hx);clear hx))
    have hvl:=HV3.out.caps
    have HLL:=Hd (show(IN.drop us).length<=1000000000 by rw[List.length_drop];have:=HXL.out;omega)
    clear HD HI2
    generalize (if uc=us then ua else Option.map (fun x=>x.add us) ua)=va at*
    generalize IN.length-us=n at*
    generalize uc-us=vc at*
    generalize IN.drop us=L at*
    obtain⟨hvl1,hvl2,hvl3⟩:=hvl
    have HCN:=Hd (show cnt<=256 by omega)
    clear hvl1 hvl2 hvl3 hul hlc hb hcp1 hcp2
    go_upto_region 11 with fail
    refine hWp (fun W=>Ext w3 W/\Blk W w3.heap.size [.slice none 0 0] 43) ⟨(eR _).alloc _,Blk.new w3 [.slice none 0 0] 43⟩ (fun W4 hW4=>?_)
    obtain⟨hx4,hb4⟩:=hW4
    have HX4:=Hd hx4
    have HB4:=Hd hb4
    clear hx4 hb4
    generalize hob:w3.heap.size=ob at*
    have HOB:=Hd (show w3.heap.size<=ob from Nat.le_of_eq hob)
    have HNO:=Hd (show nb≠ob by have:=HN3.out.lt;omega)
    clear hob
    go_wp2_with fail
    go_loopw[4,10] (fun v i wr=>∃(k:Nat) (rs:List (List Rul)) (rest:List Byt) (u:Value),k<=cnt/\i=I k/\Hid (takeNs nodeOne k L=.ok (rs,rest))/\rest.length<=1000000000/\Hid (LeftB (ob+1) w3 wr v rest)/\Hid (Blk wr ob [u] 43)/\Hid (OwnTb wr (ob+1) u rs)/\Hid (Ext w3 wr)) (fun _ i _=>cnt-(intOf i).toNat)
    case atStart=>exact⟨0,[],L,.slice none 0 0,by omega,rfl,rfl,HLL.out,Hd (.inl HV3.out),HB4,Hd (OwnTb.nil _ _),HX4⟩
    case round=>
     obtain⟨k,rs,rest,u,hk,rfl,HT,hrl,HLF,HBX,HR,HX⟩:=hrel
     have HV:=Hd (HLF.out.bs HX.out)
     have HXW:=Hd (HX3.out.trans HX.out)
     have HNW:=Hd (HN3.out.later HX.out)
     obtain⟨va,vc,hve,-⟩:=HV.out.form
     subst hve
     have HRN:=Hd (show rs.length=k from takeNs_len nodeOne k L HT.out)
     obtain⟨ra,rc,hre,-⟩:=HR.out.read.form
     subst hre
     have HOS:=Hd (show ob+1<=wr.heap.size from HBX.out.lt)
     by_cases hlt:k<cnt
     ·have HOP:=Hd (show Calls Tryz.prog 48 #[.int .u8 84,.slice va rest.length vc] wr (OpenedY wr (openL 84#8 rest))from r04Open_any 84#8 _ rest wr HV.out hrl)
      cases hop:openL 84#8 rest with
      |error z=>
       have HE:=Hd (takeNs_bad nodeOne HT.out (show nodeOne rest=.error z by unfold nodeOne;rw[hop];rfl) hlt)
       rw[hop]at HOP
       have HTK:=Hd (show netTake l=.error z by rw[HK.out,HO.out,HE.out];rfl)
       clear hop
       go_upto_region 15 with(first
        |(go_at_call 48;(with_reducible refine HOP.out.mono ?_);rintro e w5 ⟨⟨hz,he⟩,hx⟩;subst he;have HX5:=Hd (HXW.out.trans hx);have HN5:=Hd (HNW.out.later hx);have HZ:=Hd hz;clear hx hz))
       have hzb:(z !=0)=true:=by simp[HZ.out]
       have hnf:=HN5.out.frozen
       have hnc:=HN5.out.cells
       go_wp2_with fail
       refine hideW (Φ:=fun W=>bodyPost _ _ _ _ _ W) (fun W=>Ext w W/\Blk W nb [.slice none 0 0] 43) ⟨HX5.out.setCell HNB.out _,HN5.out.set 0 _⟩ (fun W9 hW9=>?_)
       obtain⟨hx9,hb9⟩:=hW9
       have hbc:=hb9.cells
       refine bodyPost_ret (v:=.tuple #[.agg #[.slice none 0 0],I z]) (by rw[results_cell_tmp rfl];go_simp) rfl ?_
       rw[HTK.out]
       exact⟨⟨HZ.out,rfl⟩,hx9⟩
      |ok q=>
       rw[hop]at HOP
       have HOK:=Hd hop
       have HSH:=Hd (show q.1.length<=rest.length/\q.2.length<=rest.length from openL_short hop)
       clear hop
       go_upto_region 15 with(first
        |(go_at_call 48;(with_reducible refine HOP.out.mono ?_);rintro e w5 ⟨⟨s5,t5,he,hs,ht⟩,hx⟩;obtain⟨sa,sc,hse⟩:=hs.form;obtain⟨ta,tc,hte⟩:=ht.form;subst hse hte;subst he;have HX5:=Hd (HX.out.trans hx);have HS5:=Hd (hs.low HOS.out);have HT5:=Hd (ht.low HOS.out);have HR5:=Hd (HR.out.later hx);have HB5:=Hd (HBX.out.later hx);clear hx hs ht))
       have HND:=Hd (r10Node_any _ q.1 w5 HS5.out.bs)
       cases hnd:takeAllL ruleOne 4096 q.1 with
       |error z=>
        have HE:=Hd (takeNs_bad nodeOne HT.out (show nodeOne rest=.error z by unfold nodeOne;rw[HOK.out];show bindE (takeAllL ruleOne 4096 q.1) _=_;rw[hnd];rfl) hlt)
        rw[hnd]at HND
        have HTK:=Hd (show netTake l=.error z by rw[HK.out,HO.out,HE.out];rfl)
        clear hnd
        go_upto_region 18 with(first
         |(go_at_call 49;(with_reducible refine HND.out.mono ?_);rintro e w6 ⟨⟨hz,he⟩,hx⟩;subst he;have HX6:=Hd (HX3.out.trans (HX5.out.trans hx));have HN6:=Hd (HN3.out.later (HX5.out.trans hx));have HZ:=Hd hz;clear hx hz))
        have hzb:(z !=0)=true:=by simp[HZ.out]
        have hnf:=HN6.out.frozen
        have hnc:=HN6.out.cells
        go_wp2_with fail
        refine hideW (Φ:=fun W=>bodyPost _ _ _ _ _ W) (fun W=>Ext w W/\Blk W nb [.slice none 0 0] 43) ⟨HX6.out.setCell HNB.out _,HN6.out.set 0 _⟩ (fun W9 hW9=>?_)
        obtain⟨hx9,hb9⟩:=hW9
        have hbc:=hb9.cells
        refine bodyPost_ret (v:=.tuple #[.agg #[.slice none 0 0],I z]) (by rw[results_cell_tmp rfl];go_simp) rfl ?_
        rw[HTK.out]
        exact⟨⟨HZ.out,rfl⟩,hx9⟩
       |ok x=>
        have HTN:=Hd (takeNs_next HT.out (show nodeOne rest=.ok (x,q.2)by unfold nodeOne;rw[HOK.out];show bindE (takeAllL ruleOne 4096 q.1) _=_;rw[hnd];rfl))
        rw[hnd]at HND
        clear hnd
        go_upto_region 20 with(first
         |(go_at_call 49;(with_reducible refine HND.out.mono ?_);rintro e w6 ⟨⟨u6,he,hu6⟩,hx⟩;obtain⟨xa,xc,hxe,-⟩:=hu6.read.form;subst hxe;subst he;have HX6:=Hd (HX5.out.trans hx);have HK6:=Hd (hu6.low HB5.out.lt);have HT6:=Hd (HT5.out.later hx);have HR6:=Hd (HR5.out.later hx);have HB6:=Hd (HB5.out.later hx);clear hx hu6))
        have hll:rs.length<=256:=by rw[HRN.out];have:=HCN.out;omega
        have HAL:=Hd ((eR w6).alloc (.cells #[.slice xa x.length xc] 40))
        obtain⟨vs,hown,hvs⟩:=HR6.out.later HAL.out
        have HOA:=Hd hown
        have HVA:=Hd hvs
        have HKA:=Hd (HK6.out.later HAL.out)
        have HUA:=Hd (HT6.out.later HAL.out)
        have HXA:=Hd (HX6.out.trans HAL.out)
        have HBA:=Hd (HB6.out.later HAL.out)
        have HSC:=Hd (show(w6.alloc (.cells #[.slice xa x.length xc] 40)).cell? ⟨w6.heap.size,0,none⟩=some (.slice xa x.length xc)from(Blk.new w6 [.slice xa x.length xc] 40).cells 0)
        have hbc:=HB6.out.cells
        clear hown hvs
        go_wp2_with (first
         |(at_builtin;refine wpList_app1 rfl (.tmp 68) (.tmp 70) 41 rfl (ob+1) 40 (.slice none 0 0) 24 Tryz.underlying41 infoRules rfl (by decide) _ _ _ rfl HOA.out w6.heap.size rfl (.slice xa x.length xc) HSC.out rfl (by omega) HBA.out.lt ?_
           intro v7 w7 ho7 hg7 hl7
           obtain⟨za,zc,hv7,-⟩:=own_bds ho7
           subst hv7
           have HO7:=Hd (OwnTb.app HOA.out HVA.out ho7 hg7 HKA.out)
           have HT7:=Hd (show OwnY w7 (ob+1) (.slice ta q.2.length tc) q.2 from own_apart HUA.out HOA.out (by decide) hg7)
           have HB7:=Hd (blk_grownK HBA.out (fun g e=>by have:=(HOA.out.lt g e).1;omega) hg7)
           have HX7:=Hd (Ext.grown HXA.out hg7 HOA.out (by have:=HOB.out;omega))
           clear hbc ho7 hg7 hl7
           have hbc:=HB7.out.cells
           have hbf:=HB7.out.frozen))
        go_roundw
        case rel=>exact⟨k+1,rs++[x],q.2,_,by omega,by go_num,HTN,Nat.le_trans HSH.out.2 hrl,Hd (.inr (own_set HT7.out (Nat.lt_succ_self ob) _)),Hd (HB7.out.set 0 _),Hd (HO7.out.setCell (Nat.lt_succ_self ob) _),Hd (HX7.out.setCell HOB.out _)⟩
        case measure=>simp[intOf];omega
     ·obtain rfl:k=cnt:=by omega
      rw[HT.out]at HO
      by_cases hr:0<rest.length
      ·have HTK:=Hd (show netTake l=.error 4 by rw[HK.out,HO.out];show bindE (if 0<rest.length then _ else _) _=_;rw[if_pos hr];rfl)
       have hd2:decide ((0:Int)<(rest.length:Int))=true:=dT (by omega)
       have hnf:=HNW.out.frozen
       have hnc:=HNW.out.cells
       go_wp2_with fail
       refine hideW (Φ:=fun W=>bodyPost _ _ _ _ _ W) (fun W=>Ext w W/\Blk W nb [.slice none 0 0] 43) ⟨HXW.out.setCell HNB.out _,HNW.out.set 0 _⟩ (fun W9 hW9=>?_)
       obtain⟨hx9,hb9⟩:=hW9
       have hbc:=hb9.cells
       refine bodyPost_ret (v:=.tuple #[.agg #[.slice none 0 0],I 4]) (by rw[results_cell_tmp rfl];go_simp) rfl ?_
       rw[HTK.out]
       exact⟨⟨by decide,rfl⟩,hx9⟩
      ·have HRS:=Hd (show takeAllL nodeOne 256 IN=.ok rs by rw[HO.out];show(if 0<rest.length then _ else _)=_;rw[if_neg hr])
       have hd2:decide ((0:Int)<(rest.length:Int))=false:=dF (by omega)
       have HRK:=Hd (netTake_rows HRS.out)
       have HM:=Hd (r09May_any _ rs wr HR.out.read HRK.out.1 HRK.out.2)
       have hbc:=HBX.out.cells
       by_cases hm:netMayV rs=0
       ·have HTK:=Hd (show netTake l=.ok rs by rw[HK.out,HRS.out];show(if netMayV rs≠0 then _ else _)=_;rw[if_neg (by simp[hm])])
        rw[hm]at HM
        go_upto_region 25 with(first
         |(go_at_call 50;(with_reducible refine HM.out.mono ?_);rintro e w5 ⟨he,hx⟩;subst he;have HX5:=Hd (HXW.out.trans hx);have HN5:=Hd (HNW.out.later hx);have HR5:=Hd (HR.out.later hx);have HB5:=Hd (HBX.out.later hx);clear hx hbc))
        have hbc:=HB5.out.cells
        have hnf:=HN5.out.frozen
        have hnc:=HN5.out.cells
        go_wp2_with fail
        refine hideW (Φ:=fun W=>bodyPost _ _ _ _ _ W) (fun W=>Ext w W/\Blk W nb [.slice ra rs.length rc] 43/\OwnTb W w.heap.size (.slice ra rs.length rc) rs) ⟨HX5.out.setCell HNB.out _,HN5.out.set 0 _,OwnTb.low (HR5.out.setCell (show nb<ob+1 by have:=HN3.out.lt;have:=HOB.out;omega) _) (by have:=HOB.out;have:=HX3.out.size;omega)⟩ (fun W9 hW9=>?_)
        obtain⟨hx9,hb9,ho9⟩:=hW9
        have hbc:=hb9.cells
        refine bodyPost_ret (v:=.tuple #[.agg #[.slice ra rs.length rc],I 0]) (by rw[results_cell_tmp rfl];go_simp) rfl ?_
        rw[HTK.out]
        exact⟨⟨_,rfl,ho9⟩,hx9⟩
       ·have HTK:=Hd (show netTake l=.error (netMayV rs)by rw[HK.out,HRS.out];show(if netMayV rs≠0 then _ else _)=_;rw[if_pos hm])
        have HZ:=Hd hm
        clear hm
        generalize netMayV rs=z at*
        go_upto_region 25 with(first
         |(go_at_call 50;(with_reducible refine HM.out.mono ?_);rintro e w5 ⟨he,hx⟩;subst he;have HX5:=Hd (HXW.out.trans hx);have HN5:=Hd (HNW.out.later hx);clear hx hbc))
        have hzb:(z !=0)=true:=by simp[HZ.out]
        have hnf:=HN5.out.frozen
        have hnc:=HN5.out.cells
        go_wp2_with fail
        refine hideW (Φ:=fun W=>bodyPost _ _ _ _ _ W) (fun W=>Ext w W/\Blk W nb [.slice none 0 0] 43) ⟨HX5.out.setCell HNB.out _,HN5.out.set 0 _⟩ (fun W9 hW9=>?_)
        obtain⟨hx9,hb9⟩:=hW9
        have hbc:=hb9.cells
        refine bodyPost_ret (v:=.tuple #[.agg #[.slice none 0 0],I z]) (by rw[results_cell_tmp rfl];go_simp) rfl ?_
        rw[HTK.out]
        exact⟨⟨HZ.out,rfl⟩,hx9⟩
  ·have HO:=Hd (show takeAllL nodeOne 256 IN=.error (gtake IN).2.2 by
    conv=>lhs;unfold takeAllL
    rw[if_pos hg])
   obtain⟨z,hz⟩:∃z,z=(gtake IN).2.2:=⟨_,rfl⟩
   rw[<-hz]at HO hg
   have HZ:=Hd hz
   have HG:=Hd hg
   have hzb:(z !=0)=true:=by simp[hg]
   have HTK:=Hd (show netTake l=.error z by rw[HK.out,HO.out];rfl)
   clear hg hz
   go_upto_region 5 with(first
    |(go_at_call 47;(with_reducible refine(r02Take_any _ _ _ HI2.out).mono ?_);rintro e w3 ⟨he,hx⟩;rw[<-HZ.out]at he;subst he;have HX3:=Hd (HX2.out.trans hx);have HN3:=Hd (HN2.out.later hx);clear hx))
   have hnf:=HN3.out.frozen
   have hnc:=HN3.out.cells
   go_wp2_with fail
   refine hideW (Φ:=fun W=>bodyPost _ _ _ _ _ W) (fun W=>Ext w W/\Blk W nb [.slice none 0 0] 43) ⟨HX3.out.setCell HNB.out _,HN3.out.set 0 _⟩ (fun W9 hW9=>?_)
   obtain⟨hx9,hb9⟩:=hW9
   have hbc:=hb9.cells
   refine bodyPost_ret (v:=.tuple #[.agg #[.slice none 0 0],I z]) (by rw[results_cell_tmp rfl];go_simp) rfl ?_
   rw[HTK.out]
   exact⟨⟨HG.out,rfl⟩,hx9⟩
 ·obtain⟨z,hz⟩:∃z,z=(ftake magN l).2:=⟨_,rfl⟩
  rw[<-hz]at hf
  have HZ:=Hd hz
  have HG:=Hd hf
  have hzb:(z !=0)=true:=by simp[hf]
  have HTK:=Hd (show netTake l=.error z by unfold netTake;rw[<-hz,if_pos hf])
  clear hf hz
  go_upto_region 2 with(first
   |(go_at_call 46;(with_reducible refine(HFT.out _ (HC.out.later HX1.out)).mono ?_);rintro e w2 ⟨⟨u2,he,hu,-⟩,hx⟩;rw[<-HZ.out]at he;obtain⟨ua,uc,hue⟩:=hu.form;subst hue;subst he;have HX2:=Hd (HX1.out.trans hx);have HN2:=Hd (HN1.out.later hx);clear hx hu))
  have hnf:=HN2.out.frozen
  have hnc:=HN2.out.cells
  go_wp2_with fail
  refine hideW (Φ:=fun W=>bodyPost _ _ _ _ _ W) (fun W=>Ext w W/\Blk W nb [.slice none 0 0] 43) ⟨HX2.out.setCell HNB.out _,HN2.out.set 0 _⟩ (fun W9 hW9=>?_)
  obtain⟨hx9,hb9⟩:=hW9
  have hbc:=hb9.cells
  refine bodyPost_ret (v:=.tuple #[.agg #[.slice none 0 0],I z]) (by rw[results_cell_tmp rfl];go_simp) rfl ?_
  rw[HTK.out]
  exact⟨⟨HG.out,rfl⟩,hx9⟩
end Go.Proofs.YtjflkifodfncmaaGreatDoor
