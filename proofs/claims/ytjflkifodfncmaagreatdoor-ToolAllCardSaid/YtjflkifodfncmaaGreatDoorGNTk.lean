/- NTakeW, NTake2W, NTake3W, NTake4W, NFTakeW, NetOk: these texts in one. Conditions: each theorem names its own. -/
import Derived.Test.YtjflkifodfncmaaGreatDoorGNPt
import Derived.Defers
namespace Go.Proofs.YtjflkifodfncmaaGreatDoor
set_option maxHeartbeats 4000000
set_option maxRecDepth 100000
open Go Go.RowKit Go.Maps Go.Proofs
def TookR(w:World)(v:Value)(l:List Byt)(r:Except Int (Rul × List Byt))(e:Ending)(w':World):Prop:=
 (match r with
  | .ok p=>∃u,e=.returned (.tuple #[p.1.val,u,I 0])/\∀W,BsAt W v l->BsAt W u p.2
  | .error z=>z≠0/\e=.returned (.tuple #[.agg #[U 0#32,I 0,I 0,I 0],.slice none 0 0,I z]))/\Ext w w'
theorem results_cell_tmp2{fn:Func}{p u v:Tmp}{ty:TypeId}(h:fn.results=#[.cell p ty,.tmp u,.tmp v])(tmps:Array Value)(P:Program)(w:World):
 (results fn tmps).run P w=((asAddr (tmps.getD p undef)).run P w).andThen fun a w₁=>((loadVar ty a).run P w₁).andThen fun x w₂=>.ok (.tuple #[x,tmps.getD u undef,tmps.getD v undef]) w₂:=by
 simp only[results,h]
 simp[Sem.run_bind,Result.andThen]
theorem ext_set4{w W:World}{rb:Nat}(hx:Ext w W)(h:w.heap.size=rb)(a b c d:Value):Ext w ((((W.setCell ⟨rb,0,none⟩ a).setCell ⟨rb,1,none⟩ b).setCell ⟨rb,2,none⟩ c).setCell ⟨rb,3,none⟩ d):=
 (((hx.setCell (Nat.le_of_eq h) a).setCell (Nat.le_of_eq h) b).setCell (Nat.le_of_eq h) c).setCell (Nat.le_of_eq h) d
theorem blk_set4{W:World}{rb:Nat}{c0 c1 c2 c3:Value}{T:TypeId}(hb:Blk W rb [c0,c1,c2,c3] T)(a b c d:Value):Blk ((((W.setCell ⟨rb,0,none⟩ a).setCell ⟨rb,1,none⟩ b).setCell ⟨rb,2,none⟩ c).setCell ⟨rb,3,none⟩ d) rb [a,b,c,d] T:=
 (((hb.set 0 a).set 1 b).set 2 c).set 3 d
theorem takeRule_any(v:Value)(l:List Byt)(w:World)(h:BsAt w v l):Calls Tryz.prog 90 #[v] w (TookR w v l (ruleOne l)):=by
 have HC:=Hd h
 obtain⟨a,cap,rfl,c1,c2,-⟩:=h.form
 clear h
 unfold maxLen at c2
 by_cases h8:l.length<8
 ·have HR:=Hd (show resR2 l=⟨0#32,0,0,0⟩/\resE2 l=2 by unfold resR2 resE2;rw[if_pos h8,if_pos h8];exact⟨rfl,rfl⟩)
  have HO:=Hd (show ruleOne l=.error 2 by unfold ruleOne;rw[if_pos h8])
  go_enter Tryz.func90,Tryz.ntmps90
  go_upto_region 1 with fail
  refine hBk w [U 0#32,I 0,I 0,I 0] 39 (fun W1 hW1=>?_)
  obtain⟨hx1,hb1⟩:=hW1
  have HX1:=Hd hx1
  have HB1:=Hd hb1
  clear hx1 hb1
  generalize hrb:w.heap.size=rb at*
  have hbc:=HB1.out.cells
  have hbf:=HB1.out.frozen
  go_wp2_with (first
   |(go_at_call 135;(with_reducible refine(ruleTake_any _ l _ (HC.out.later HX1.out)).mono ?_);rintro e w2 ⟨he,hx⟩;rw[HR.out.1,HR.out.2]at he;subst he;have HX2:=Hd (HX1.out.trans hx);have HB2:=Hd (HB1.out.later hx);clear hx hbc hbf;have hbc:=HB2.out.cells;have hbf:=HB2.out.frozen))
  refine hideW (Φ:=fun W=>bodyPost _ _ _ _ _ W) (fun W=>Ext w W/\Blk W rb [U 0#32,I 0,I 0,I 0] 39)
   ⟨ext_set4 (ext_set4 HX2.out hrb _ _ _ _) hrb _ _ _ _,blk_set4 (blk_set4 HB2.out _ _ _ _) _ _ _ _⟩ (fun W3 hW3=>?_)
  obtain⟨hx3,hb3⟩:=hW3
  have hrc:=hb3.cells
  refine bodyPost_ret (v:=.tuple #[.agg #[U 0#32,I 0,I 0,I 0],.slice none 0 0,I 2]) (by rw[results_cell_tmp2 rfl];go_simp) rfl ?_
  rw[HO.out]
  exact⟨⟨by decide,rfl⟩,hx3⟩
 ·have HR:=Hd (show resR2 l=rulOf l/\resE2 l=0 by unfold resR2 resE2;rw[if_neg h8,if_neg h8];exact⟨rfl,rfl⟩)
  have HO:=Hd (show ruleOne l=.ok (rulOf l,l.drop 8)by unfold ruleOne;rw[if_neg h8])
  have HD:=Hd (show BsAt w (sliced a 8 l.length cap 1) (l.drop 8)from HC.out.dropN (by omega))
  have hn8:(8:Int)<=(l.length:Int):=by omega
  have hnc:(l.length:Int)<=(cap:Int):=by omega
  generalize rulOf l=R at*
  go_enter Tryz.func90,Tryz.ntmps90
  go_upto_region 1 with fail
  refine hBk w [U 0#32,I 0,I 0,I 0] 39 (fun W1 hW1=>?_)
  obtain⟨hx1,hb1⟩:=hW1
  have HX1:=Hd hx1
  have HB1:=Hd hb1
  clear hx1 hb1
  generalize hrb:w.heap.size=rb at*
  have hbc:=HB1.out.cells
  have hbf:=HB1.out.frozen
  go_upto_region 2 with(first
   |(go_at_call 135;(with_reducible refine(ruleTake_any _ l _ (HC.out.later HX1.out)).mono ?_);rintro e w2 ⟨he,hx⟩;rw[HR.out.1,HR.out.2]at he;subst he;have HX2:=Hd (HX1.out.trans hx);have HB2:=Hd (HB1.out.later hx);clear hx hbc hbf;have hbc:=HB2.out.cells;have hbf:=HB2.out.frozen))
  refine hWp (fun W=>Ext w W/\Blk W rb [U R.pa,I R.pl,I R.act,I R.nx] 39)
   ⟨ext_set4 HX2.out hrb _ _ _ _,blk_set4 HB2.out _ _ _ _⟩ (fun W3 hW3=>?_)
  obtain⟨hx3,hb3⟩:=hW3
  have HX3:=Hd hx3
  have HB3:=Hd hb3
  clear hbc hbf hx3 hb3
  have hbc:=HB3.out.cells
  have hbf:=HB3.out.frozen
  go_upto_region 4 with fail
  go_region
  have HU:=Hd (show∀W,BsAt W (.slice a l.length cap) l->BsAt W (.slice (if cap=8 then a else Option.map (fun x=>(⟨x.block,x.off+8,none⟩:Addr)) a) (l.length-8) (cap-8)) (l.drop 8)from fun W h=>BsAt.dropN h (by omega))
  generalize (if cap=8 then a else Option.map (fun x=>(⟨x.block,x.off+8,none⟩:Addr)) a)=ua at*
  go_wp2_with fail
  refine hideW (Φ:=fun W=>bodyPost _ _ _ _ _ W) (fun W=>Ext w W/\Blk W rb [U R.pa,I R.pl,I R.act,I R.nx] 39)
   ⟨(ext_set4 HX3.out hrb _ _ _ _).drew,(blk_set4 HB3.out _ _ _ _).drew⟩ (fun W4 hW4=>?_)
  obtain⟨hx4,hb4⟩:=hW4
  have hrc:=hb4.cells
  refine bodyPost_ret (v:=.tuple #[R.val,.slice ua (l.length-8) (cap-8),I 0]) (by rw[results_cell_tmp2 rfl];go_simp) rfl ?_
  rw[HO.out]
  exact⟨⟨_,rfl,HU.out⟩,hx4⟩
def OwnRl(w:World)(B:Nat)(v:Value)(l:List Rul):Prop:=w.ownsRow B 39 4 v l.length (rcells l)
theorem OwnRl.nil(w:World)(B:Nat):OwnRl w B (.slice none 0 0) []:=⟨by simp[rcells],.inl ⟨rfl,rfl⟩⟩
theorem OwnRl.later{w w':World}{B:Nat}{v:Value}{l:List Rul}(h:OwnRl w B v l)(hx:Ext w w'):OwnRl w' B v l:=own_later h hx
theorem OwnRl.low{w:World}{B B':Nat}{v:Value}{l:List Rul}(h:OwnRl w B v l)(hB:B'<=B):OwnRl w B' v l:=own_low h hB
theorem OwnRl.read{w:World}{B:Nat}{v:Value}{l:List Rul}(h:OwnRl w B v l):RulesAt w v l:=Reads.of_own h
def TookAllR(w:World)(r:Except Int (List Rul))(e:Ending)(w':World):Prop:=
 (match r with
  | .ok rs=>∃u,e=.returned (.tuple #[u,I 0])/\OwnRl w' w.heap.size u rs
  | .error z=>z≠0/\e=.returned (.tuple #[.slice none 0 0,I z]))/\Ext w w'
theorem takeNs_next{α:Type}{one:List Byt->Except Int (α × List Byt)}{k:Nat}{b:List Byt}{xs:List α}{r t:List Byt}{x:α}(h:takeNs one k b=.ok (xs,r))(ho:one r=.ok (x,t)):takeNs one (k+1) b=.ok (xs++[x],t):=by
 rw[takeNs_snoc,h]
 show bindE (one r) _=_
 rw[ho];rfl
theorem takeRules_any(v:Value)(l:List Byt)(w:World)(h:BsAt w v l):
 Calls Tryz.prog 89 #[v,.int .i64 4096,fnV 90] w (TookAllR w (takeAllL ruleOne 4096 l)):=by
 have HC:=Hd h
 obtain⟨a,cap,rfl,c1,c2,-⟩:=h.form
 clear h
 unfold maxLen at c2
 by_cases hg:(gtake l).2.2=0
 ·obtain⟨hu,hgl⟩:=gtake_used hg
  have HGR:=Hd (show gtake l=((gtake l).1,(gtake l).2.1,0)by rw[<-hg])
  have HO:=Hd (show takeAllL ruleOne 4096 l=if 4096<(gtake l).1 then .error 12 else bindE (takeNs ruleOne (gtake l).1 (l.drop (gtake l).2.1)) fun p=>if 0<p.2.length then .error 4 else .ok p.1 by
   conv=>lhs;unfold takeAllL
   rw[if_neg (by simp[hg])])
  have HD:=Hd (show BsAt w (.slice (if cap=(gtake l).2.1 then a else Option.map (fun x=>x.add (gtake l).2.1) a) (l.length-(gtake l).2.1) (cap-(gtake l).2.1)) (l.drop (gtake l).2.1)from by
   have h:=HC.out.dropN (j:=(gtake l).2.1) hu
   unfold sliced at h
   rw[Nat.mul_one]at h;exact h)
  generalize (gtake l).1=cnt at*
  generalize (gtake l).2.1=us at*
  clear hg
  by_cases hb:4096<cnt
  ·have hd:decide ((4096:Int)<(cnt:Int))=true:=dT (by omega)
   rw[if_pos hb]at HO
   go_enter Tryz.func89,Tryz.ntmps89
   go_wp2_with (first
    |(go_at_call 87;(with_reducible refine(groupTake_any _ _ _ HC.out).mono ?_);rintro e w1 ⟨he,hx⟩;rw[HGR.out]at he;subst he;have HX1:=Hd hx;clear hx))
   go_ret2
   rw[HO.out]
   exact⟨⟨by decide,rfl⟩,HX1.out⟩
  ·have hd:decide ((4096:Int)<(cnt:Int))=false:=dF (by omega)
   rw[if_neg hb]at HO
   have hul:(us:Int)<=(l.length:Int):=by omega
   have hlc:(l.length:Int)<=(cap:Int):=by omega
   go_enter Tryz.func89,Tryz.ntmps89
   go_upto_region 7 with(first
    |(go_at_call 87;(with_reducible refine(groupTake_any _ _ _ HC.out).mono ?_);rintro e w1 ⟨he,hx⟩;rw[HGR.out]at he;subst he;have HX1:=Hd hx;clear hx))
   have HVW:=Hd HD.out
   clear HD
   have hvl:=HVW.out.caps
   generalize (if cap=us then a else Option.map (fun x=>x.add us) a)=va at*
   generalize l.length-us=n at*
   generalize cap-us=vc at*
   generalize l.drop us=L at*
   obtain⟨hvl1,hvl2,hvl3⟩:=hvl
   have HCN:=Hd (show cnt<=4096 by omega)
   clear hvl1 hvl2 hvl3 hul hlc hb
   go_wp2_with fail
   go_loopw[0,11,31] (fun v u i wr=>∃(k:Nat) (rs:List Rul) (rest:List Byt),k<=cnt/\i=I k/\Hid (takeNs ruleOne k L=.ok (rs,rest))/\Hid (BsAt w v rest)/\Hid (OwnRl wr w.heap.size u rs)/\Hid (Ext w wr)) (fun _ _ i _=>cnt-(intOf i).toNat)
   case atStart=>exact⟨0,[],L,by omega,rfl,rfl,HVW,Hd (OwnRl.nil _ _),HX1⟩
   case round=>
    obtain⟨k,rs,rest,hk,rfl,HT,HV,HR,HX⟩:=hrel
    obtain⟨va,vc,hve,-⟩:=HV.out.form
    subst hve
    have HRN:=Hd (show rs.length=k from takeNs_len ruleOne k L HT.out)
    obtain⟨ra,rc,hre,-⟩:=HR.out.read.form
    subst hre
    by_cases hlt:k<cnt
    ·cases hro:ruleOne rest with
     |error z=>
      have HRO:=Hd hro
      have HE:=Hd (takeNs_bad ruleOne HT.out hro hlt)
      clear hro
      go_upto_region 11 with(first
       |(go_at_call 90;(with_reducible refine(takeRule_any _ rest _ (HV.out.later HX.out)).mono ?_);rintro e w2 ⟨h1,hx⟩;rw[HRO.out]at h1;obtain⟨hz,he⟩:=h1;subst he;have HX2:=Hd (HX.out.trans hx);have HZ:=Hd hz;clear hx hz))
      have HXA:=Hd (HX2.out.alloc (.cells #[.int .u32 (uv 0#32),.int .i64 0,.int .i64 0,.int .i64 0] 39))
      have hzb:(z !=0)=true:=by simp[HZ.out]
      go_wp2_with fail
      go_ret2
      rw[HO.out,HE.out]
      exact⟨⟨HZ.out,rfl⟩,HXA.out⟩
     |ok p=>
      obtain⟨x,t⟩:=p
      have HRO:=Hd hro
      have HTN:=Hd (takeNs_next HT.out hro)
      clear hro
      go_upto_region 11 with(first
       |(go_at_call 90;(with_reducible refine(takeRule_any _ rest _ (HV.out.later HX.out)).mono ?_);rintro e w2 ⟨h1,hx⟩;rw[HRO.out]at h1;obtain⟨u2,he,hu2⟩:=h1;subst he;replace hu2:=hu2 w HV.out;obtain⟨ua,uc,hue,-⟩:=hu2.form;subst hue;have HX2:=Hd (HX.out.trans hx);have HU2:=Hd hu2;have HR2:=Hd (HR.out.later hx);clear hx hu2))
      refine hBk w2 [U x.pa,I x.pl,I x.act,I x.nx] 39 (fun W3 hW3=>?_)
      obtain⟨hx3,hb3⟩:=hW3
      have HX3:=Hd (HX2.out.trans hx3)
      have HR3:=Hd (HR2.out.later hx3)
      have hxc:=hb3.cells
      have HSA:=Hd (Reads.made W3 4 39 1 x.cells rfl (by unfold maxLen;omega))
      have HOA:=Hd (show(W3.alloc (.cells x.cells.toArray 39)).ownsRow w.heap.size 39 4 (.slice ra rs.length rc) rs.length (rcells rs)from HR3.out.alloc _)
      have HXA:=Hd (HX3.out.alloc (.cells x.cells.toArray 39))
      have hll:rs.length<=4096:=by rw[HRN.out];have:=HCN.out;omega
      clear hx3 hb3 HR2
      generalize w2.heap.size=xb at*
      go_wp2_with (first
       |(at_builtin;refine wpList_app rfl (.tmp 43) (.tmp 45) 40 rfl w.heap.size 39 _ 4 32 Tryz.underlying40 infoRule rfl (by decide) (by decide) _ _ _ rfl HOA.out _ _ _ rfl HSA.out (by intro u hu;exact rcells_one [x] u (by simpa[rcells]using hu)) (by omega) HXA.out.size ?_
         intro v6 w6 ho6 hg6
         have HO6:=Hd (show OwnRl w6 w.heap.size v6 (rs++[x])by
          show World.ownsRow _ _ _ _ _ _ _
          rw[rcells_app,List.length_append]
          simpa[rcells]using ho6)
         have HX6:=Hd (Ext.grown HXA.out hg6 HOA.out (Nat.le_refl _))
         clear ho6 hg6))
      go_roundw
      case rel=>exact⟨k+1,rs++[x],t,by omega,by go_num,HTN,HU2,HO6,HX6⟩
      case measure=>simp[intOf];omega
    ·obtain rfl:k=cnt:=by omega
     rw[HT.out]at HO
     by_cases hr:0<rest.length
     ·have HO2:=Hd (show takeAllL ruleOne 4096 l=.error 4 by rw[HO.out];show(if 0<rest.length then _ else _)=_;rw[if_pos hr])
      have hd2:decide ((0:Int)<(rest.length:Int))=true:=dT (by omega)
      go_wp2_with fail
      go_ret2
      rw[HO2.out]
      exact⟨⟨by decide,rfl⟩,HX.out⟩
     ·have HO2:=Hd (show takeAllL ruleOne 4096 l=.ok rs by rw[HO.out];show(if 0<rest.length then _ else _)=_;rw[if_neg hr])
      have hd2:decide ((0:Int)<(rest.length:Int))=false:=dF (by omega)
      go_wp2_with fail
      go_ret2
      rw[HO2.out]
      exact⟨⟨_,rfl,HR.out⟩,HX.out⟩
 ·have HO:=Hd (show takeAllL ruleOne 4096 l=.error (gtake l).2.2 by
   conv=>lhs;unfold takeAllL
   rw[if_pos hg])
  obtain⟨z,hz⟩:∃z,z=(gtake l).2.2:=⟨_,rfl⟩
  rw[<-hz]at HO hg
  have HZ:=Hd hz
  have HG:=Hd hg
  have hgb:(z !=0)=true:=by simp[hg]
  clear hg hz
  go_enter Tryz.func89,Tryz.ntmps89
  go_wp2_with (first
   |(go_at_call 87;(with_reducible refine(groupTake_any _ _ _ HC.out).mono ?_);rintro e w1 ⟨he,hx⟩;rw[<-HZ.out]at he;subst he;have HX1:=Hd hx;clear hx))
  go_ret2
  rw[HO.out]
  exact⟨⟨HG.out,rfl⟩,HX1.out⟩
def TookN(w:World)(r:Except Int (List Rul × List Byt))(e:Ending)(w':World):Prop:=
 (match r with
  | .ok p=>∃u v,e=.returned (.tuple #[u,v,I 0])/\OwnRl w' w.heap.size u p.1/\OwnY w' w.heap.size v p.2
  | .error z=>z≠0/\e=.returned (.tuple #[.slice none 0 0,.slice none 0 0,I z]))/\Ext w w'
theorem takeNode_any(v:Value)(l:List Byt)(w:World)(h:BsAt w v l)(hl:l.length<=1000000000):Calls Tryz.prog 36 #[v] w (TookN w (nodeOne l)):=by
 have HC:=Hd h
 obtain⟨a,cap,rfl,-⟩:=h.form
 clear h
 have HOP:=Hd (show Calls Tryz.prog 88 #[.int .u8 84,.slice a l.length cap] w (OpenedY w (openL 84#8 l))from frameOpen_any 84#8 _ l w HC.out hl)
 cases ho:openL 84#8 l with
 |error z=>
  have HN:=Hd (show nodeOne l=.error z by unfold nodeOne;rw[ho];rfl)
  have HO:=Hd ho
  clear ho
  go_enter Tryz.func36,Tryz.ntmps36
  go_upto_region 2 with(first
   |(go_at_call 88;(with_reducible refine HOP.out.mono ?_);rintro e w1 ⟨h1,hx⟩;rw[HO.out]at h1;obtain⟨hz,he⟩:=h1;subst he;have HX1:=Hd hx;have HZ:=Hd hz;clear hx hz))
  have hzb:(z !=0)=true:=by simp[HZ.out]
  go_wp2_with fail
  go_ret3
  rw[HN.out]
  exact⟨⟨HZ.out,rfl⟩,HX1.out⟩
 |ok q=>
  obtain⟨x,t⟩:=q
  have HO:=Hd ho
  clear ho
  cases hr:takeAllL ruleOne 4096 x with
  |error z=>
   have HN:=Hd (show nodeOne l=.error z by unfold nodeOne;rw[HO.out];show bindE (takeAllL ruleOne 4096 x) _=_;rw[hr];rfl)
   have HR:=Hd hr
   clear hr
   go_enter Tryz.func36,Tryz.ntmps36
   go_upto_region 5 with(first
    |(go_at_call 88;(with_reducible refine HOP.out.mono ?_);rintro e w1 ⟨h1,hx⟩;rw[HO.out]at h1;obtain⟨u1,v1,he,hu,hv⟩:=h1;obtain⟨ua,uc,hue⟩:=hu.form;obtain⟨va,vc,hve⟩:=hv.form;subst hue hve;subst he;have HX1:=Hd hx;have HY1:=Hd hu.bs;clear hx hu hv)
    |(go_at_call 89;(with_reducible refine(takeRules_any _ x _ HY1.out).mono ?_);rintro e w2 ⟨h1,hx⟩;rw[HR.out]at h1;obtain⟨hz,he⟩:=h1;subst he;have HX2:=Hd (HX1.out.trans hx);have HZ:=Hd hz;clear hx hz))
   have hzb:(z !=0)=true:=by simp[HZ.out]
   go_wp2_with fail
   go_ret3
   rw[HN.out]
   exact⟨⟨HZ.out,rfl⟩,HX2.out⟩
  |ok rs=>
   have HN:=Hd (show nodeOne l=.ok (rs,t)by unfold nodeOne;rw[HO.out];show bindE (takeAllL ruleOne 4096 x) _=_;rw[hr];rfl)
   have HR:=Hd hr
   clear hr
   go_enter Tryz.func36,Tryz.ntmps36
   go_wp2_with (first
    |(go_at_call 88;(with_reducible refine HOP.out.mono ?_);rintro e w1 ⟨h1,hx⟩;rw[HO.out]at h1;obtain⟨u1,v1,he,hu,hv⟩:=h1;obtain⟨ua,uc,hue⟩:=hu.form;obtain⟨va,vc,hve⟩:=hv.form;subst hue hve;subst he;have HX1:=Hd hx;have HY1:=Hd hu.bs;have HT1:=Hd hv;clear hx hu hv)
    |(go_at_call 89;(with_reducible refine(takeRules_any _ x _ HY1.out).mono ?_);rintro e w2 ⟨h1,hx⟩;rw[HR.out]at h1;obtain⟨u2,he,ho⟩:=h1;obtain⟨ra,rc,hre,-⟩:=ho.read.form;subst hre;subst he;have HX2:=Hd (HX1.out.trans hx);have HT2:=Hd (HT1.out.later hx);have HO2:=Hd (ho.low HX1.out.size);clear hx ho))
   go_ret3
   rw[HN.out]
   exact⟨⟨_,_,rfl,HO2.out,HT2.out⟩,HX2.out⟩
def OwnTb(w:World)(B:Nat)(v:Value)(ls:List (List Rul)):Prop:=
 ∃vs:List Value,w.ownsRow B 40 1 v ls.length vs/\∀(i:Nat) (l:List Rul),ls[i]? =some l->∃u,vs[i]? =some u/\OwnRl w B u l
theorem OwnTb.nil(w:World)(B:Nat):OwnTb w B (.slice none 0 0) []:=⟨[],⟨by simp,.inl ⟨rfl,rfl⟩⟩,fun i l h=>by cases h⟩
theorem OwnTb.later{w w':World}{B:Nat}{v:Value}{ls:List (List Rul)}(h:OwnTb w B v ls)(hx:Ext w w'):OwnTb w' B v ls:=
 let⟨vs,h1,h2⟩:=h
 ⟨vs,own_later h1 hx,fun i l hi=>let⟨u,g1,g2⟩:=h2 i l hi;⟨u,g1,own_later g2 hx⟩⟩
theorem OwnTb.low{w:World}{B B':Nat}{v:Value}{ls:List (List Rul)}(h:OwnTb w B v ls)(hB:B'<=B):OwnTb w B' v ls:=
 let⟨vs,h1,h2⟩:=h
 ⟨vs,own_low h1 hB,fun i l hi=>let⟨u,g1,g2⟩:=h2 i l hi;⟨u,g1,own_low g2 hB⟩⟩
theorem OwnTb.read{w:World}{B:Nat}{v:Value}{ls:List (List Rul)}(h:OwnTb w B v ls):TablesAt w v ls:=
 let⟨vs,h1,h2⟩:=h
 ⟨vs,Reads.of_own h1,fun i l hi=>let⟨u,g1,g2⟩:=h2 i l hi;⟨u,g1,g2.read⟩⟩
theorem OwnTb.setCell{w:World}{B:Nat}{v:Value}{ls:List (List Rul)}(h:OwnTb w B v ls){p:Addr}(hp:p.block<B)(x:Value):OwnTb (w.setCell p x) B v ls:=
 let⟨vs,h1,h2⟩:=h
 ⟨vs,own_set h1 hp x,fun i l hi=>let⟨u,g1,g2⟩:=h2 i l hi;⟨u,g1,own_set g2 hp x⟩⟩
theorem OwnTb.app{w w':World}{B:Nat}{v v' u:Value}{ls:List (List Rul)}{l:List Rul}{vs:List Value}(hown:w.ownsRow B 40 1 v ls.length vs)
 (hvs:∀(i:Nat) (l:List Rul),ls[i]? =some l->∃u,vs[i]? =some u/\OwnRl w B u l)
 (ho:w'.ownsRow B 40 1 v' (ls.length+1) (vs++[u])) (hg:w.grownBy w' v.ownBlock) (hu:OwnRl w B u l):OwnTb w' B v' (ls++[l]):=by
 have hlen:vs.length=ls.length:=by have:=hown.1;simpa using this
 refine⟨vs++[u],by rw[List.length_append];exact ho,fun i m hi=>?_⟩
 rcases snoc_get hi with hi|⟨rfl,rfl⟩
 ·obtain⟨q,q1,q2⟩:=hvs i m hi
  have hil:=(List.getElem?_eq_some_iff.1 hi).1
  exact⟨q,by rw[List.getElem?_append_left (by omega)];exact q1,own_apart q2 hown (by decide) hg⟩
 ·exact⟨u,by rw[List.getElem?_append_right (by omega),hlen];simp,own_apart hu hown (by decide) hg⟩
def TookAllT(w:World)(r:Except Int (List (List Rul)))(e:Ending)(w':World):Prop:=
 (match r with
  | .ok ls=>∃u,e=.returned (.tuple #[u,I 0])/\OwnTb w' w.heap.size u ls
  | .error z=>z≠0/\e=.returned (.tuple #[.slice none 0 0,I z]))/\Ext w w'
def Left(w wr:World)(v:Value)(l:List Byt):Prop:=BsAt w v l\/OwnY wr w.heap.size v l
theorem Left.bs{w wr:World}{v:Value}{l:List Byt}(h:Left w wr v l)(hx:Ext w wr):BsAt wr v l:=h.elim (fun h=>h.later hx) fun h=>h.bs
theorem nodeOne_short{b t:List Byt}{l:List Rul}(h:nodeOne b=.ok (l,t)):t.length<=b.length:=by
 have:=congrArg List.length (nodeOne_is b l t h).1
 rw[List.length_append]at this
 omega
theorem takeRows_any(v:Value)(l:List Byt)(w:World)(h:BsAt w v l)(hl:l.length<=1000000000):
 Calls Tryz.prog 35 #[v,.int .i64 256,fnV 36] w (TookAllT w (takeAllL nodeOne 256 l)):=by
 have HC:=Hd h
 obtain⟨a,cap,rfl,c1,c2,-⟩:=h.form
 clear h
 unfold maxLen at c2
 by_cases hg:(gtake l).2.2=0
 ·obtain⟨hu,hgl⟩:=gtake_used hg
  have HGR:=Hd (show gtake l=((gtake l).1,(gtake l).2.1,0)by rw[<-hg])
  have HO:=Hd (show takeAllL nodeOne 256 l=if 256<(gtake l).1 then .error 12 else bindE (takeNs nodeOne (gtake l).1 (l.drop (gtake l).2.1)) fun p=>if 0<p.2.length then .error 4 else .ok p.1 by
   conv=>lhs;unfold takeAllL
   rw[if_neg (by simp[hg])])
  have HD:=Hd (show BsAt w (.slice (if cap=(gtake l).2.1 then a else Option.map (fun x=>x.add (gtake l).2.1) a) (l.length-(gtake l).2.1) (cap-(gtake l).2.1)) (l.drop (gtake l).2.1)from by
   have h:=HC.out.dropN (j:=(gtake l).2.1) hu
   unfold sliced at h
   rw[Nat.mul_one]at h;exact h)
  generalize (gtake l).1=cnt at*
  generalize (gtake l).2.1=us at*
  clear hg
  by_cases hb:256<cnt
  ·have hd:decide ((256:Int)<(cnt:Int))=true:=dT (by omega)
   rw[if_pos hb]at HO
   go_enter Tryz.func35,Tryz.ntmps35
   go_wp2_with (first
    |(go_at_call 87;(with_reducible refine(groupTake_any _ _ _ HC.out).mono ?_);rintro e w1 ⟨he,hx⟩;rw[HGR.out]at he;subst he;have HX1:=Hd hx;clear hx))
   go_ret2
   rw[HO.out]
   exact⟨⟨by decide,rfl⟩,HX1.out⟩
  ·have hd:decide ((256:Int)<(cnt:Int))=false:=dF (by omega)
   rw[if_neg hb]at HO
   have hul:(us:Int)<=(l.length:Int):=by omega
   have hlc:(l.length:Int)<=(cap:Int):=by omega
   go_enter Tryz.func35,Tryz.ntmps35
   go_upto_region 7 with(first
    |(go_at_call 87;(with_reducible refine(groupTake_any _ _ _ HC.out).mono ?_);rintro e w1 ⟨he,hx⟩;rw[HGR.out]at he;subst he;have HX1:=Hd hx;clear hx))
   have HVW:=Hd HD.out
   clear HD
   have hvl:=HVW.out.caps
   generalize (if cap=us then a else Option.map (fun x=>x.add us) a)=va at*
   generalize l.length-us=n at*
   generalize cap-us=vc at*
   have HLL:=Hd (show(l.drop us).length<=1000000000 by rw[List.length_drop];omega)
   generalize l.drop us=L at*
   obtain⟨hvl1,hvl2,hvl3⟩:=hvl
   have HCN:=Hd (show cnt<=256 by omega)
   clear hvl1 hvl2 hvl3 hul hlc hb
   go_wp2_with fail
   go_loopw[0,11,31] (fun v u i wr=>∃(k:Nat) (rs:List (List Rul)) (rest:List Byt),k<=cnt/\i=I k/\Hid (takeNs nodeOne k L=.ok (rs,rest))/\rest.length<=1000000000/\Hid (Left w wr v rest)/\Hid (OwnTb wr w.heap.size u rs)/\Hid (Ext w wr)) (fun _ _ i _=>cnt-(intOf i).toNat)
   case atStart=>exact⟨0,[],L,by omega,rfl,rfl,HLL.out,Hd (.inl HVW.out),Hd (OwnTb.nil _ _),HX1⟩
   case round=>
    obtain⟨k,rs,rest,hk,rfl,HT,hrl,HLF,HR,HX⟩:=hrel
    have HV:=Hd (HLF.out.bs HX.out)
    obtain⟨va,vc,hve,-⟩:=HV.out.form
    subst hve
    have HRN:=Hd (show rs.length=k from takeNs_len nodeOne k L HT.out)
    obtain⟨ra,rc,hre,-⟩:=HR.out.read.form
    subst hre
    by_cases hlt:k<cnt
    ·cases hro:nodeOne rest with
     |error z=>
      have HRO:=Hd hro
      have HE:=Hd (takeNs_bad nodeOne HT.out hro hlt)
      clear hro
      go_upto_region 11 with(first
       |(go_at_call 36;(with_reducible refine(takeNode_any _ rest _ HV.out hrl).mono ?_);rintro e w2 ⟨h1,hx⟩;rw[HRO.out]at h1;obtain⟨hz,he⟩:=h1;subst he;have HX2:=Hd (HX.out.trans hx);have HZ:=Hd hz;clear hx hz))
      have hzb:(z !=0)=true:=by simp[HZ.out]
      go_wp2_with fail
      go_ret2
      rw[HO.out,HE.out]
      exact⟨⟨HZ.out,rfl⟩,HX2.out⟩
     |ok p=>
      obtain⟨x,t⟩:=p
      have HRO:=Hd hro
      have HTN:=Hd (takeNs_next HT.out hro)
      have HTL:=Hd (nodeOne_short hro)
      clear hro
      go_upto_region 11 with(first
       |(go_at_call 36;(with_reducible refine(takeNode_any _ rest _ HV.out hrl).mono ?_);rintro e w2 ⟨h1,hx⟩;rw[HRO.out]at h1;obtain⟨x2,u2,he,hx2,hu2⟩:=h1;subst he;obtain⟨ua,uc,hue⟩:=hu2.form;subst hue;obtain⟨xa,xc,hxe,-⟩:=hx2.read.form;subst hxe;have HX2:=Hd (HX.out.trans hx);have HU2:=Hd (hu2.low HX.out.size);have HK2:=Hd (hx2.low HX.out.size);have HR2:=Hd (HR.out.later hx);clear hx hu2 hx2))
      have hll:rs.length<=256:=by rw[HRN.out];have:=HCN.out;omega
      obtain⟨vs,hown,hvs⟩:=(HR2.out.later ((eR w2).alloc (.cells #[.slice xa x.length xc] 40)))
      have HOA:=Hd hown
      have HVA:=Hd hvs
      have HKA:=Hd (HK2.out.later ((eR w2).alloc (.cells #[.slice xa x.length xc] 40)))
      have HUA:=Hd (HU2.out.later ((eR w2).alloc (.cells #[.slice xa x.length xc] 40)))
      have HXA:=Hd (HX2.out.alloc (.cells #[.slice xa x.length xc] 40))
      have HSC:=Hd (show(w2.alloc (.cells #[.slice xa x.length xc] 40)).cell? ⟨w2.heap.size,0,none⟩=some (.slice xa x.length xc)from(Blk.new w2 [.slice xa x.length xc] 40).cells 0)
      clear hown hvs
      go_wp2_with (first
       |(at_builtin;refine wpList_app1 rfl (.tmp 43) (.tmp 45) 41 rfl w.heap.size 40 (.slice none 0 0) 24 Tryz.underlying41 infoRules rfl (by decide) _ _ _ rfl HOA.out w2.heap.size rfl (.slice xa x.length xc) HSC.out rfl (by omega) HXA.out.size ?_
         intro v6 w6 ho6 hg6 hl6
         have HO6:=Hd (OwnTb.app HOA.out HVA.out ho6 hg6 HKA.out)
         have HX6:=Hd (Ext.grown HXA.out hg6 HOA.out (Nat.le_refl _))
         have HU6:=Hd (show OwnY w6 w.heap.size (.slice ua t.length uc) t from own_apart HUA.out HOA.out (by decide) hg6)
         clear ho6 hg6 hl6))
      go_roundw
      case rel=>exact⟨k+1,rs++[x],t,by omega,by go_num,HTN,Nat.le_trans HTL.out hrl,Hd (.inr HU6.out),HO6,HX6⟩
      case measure=>simp[intOf];omega
    ·obtain rfl:k=cnt:=by omega
     rw[HT.out]at HO
     by_cases hr:0<rest.length
     ·have HO2:=Hd (show takeAllL nodeOne 256 l=.error 4 by rw[HO.out];show(if 0<rest.length then _ else _)=_;rw[if_pos hr])
      have hd2:decide ((0:Int)<(rest.length:Int))=true:=dT (by omega)
      go_wp2_with fail
      go_ret2
      rw[HO2.out]
      exact⟨⟨by decide,rfl⟩,HX.out⟩
     ·have HO2:=Hd (show takeAllL nodeOne 256 l=.ok rs by rw[HO.out];show(if 0<rest.length then _ else _)=_;rw[if_neg hr])
      have hd2:decide ((0:Int)<(rest.length:Int))=false:=dF (by omega)
      go_wp2_with fail
      go_ret2
      rw[HO2.out]
      exact⟨⟨_,rfl,HR.out⟩,HX.out⟩
 ·have HO:=Hd (show takeAllL nodeOne 256 l=.error (gtake l).2.2 by
   conv=>lhs;unfold takeAllL
   rw[if_pos hg])
  obtain⟨z,hz⟩:∃z,z=(gtake l).2.2:=⟨_,rfl⟩
  rw[<-hz]at HO hg
  have HZ:=Hd hz
  have HG:=Hd hg
  have hgb:(z !=0)=true:=by simp[hg]
  clear hg hz
  go_enter Tryz.func35,Tryz.ntmps35
  go_wp2_with (first
   |(go_at_call 87;(with_reducible refine(groupTake_any _ _ _ HC.out).mono ?_);rintro e w1 ⟨he,hx⟩;rw[<-HZ.out]at he;subst he;have HX1:=Hd hx;clear hx))
  go_ret2
  rw[HO.out]
  exact⟨⟨HG.out,rfl⟩,HX1.out⟩
theorem takeDone_any(eb nb:Nat)(z:Int)(x:Value)(u:FrameMode)(w:World)(he:Blk w eb [I z] 26)(hn:Blk w nb [x] 43):
 CallsD Tryz.prog 33 #[.pointer (some ⟨eb,0,none⟩),.pointer (some ⟨nb,0,none⟩)] u w fun e u' w'=>u'=u/\(e=.returned (.tuple #[])/\w'=if z=0 then w else w.setCell ⟨nb,0,none⟩ (.slice none 0 0)):=by
 have hec:=he.cells
 have hnc:=hn.cells
 have hnf:=hn.frozen
 by_cases hz:z=0
 ·subst hz
  go_enter_d Tryz.func33,Tryz.ntmps33
  go_wp2_with fail
  go_end0
  exact⟨rfl,rfl⟩
 ·have hzb:(z !=0)=true:=by simp[hz]
  go_enter_d Tryz.func33,Tryz.ntmps33
  go_wp2_with fail
  go_end0
  exact⟨rfl,rfl⟩
theorem results_cell_cell{fn:Func}{p q:Tmp}{ty ty':TypeId}(h:fn.results=#[.cell p ty,.cell q ty'])(tmps:Array Value)(P:Program)(w:World):
 (results fn tmps).run P w=((asAddr (tmps.getD p undef)).run P w).andThen fun a w₁=>((loadVar ty a).run P w₁).andThen fun x w₂=>((asAddr (tmps.getD q undef)).run P w₂).andThen fun b w₃=>((loadVar ty' b).run P w₃).andThen fun y w₄=>.ok (.tuple #[x,y]) w₄:=by
 simp only[results,h]
 simp[Sem.run_bind,Result.andThen]
theorem ftake_len(m:BitVec 32)(l:List Byt):(ftake m l).1.length<=l.length:=by
 unfold ftake
 split
 ·exact Nat.zero_le _
 ·split
  ·exact Nat.zero_le _
  ·split
   ·exact Nat.zero_le _
   ·rw[List.length_drop,List.length_take];omega
theorem netTake_rows{b:List Byt}{ls:List (List Rul)}(h:takeAllL nodeOne 256 b=.ok ls):TablesOk ls/\sizeN ls<=100000000:=by
 obtain⟨_,g2,g3⟩:=takeAllL_is nodeOne (P:=fun l=>(∀r∈l,RulB r)/\l.length<=4096) nodeOne_is h
 refine⟨fun l hl r hr=>?_,?_⟩
 ·have:=(g2 l hl).1 r hr
  obtain⟨p1,p2,p3⟩:=this
  exact⟨by unfold In64;omega,by unfold In64;omega,by unfold In64;omega⟩
 ·have:=sizeN_le (ls:=ls) (c:=4096) fun l hl=>(g2 l hl).2
  omega
def TookNet(w:World)(r:Except Int (List (List Rul)))(e:Ending)(w':World):Prop:=
 (match r with
  | .ok ls=>∃u,e=.returned (.tuple #[.agg #[u],I 0])/\OwnTb w' w.heap.size u ls
  | .error z=>z≠0/\e=.returned (.tuple #[.agg #[.slice none 0 0],I z]))/\Ext w w'
theorem netfileTake_any(v:Value)(l:List Byt)(w:World)(h:BsAt w v l)(hl:l.length<=1000000000):Calls Tryz.prog 14 #[v] w (TookNet w (netTake l)):=by
 have hmf:∀(fn:Fn) (first cap:Array Value) (w:World),(Instr.makeFunc fn first cap).run Tryz.prog w=.ok (.func fn first cap) w:=fun _ _ _ _=>rfl
 have HC:=Hd h
 obtain⟨a,cap,rfl,-⟩:=h.form
 clear h
 have HFT:=Hd (show∀w',BsAt w' (.slice a l.length cap) l->Calls Tryz.prog 34 #[.int .u32 1179206193,.slice a l.length cap] w' (TookY w' (ftake magN l))from fun w' h=>frameTake_any magN _ l w' h hl)
 by_cases hf:(ftake magN l).2=0
 ·have HF:=Hd hf
  have HK:=Hd (show netTake l=bindE (takeAllL nodeOne 256 (ftake magN l).1) fun ls=>if netMayV ls≠0 then .error (netMayV ls)else .ok ls by
   conv=>lhs;unfold netTake
   rw[if_neg (by simp[hf])])
  have HXL:=Hd (show(ftake magN l).1.length<=1000000000 from Nat.le_trans (ftake_len magN l) hl)
  clear hf
  cases ht:takeAllL nodeOne 256 (ftake magN l).1 with
  |error z=>
   have HT:=Hd ht
   have HN:=Hd (show netTake l=.error z by rw[HK.out,ht];rfl)
   clear ht
   go_enter_defers Tryz.func14,Tryz.ntmps14
   go_upto_region 1 with fail
   refine hWp (fun W=>Ext w W/\Blk W w.heap.size [.slice none 0 0] 43/\Blk W (w.heap.size+1) [I 0] 26)
    ⟨by(repeat with_reducible first|exact eR _|assumption|refine eA ?_ _|refine eD ?_|refine eW ?_ _|(refine eS ?_ ?_;focus(first|(simp;done)|(simp;omega)|omega))),(Blk.new w [.slice none 0 0] 43).old _,Blk.newAt [I 0] (by simp)⟩ (fun W1 hW1=>?_)
   obtain⟨hx1,hn1,he1⟩:=hW1
   have HX1:=Hd hx1
   have HN1:=Hd hn1
   have HE1:=Hd he1
   clear hx1 hn1 he1
   generalize hnb:w.heap.size=nb at*
   generalize heb:nb+1=eb at*
   have HLN:=Hd (show∀W,Ext w W->∀x,Ext w (W.setCell ⟨nb,0,none⟩ x)from fun W h x=>h.setCell (Nat.le_of_eq hnb) x)
   have HLE:=Hd (show∀W,Ext w W->∀x,Ext w (W.setCell ⟨eb,0,none⟩ x)from fun W h x=>h.setCell (by show w.heap.size<=eb;omega) x)
   have hef:=HE1.out.frozen
   have hec:=HE1.out.cells
   have HNE:=Hd (show nb≠eb by omega)
   clear hnb heb
   have hne1:¬nb=eb:=HNE.out
   have hne2:¬eb=nb:=fun e=>HNE.out e.symm
   go_upto_region 3 with(first
    |(go_at_call 34;(with_reducible refine(HFT.out _ (HC.out.later HX1.out)).mono ?_);rintro e w2 ⟨⟨u2,he,hu,hnil⟩,hx⟩;rw[HF.out]at he;obtain⟨ua,uc,hue⟩:=hu.form;subst hue;subst he;have HX2:=Hd (HX1.out.trans hx);have HN2:=Hd (HN1.out.later hx);have HE2:=Hd (HE1.out.later hx);have HO2:=Hd hu;clear hx hu hnil hef hec;have hef:=HE2.out.frozen;have hec:=HE2.out.cells))
   have HYE:=Hd (show∀x,BsAt (w2.setCell ⟨eb,0,none⟩ x) (.slice ua (ftake magN l).1.length uc) (ftake magN l).1 from fun x=>OwnY.bs (own_set HO2.out HE1.out.lt x))
   refine hWp (fun W=>Ext w W/\Blk W nb [.slice none 0 0] 43/\Blk W eb [I 0] 26/\BsAt W (.slice ua (ftake magN l).1.length uc) (ftake magN l).1)
    ⟨HLE.out _ HX2.out _,HN2.out.other HNE.out.symm _,HE2.out.set 0 _,HYE.out _⟩ (fun W3 hW3=>?_)
   obtain⟨hx3,hn3,he3,hy3⟩:=hW3
   have HX3:=Hd hx3
   have HN3:=Hd hn3
   have HE3:=Hd he3
   have HY3:=Hd hy3
   clear hef hec hx3 hy3
   have hec:=he3.cells
   clear he3 hn3
   go_upto_region 5 with fail
   go_upto_region 6 with(first
    |(go_at_call 35;(with_reducible refine(takeRows_any _ _ _ HY3.out HXL.out).mono ?_);rintro e w4 ⟨h4,hx⟩;rw[HT.out]at h4;obtain⟨hz,he⟩:=h4;subst he;have HZN:=Hd hz;have HX4:=Hd (HX3.out.trans hx);have HN4:=Hd (HN3.out.later hx);have HE4:=Hd (HE3.out.later hx);clear hx hz hec;have hnf:=HN4.out.frozen;have hef:=HE4.out.frozen;have hnc:=HN4.out.cells;have hec:=HE4.out.cells))
   refine hWp (fun W=>Ext w W/\Blk W nb [.slice none 0 0] 43/\Blk W eb [I z] 26)
    ⟨HLE.out _ (HLN.out _ HX4.out _) _,(HN4.out.set 0 _).other HNE.out.symm _,(HE4.out.other HNE.out _).set 0 _⟩ (fun W5 hW5=>?_)
   obtain⟨hx5,hn5,he5⟩:=hW5
   have HX5:=Hd hx5
   have HN5:=Hd hn5
   have HE5:=Hd he5
   clear hnf hef hec hnc hx5 hn5 he5
   have hnf:=HN5.out.frozen
   have hef:=HE5.out.frozen
   have hnc:=HN5.out.cells
   have hec:=HE5.out.cells
   have hzb:(z !=0)=true:=by simp[HZN.out]
   go_upto_region 7 with fail
   go_region
   go_wp2_with fail
   refine hideW (Φ:=fun W=>bodyPostD _ _ _ _ _ W) (fun W=>Ext w W/\Blk W nb [.slice none 0 0] 43/\Blk W eb [I z] 26)
    ⟨(HLE.out _ (HLN.out _ HX5.out _) _).drew,((HN5.out.set 0 _).other HNE.out.symm _).drew,((HE5.out.other HNE.out _).set 0 _).drew⟩ (fun W9 hW9=>?_)
   obtain⟨hx9,hn9,he9⟩:=hW9
   refine leaves_cons (f:=33) (args:=#[.pointer (some ⟨eb,0,none⟩),.pointer (some ⟨nb,0,none⟩)]) (by simp) (by simp[go_sem]) ?_
   refine(takeDone_any eb nb z _ .returning _ he9 hn9).mono ?_
   rintro e u' w'' ⟨rfl,rfl,hw⟩
   refine hideW (Φ:=fun W=>Leaves _ _ _ _ _ _ W) (fun W=>Ext w W/\Blk W nb [.slice none 0 0] 43/\Blk W eb [I z] 26)
    (by rw[hw,if_neg HZN.out];exact⟨HLN.out _ hx9 _,hn9.set 0 _,he9.other HNE.out _⟩) (fun W5 hW5=>?_)
   obtain⟨hx5,hn5,he5⟩:=hW5
   have hnc:=hn5.cells
   have hec:=he5.cells
   refine⟨.tuple #[.agg #[.slice none 0 0],I z],?_,?_⟩
   ·rw[results_cell_cell rfl]
    go_simp
   ·rw[HN.out]
    exact⟨⟨HZN.out,rfl⟩,hx5⟩
  |ok ls=>
   have HT:=Hd ht
   have HN:=Hd (show netTake l=if netMayV ls≠0 then .error (netMayV ls)else .ok ls by rw[HK.out,ht];rfl)
   clear ht
   go_enter_defers Tryz.func14,Tryz.ntmps14
   go_upto_region 1 with fail
   refine hWp (fun W=>Ext w W/\Blk W w.heap.size [.slice none 0 0] 43/\Blk W (w.heap.size+1) [I 0] 26)
    ⟨by(repeat with_reducible first|exact eR _|assumption|refine eA ?_ _|refine eD ?_|refine eW ?_ _|(refine eS ?_ ?_;focus(first|(simp;done)|(simp;omega)|omega))),(Blk.new w [.slice none 0 0] 43).old _,Blk.newAt [I 0] (by simp)⟩ (fun W1 hW1=>?_)
   obtain⟨hx1,hn1,he1⟩:=hW1
   have HX1:=Hd hx1
   have HN1:=Hd hn1
   have HE1:=Hd he1
   clear hx1 hn1 he1
   generalize hnb:w.heap.size=nb at*
   generalize heb:nb+1=eb at*
   have HLN:=Hd (show∀W,Ext w W->∀x,Ext w (W.setCell ⟨nb,0,none⟩ x)from fun W h x=>h.setCell (Nat.le_of_eq hnb) x)
   have HLE:=Hd (show∀W,Ext w W->∀x,Ext w (W.setCell ⟨eb,0,none⟩ x)from fun W h x=>h.setCell (by show w.heap.size<=eb;omega) x)
   have hef:=HE1.out.frozen
   have hec:=HE1.out.cells
   have HNE:=Hd (show nb≠eb by omega)
   clear hnb heb
   have hne1:¬nb=eb:=HNE.out
   have hne2:¬eb=nb:=fun e=>HNE.out e.symm
   go_upto_region 3 with(first
    |(go_at_call 34;(with_reducible refine(HFT.out _ (HC.out.later HX1.out)).mono ?_);rintro e w2 ⟨⟨u2,he,hu,hnil⟩,hx⟩;rw[HF.out]at he;obtain⟨ua,uc,hue⟩:=hu.form;subst hue;subst he;have HX2:=Hd (HX1.out.trans hx);have HN2:=Hd (HN1.out.later hx);have HE2:=Hd (HE1.out.later hx);have HO2:=Hd hu;clear hx hu hnil hef hec;have hef:=HE2.out.frozen;have hec:=HE2.out.cells))
   have HYE:=Hd (show∀x,BsAt (w2.setCell ⟨eb,0,none⟩ x) (.slice ua (ftake magN l).1.length uc) (ftake magN l).1 from fun x=>OwnY.bs (own_set HO2.out HE1.out.lt x))
   refine hWp (fun W=>Ext w W/\Blk W nb [.slice none 0 0] 43/\Blk W eb [I 0] 26/\BsAt W (.slice ua (ftake magN l).1.length uc) (ftake magN l).1)
    ⟨HLE.out _ HX2.out _,HN2.out.other HNE.out.symm _,HE2.out.set 0 _,HYE.out _⟩ (fun W3 hW3=>?_)
   obtain⟨hx3,hn3,he3,hy3⟩:=hW3
   have HX3:=Hd hx3
   have HN3:=Hd hn3
   have HE3:=Hd he3
   have HY3:=Hd hy3
   clear hef hec hx3 hy3
   have hec:=he3.cells
   clear he3 hn3
   go_upto_region 5 with fail
   go_upto_region 6 with(first
    |(go_at_call 35;(with_reducible refine(takeRows_any _ _ _ HY3.out HXL.out).mono ?_);rintro e w4 ⟨h4,hx⟩;rw[HT.out]at h4;obtain⟨u4,he,ho4⟩:=h4;obtain⟨ta,tc,hte,-⟩:=ho4.read.form;subst hte;subst he;have HX4:=Hd (HX3.out.trans hx);have HN4:=Hd (HN3.out.later hx);have HE4:=Hd (HE3.out.later hx);have HT4:=Hd ho4;clear hx ho4 hec;have hnf:=HN4.out.frozen;have hef:=HE4.out.frozen;have hnc:=HN4.out.cells;have hec:=HE4.out.cells))
   have HLT:=Hd (And.intro HN3.out.lt HE3.out.lt)
   refine hWp (fun W=>Ext w W/\Blk W nb [.slice ta ls.length tc] 43/\Blk W eb [I 0] 26/\OwnTb W W3.heap.size (.slice ta ls.length tc) ls)
    ⟨HLE.out _ (HLN.out _ HX4.out _) _,(HN4.out.set 0 _).other HNE.out.symm _,(HE4.out.other HNE.out _).set 0 _,(HT4.out.setCell HLT.out.1 _).setCell HLT.out.2 _⟩ (fun W5 hW5=>?_)
   obtain⟨hx5,hn5,he5,ho5⟩:=hW5
   have HX5:=Hd hx5
   have HN5:=Hd hn5
   have HE5:=Hd he5
   have HO5:=Hd ho5
   clear hnf hef hec hnc hx5 ho5 hn5 he5
   have hec:=HE5.out.cells
   go_upto_region 8 with fail
   clear hec
   have HOK:=Hd (netTake_rows HT.out)
   refine wp_region_R (RB (W5.heap.size)) 3 rfl (by kernel_rfl) (by kernel_rfl) (fun w0 hx0=>?_)
   have HX0:=Hd hx0
   have q0:=RB.keep hx0.size HN5.out.lt ((HN5.out.later hx0).cells 0)
   clear hx0
   refine WRi_at 0 ?_
   iterate 2
    refine WRi_q (preRB _) rfl (by decide) (by kernel_rfl) rfl ?_;apply Exists.intro;refine⟨fun w1 hx1=>?_,?_⟩
    ·go_simp;try go_bits
     first|with_reducible rfl|rfl
    go_frame;try simp only[Nat.reduceAdd]
   refine WRi_out ?_
   clear q0
   refine WR_one 2 rfl (by decide) (by kernel_rfl) rfl (fun K hK=>?_)
   go_simp
   (with_reducible refine(netMay_any _ ls _ (HO5.out.read.later HX0.out) HOK.out.1 HOK.out.2).mono ?_)
   rintro e w6 ⟨he,hx6⟩
   subst he
   refine hK _ _ (RB.ext hx6) ?_
   have HX6:=Hd (HX5.out.trans (HX0.out.trans hx6))
   have HN6:=Hd (HN5.out.later (HX0.out.trans hx6))
   have HE6:=Hd (HE5.out.later (HX0.out.trans hx6))
   have HO6:=Hd (HO5.out.later (HX0.out.trans hx6))
   clear hK K hx6
   have hnf:=HN6.out.frozen
   have hef:=HE6.out.frozen
   have hnc:=HN6.out.cells
   have hec:=HE6.out.cells
   refine WR_done (by kernel_rfl) ?_
   (try simp only[List.drop_succ_cons,List.drop_zero])
   go_wp2_with fail
   refine hideW (Φ:=fun W=>bodyPostD _ _ _ _ _ W) (fun W=>Ext w W/\Blk W nb [.slice ta ls.length tc] 43/\Blk W eb [I (netMayV ls)] 26/\OwnTb W W3.heap.size (.slice ta ls.length tc) ls)
    ⟨HLE.out _ (HLN.out _ HX6.out _) _,(HN6.out.set 0 _).other HNE.out.symm _,(HE6.out.other HNE.out _).set 0 _,(HO6.out.setCell HLT.out.1 _).setCell HLT.out.2 _⟩ (fun W9 hW9=>?_)
   obtain⟨hx9,hn9,he9,ho9⟩:=hW9
   refine leaves_cons (f:=33) (args:=#[.pointer (some ⟨eb,0,none⟩),.pointer (some ⟨nb,0,none⟩)]) (by simp) (by simp[go_sem]) ?_
   refine(takeDone_any eb nb (netMayV ls) _ .returning _ he9 hn9).mono ?_
   rintro e u' w'' ⟨rfl,rfl,hw⟩
   by_cases hm:netMayV ls=0
   ·rw[if_pos hm]at hw
    subst hw
    rw[hm]at he9
    have hnc:=hn9.cells
    have hec:=he9.cells
    refine⟨.tuple #[.agg #[.slice ta ls.length tc],I 0],?_,?_⟩
    ·rw[results_cell_cell rfl]
     go_simp
    ·rw[HN.out,if_neg (by simp[hm])]
     exact⟨⟨_,rfl,ho9.low HX3.out.size⟩,hx9⟩
   ·rw[if_neg hm]at hw
    refine hideW (Φ:=fun W=>Leaves _ _ _ _ _ _ W) (fun W=>Ext w W/\Blk W nb [.slice none 0 0] 43/\Blk W eb [I (netMayV ls)] 26)
     (by rw[hw];exact⟨HLN.out _ hx9 _,hn9.set 0 _,he9.other HNE.out _⟩) (fun W5 hW5=>?_)
    obtain⟨hx5,hn5,he5⟩:=hW5
    have hnc:=hn5.cells
    have hec:=he5.cells
    refine⟨.tuple #[.agg #[.slice none 0 0],I (netMayV ls)],?_,?_⟩
    ·rw[results_cell_cell rfl]
     go_simp
    ·rw[HN.out,if_pos hm]
     exact⟨⟨hm,rfl⟩,hx5⟩
 ·have HN:=Hd (show netTake l=.error (ftake magN l).2 by unfold netTake;rw[if_pos hf])
  obtain⟨z,hz⟩:∃z,z=(ftake magN l).2:=⟨_,rfl⟩
  rw[<-hz]at HN hf
  have HZ:=Hd hz
  have HZN:=Hd hf
  have hzb:(z !=0)=true:=by simp[hf]
  clear hz hf
  go_enter_defers Tryz.func14,Tryz.ntmps14
  go_upto_region 1 with fail
  refine hWp (fun W=>Ext w W/\Blk W w.heap.size [.slice none 0 0] 43/\Blk W (w.heap.size+1) [I 0] 26)
   ⟨by(repeat with_reducible first|exact eR _|assumption|refine eA ?_ _|refine eD ?_|refine eW ?_ _|(refine eS ?_ ?_;focus(first|(simp;done)|(simp;omega)|omega))),(Blk.new w [.slice none 0 0] 43).old _,Blk.newAt [I 0] (by simp)⟩ (fun W1 hW1=>?_)
  obtain⟨hx1,hn1,he1⟩:=hW1
  have HX1:=Hd hx1
  have HN1:=Hd hn1
  have HE1:=Hd he1
  clear hx1 hn1 he1
  generalize hnb:w.heap.size=nb at*
  generalize heb:nb+1=eb at*
  have HLN:=Hd (show∀W,Ext w W->∀x,Ext w (W.setCell ⟨nb,0,none⟩ x)from fun W h x=>h.setCell (Nat.le_of_eq hnb) x)
  have HLE:=Hd (show∀W,Ext w W->∀x,Ext w (W.setCell ⟨eb,0,none⟩ x)from fun W h x=>h.setCell (by show w.heap.size<=eb;omega) x)
  have hef:=HE1.out.frozen
  have hec:=HE1.out.cells
  have HNE:=Hd (show nb≠eb by omega)
  clear hnb heb
  go_upto_region 3 with(first
   |(go_at_call 34;(with_reducible refine(HFT.out _ (HC.out.later HX1.out)).mono ?_);rintro e w2 ⟨⟨u2,he,hu,hnil⟩,hx⟩;rw[<-HZ.out]at he hnil;obtain rfl:=hnil HZN.out;subst he;have HX2:=Hd (HX1.out.trans hx);have HN2:=Hd (HN1.out.later hx);have HE2:=Hd (HE1.out.later hx);clear hx hu hnil hef hec;have hef:=HE2.out.frozen;have hec:=HE2.out.cells))
  refine hWp (fun W=>Ext w W/\Blk W nb [.slice none 0 0] 43/\Blk W eb [I z] 26)
   ⟨HLE.out _ HX2.out _,HN2.out.other HNE.out.symm _,HE2.out.set 0 _⟩ (fun W3 hW3=>?_)
  obtain⟨hx3,hn3,he3⟩:=hW3
  have HX3:=Hd hx3
  have HN3:=Hd hn3
  have HE3:=Hd he3
  clear hef hec hx3
  have hec:=he3.cells
  have hef:=he3.frozen
  have hnc:=hn3.cells
  have hnf:=hn3.frozen
  clear he3 hn3
  have hne1:¬nb=eb:=HNE.out
  have hne2:¬eb=nb:=fun e=>HNE.out e.symm
  go_upto_region 4 with fail
  go_region
  go_wp2_with fail
  refine hideW (Φ:=fun W=>bodyPostD _ _ _ _ _ W) (fun W=>Ext w W/\Blk W nb [.slice none 0 0] 43/\Blk W eb [I z] 26)
   ⟨(HLE.out _ (HLN.out _ HX3.out _) _).drew,((HN3.out.set 0 _).other HNE.out.symm _).drew,((HE3.out.other HNE.out _).set 0 _).drew⟩ (fun W4 hW4=>?_)
  obtain⟨hx4,hn4,he4⟩:=hW4
  refine leaves_cons (f:=33) (args:=#[.pointer (some ⟨eb,0,none⟩),.pointer (some ⟨nb,0,none⟩)]) (by simp) (by simp[go_sem]) ?_
  refine(takeDone_any eb nb z _ .returning _ he4 hn4).mono ?_
  rintro e u' w'' ⟨rfl,rfl,hw⟩
  refine hideW (Φ:=fun W=>Leaves _ _ _ _ _ _ W) (fun W=>Ext w W/\Blk W nb [.slice none 0 0] 43/\Blk W eb [I z] 26)
   (by rw[hw,if_neg HZN.out];exact⟨HLN.out _ hx4 _,hn4.set 0 _,he4.other HNE.out _⟩) (fun W5 hW5=>?_)
  obtain⟨hx5,hn5,he5⟩:=hW5
  have hnc:=hn5.cells
  have hec:=he5.cells
  refine⟨.tuple #[.agg #[.slice none 0 0],I z],?_,?_⟩
  ·rw[results_cell_cell rfl]
   go_simp
  ·rw[HN.out]
   exact⟨⟨HZN.out,rfl⟩,hx5⟩
theorem netTake_may{b:List Byt}{ls:List (List Rul)}(h:netTake b=.ok ls):netMayV ls=0:=by
 unfold netTake at h
 split at h
 ·cases h
 ·obtain⟨y,h1,h2⟩:=bindE_ok h
  split at h2
  ·cases h2
  ·rename_i hm
   cases h2
   exact Classical.not_not.1 hm
theorem may_ok{ls:List (List Rul)}(h:netMayV ls=0):TablesOk ls:=fun l hl r hr=>by
 obtain⟨p1,p2,p3⟩:=(net_rulB h l hl).1 r hr
 exact⟨by unfold In64;omega,by unfold In64;omega,by unfold In64;omega⟩
theorem reads_blk{w:World}{b n c s:Nat}{cs:List Value}{T:TypeId}(h:Blk w b cs T)(hl:n*s<=cs.length)(hc:n<=c)(hm:c<=maxLen):Reads w s (.slice (some ⟨b,0,none⟩) n c) n (cs.take (n*s)):=by
 refine⟨by rw[List.length_take];omega,_,_,rfl,hc,hm,fun e=>(by cases e),fun x hx=>?_⟩
 cases hx
 refine⟨.inl rfl,fun j y hj=>?_⟩
 rw[h.cells,Nat.zero_add]
 rw[List.getElem?_take]at hj
 split at hj
 ·exact hj
 ·cases hj
theorem netB_len{ls:List (List Rul)}(h:netMayV ls=0):(netPut ls).length<=1000000000:=by
 have hb:=net_rulB h
 have hl:=(netMay_tabs h).1
 have key:∀(m:List (List Rul)),(∀l∈m,l.length<=4096)->(m.flatMap nodeB).length<=m.length*40000:=by
  intro m
  induction m with
  |nil=>intro _;simp
  |cons l m ih=>
   intro hm
   have h1:=ih fun x hx=>hm x (List.mem_cons_of_mem _ hx)
   have h2:=hm l (List.mem_cons_self ..)
   have h3:(nodeB l).length<=40000:=by
    unfold nodeB sectB
    have g1:=(gsize_bd l.length).2
    have g2:=(gsize_bd (gput l.length++l.flatMap ruleB).length).2
    rw[List.length_cons,List.length_append,gput_len,List.length_append,gput_len,flat8]
    rw[List.length_append,gput_len,flat8]at g2
    omega
   rw[List.flatMap_cons,List.length_append,List.length_cons]
   omega
 have h1:=key ls fun l hl=>(hb l hl).2
 have h2:=(gsize_bd ls.length).2
 unfold netPut
 rw[fput_len]
 unfold netB
 rw[List.length_append,gput_len]
 omega
theorem blk_grownK{w w':World}{b:Nat}{cs:List Value}{T:TypeId}{r:Option Nat}(h:Blk w b cs T)(hr:∀g,r=some g->b≠g)(hg:w.grownBy w' r):Blk w' b cs T:=by
 have hb:=hg.block b h.lt (fun e=>hr b e.symm rfl)
 unfold Blk
 rw[hb];exact h
theorem own_bds{w:World}{B:Nat}{e:TypeId}{z:Nat}{v:Value}{n:Nat}{xs:List Value}(h:w.ownsRow B e z v n xs):∃a c,v=.slice a n c/\n<=c/\c<=maxLen:=by
 rcases h.2 with⟨rfl,rfl⟩|⟨g,cap,cur,rfl,-,-,h1,h2,-⟩
 ·exact⟨none,0,rfl,Nat.le_refl _,by unfold maxLen;omega⟩
 ·exact⟨_,_,rfl,h1,h2⟩
end Go.Proofs.YtjflkifodfncmaaGreatDoor
