/- R16P, R16Of, R16OfG, AtomsAny, AtomsL: these texts in one. Conditions: each theorem names its own. -/
import Derived.Test.YtjflkifodfncmaaGreatDoorGAtB
import Derived.Test.YtjflkifodfncmaaGreatDoorGFit17
namespace Go.Proofs.YtjflkifodfncmaaGreatDoor
set_option maxHeartbeats 4000000
set_option maxRecDepth 100000
open Go Go.RowKit Go.Maps Go.Proofs
theorem idxV_at{vs:List (List Int)}(hn:vs.Nodup){j:Nat}(hj:j<vs.length):idxV vs vs[j]=j:=by
 have hm:vs[j]∈vs:=List.getElem_mem hj
 have hlt:=idxV_in.1 hm
 have he:=idxV_get hlt
 exact(List.getElem_inj hn).1 he
def WasOk(s:Ats)(was:List Int):Prop:=∃j:Nat,s.last=(j:Int)/\s.vs[j]? =some was
theorem was_iff{s:Ats}(h:AtsOk s){was:List Int}(hw:WasOk s was)(u:List Int):u=was↔s.last=(idxV s.vs u:Int):=by
 obtain⟨j,h1,h2⟩:=hw
 obtain⟨hj,rfl⟩:=List.getElem?_eq_some_iff.1 h2
 rw[h1]
 constructor
 ·rintro rfl
  rw[idxV_at h.nodup hj]
 ·intro e
  have e':idxV s.vs u=j:=by omega
  have hlt:idxV s.vs u<s.vs.length:=by omega
  have:=idxV_get hlt
  simp only[e']at this
  exact this.symm
theorem was_step{vec:BitVec 32->List Int}{s:Ats}{a:BitVec 32}(h:s.last≠(idxV s.vs (vec a):Int)):WasOk (atStep vec s a) (vec a):=by
 unfold atStep
 rw[if_neg h]
 refine⟨idxV s.vs (vec a),last_snoc _ _ _ _,?_⟩
 by_cases hm:vec a∈s.vs
 ·have hlt:=idxV_in.1 hm
  simp only[if_pos hm]
  rw[gE hlt,idxV_get hlt]
 ·simp only[if_neg hm]
  rw[idxV_out hm]
  simp
theorem idxV_next{vs:List (List Int)}{u:List Int}{k:Nat}(h:k<=idxV vs u)(hk:k<vs.length)(hne:vs[k]≠u):k+1<=idxV vs u:=by
 rcases Nat.lt_or_ge k (idxV vs u)with g|g
 ·exact g
 ·exfalso
  have e:idxV vs u=k:=by omega
  have hlt:idxV vs u<vs.length:=by omega
  have:=idxV_get hlt
  simp only[e]at this
  exact hne this
theorem idxV_stop{vs:List (List Int)}(hn:vs.Nodup){u:List Int}{k:Nat}(hk:k<vs.length)(he:vs[k]=u):idxV vs u=k:=by
 subst he;exact idxV_at hn hk
theorem cell_low{w:World}{p:Addr}{v:Value}(h:w.cell? p=some v):p.block<w.heap.size:=by
 rcases Nat.lt_or_ge p.block w.heap.size with g|g
 ·exact g
 ·simp[World.cell?,Array.getElem?_eq_none g]at h
structure RnR(w2 w4:World)(xb B:Nat)(s:Ats)(fv hv vv:Value)(w:World):Prop where
 ats:AtS w B s fv hv vv
 box:Blk w xb [fv,hv,vv] 98
 low:xb<B
 x2:w2.heap.size<=xb
 ext:Ext w2 w
 sz:B<=w.heap.size
 same:∀b,b<B->b≠xb->w.heap[b]? =w4.heap[b]?
theorem RnR.later{w2 w4 w w':World}{xb B:Nat}{fv hv vv:Value}{s:Ats}(h:RnR w2 w4 xb B s fv hv vv w)(hx:Ext w w'):RnR w2 w4 xb B s fv hv vv w':=
 ⟨h.ats.later hx,h.box.later hx,h.low,h.x2,h.ext.trans hx,Nat.le_trans h.sz hx.size,fun b hb hne=>by have:=h.sz;rw[Below.block hx b (by omega)];exact h.same b hb hne⟩
theorem RnR.cell{w2 w4 w:World}{xb B:Nat}{fv hv vv:Value}{s:Ats}(h:RnR w2 w4 xb B s fv hv vv w){p:Addr}{v:Value}(hp:p.block<B)(hne:p.block≠xb)(hc:w4.cell? p=some v):w.cell? p=some v:=by
 rw[World.cell?_of_block (h.same p.block hp hne)];exact hc
theorem RnR.stored{w2 w4 w w':World}{xb B:Nat}{fv hv vv fv' hv' vv' x:Value}{s s':Ats}{r:Option Nat}{j:Nat}(h:RnR w2 w4 xb B s fv hv vv w)
 (hg:w.grownBy w' r) (hr:∀g,r=some g->B<=g) (ha:AtS w' B s' fv' hv' vv') (hb:[fv,hv,vv].set j x=[fv',hv',vv']):RnR w2 w4 xb B s' fv' hv' vv' (w'.setCell ⟨xb,j,none⟩ x):=by
 have hl:=h.low
 have h2:=h.x2
 have hz:=h.sz
 refine⟨ha.setCell h.low x,?_,hl,h2,(Below.grown h.ext hg h.ext.size (fun g e=>by have:=hr g e;omega)).setCell h2 x,by have:=hg.size;simp;omega,fun b hb' hne=>?_⟩
 ·rw[<-hb]
  exact(blk_grown h.box (fun g e=>by have:=hr g e;omega) hg).set j x
 ·rw[(grown_set w' ⟨xb,j,none⟩ x).block b (by have:=hg.size;omega) (fun e=>hne (Option.some.inj e)),hg.block b (by omega) (fun e=>by have:=hr b e.symm;omega)]
  exact h.same b hb' hne
theorem RnR.addFr{w2 w4 w w':World}{xb B:Nat}{fv hv vv v':Value}{s:Ats}{a:BitVec 32}(h:RnR w2 w4 xb B s fv hv vv w)
 (ho:w'.ownsRow B 23 1 v' (s.fr.length+1) (ucells s.fr++[U a])) (hg:w.grownBy w' fv.ownBlock):RnR w2 w4 xb B ⟨s.fr++[a],s.wh,s.vs⟩ v' hv vv (w'.setCell ⟨xb,0,none⟩ v'):=
 h.stored hg (own_ge h.ats.fr) (h.ats.addFr ho hg) rfl
theorem RnR.addWh{w2 w4 w w':World}{xb B:Nat}{fv hv vv v':Value}{s:Ats}{k:Int}(h:RnR w2 w4 xb B s fv hv vv w)
 (ho:w'.ownsRow B 3 1 v' (s.wh.length+1) (icells s.wh++[I k])) (hg:w.grownBy w' hv.ownBlock) (hloc:v'.ownBlock=hv.ownBlock\/v'.ownBlock=some w.heap.size):
 RnR w2 w4 xb B ⟨s.fr,s.wh++[k],s.vs⟩ fv v' vv (w'.setCell ⟨xb,1,none⟩ v'):=
 h.stored hg (own_ge h.ats.wh) (h.ats.addWh ho hg hloc) rfl
theorem RnR.addVs{w2 w4 w w':World}{xb B:Nat}{fv hv vv v' y:Value}{s:Ats}{u:List Int}{vals:List Value}(h:RnR w2 w4 xb B s fv hv vv w)
 (hy:OwnI w B y u) (hfar:∀g,hv.ownBlock=some g->y.ownBlock≠some g) (h1:w.ownsRow B 47 1 vv s.vs.length vals)
 (h2:∀(i:Nat) (m:List Int),s.vs[i]? =some m->∃x,vals[i]? =some x/\OwnI w B x m/\∀g,hv.ownBlock=some g->x.ownBlock≠some g)
 (ho:w'.ownsRow B 47 1 v' (s.vs.length+1) (vals++[y])) (hg:w.grownBy w' vv.ownBlock):RnR w2 w4 xb B ⟨s.fr,s.wh,s.vs++[u]⟩ fv hv v' (w'.setCell ⟨xb,2,none⟩ v'):=
 h.stored hg (own_ge h1) (AtS.addVs' h.ats hy hfar h1 h2 ho hg) rfl
theorem box_apart{w:World}{xb b o:Nat}{x y z:Value}{T:TypeId}{c:BitVec 32}(h:Blk w xb [x,y,z] T)(hx:∃p n q,x=.slice p n q)(hy:∃p n q,y=.slice p n q)(hz:∃p n q,z=.slice p n q)(hc:w.cell? ⟨b,o,none⟩=some (U c)):b≠xb:=by
 rintro rfl
 obtain⟨_,_,_,rfl⟩:=hx
 obtain⟨_,_,_,rfl⟩:=hy
 obtain⟨_,_,_,rfl⟩:=hz
 rw[h.cells o]at hc
 match o,hc with
 |0,hc=>cases hc
 |1,hc=>cases hc
 |2,hc=>cases hc
 |n+3,hc=>cases hc
theorem was_wh{w w':World}{B:Nat}{wv hv v':Value}{was:List Int}(hw:OwnI w B wv was)(hfar:∀g,hv.ownBlock=some g->wv.ownBlock≠some g)(hg:w.grownBy w' hv.ownBlock)
 (hloc:v'.ownBlock=hv.ownBlock\/v'.ownBlock=some w.heap.size):OwnI w' B wv was/\∀g,v'.ownBlock=some g->wv.ownBlock≠some g:=by
 refine⟨own_keep hw fun g hx=>hg.block g (own_cells hw hx).2.1 fun e=>hfar g e.symm hx,fun g hg' hx=>?_⟩
 have hlt:=(own_cells hw hx).2.1
 rcases hloc with e|e
 ·exact hfar g (by rw[<-e];exact hg') hx
 ·rw[e]at hg';simp at hg';omega
theorem r16Of_good(lv:Value)(ls:List (List Rul))(w:World)(hl:TablesAt w lv ls)(hok:TablesOk ls)(hm:netMayV ls=0):
 Calls Tryz.prog 51 #[.agg #[lv]] w fun e w'=>∃fv hv vv l,e=.returned (.tuple #[.agg #[fv,hv,vv],I 0])/\Cuts ls.flatten l/\AtomsAt w' fv hv vv (atomsL (vecV ls) l)/\Ext w w':=by
 have HL:=Hd hl
 have HOK:=Hd hok
 have HM:=Hd hm
 have HSZ:=Hd (netMay_tabs hm).2.1
 have HNL:=Hd (netMay_tabs hm).1
 obtain⟨ad,cap,rfl,a1,a2,a3⟩:=hl.form
 clear a3 hl hm hok
 unfold maxLen at a2
 go_enter Tryz.func51,Tryz.ntmps51
 go_upto_region 1 with(fail)
 refine hWp (fun W=>Ext w W/\Blk W w.heap.size [.slice ad ls.length cap] 43/\Blk W (w.heap.size+1) [sNil,sNil,sNil] 98)
  ⟨by(repeat with_reducible first|exact eR _|assumption|refine eA ?_ _|refine eD ?_|refine eW ?_ _|(refine eS ?_ ?_;focus(first|(simp;done)|(simp;omega)|omega))),(Blk.new w [.slice ad ls.length cap] 43).old _,Blk.newAt [sNil,sNil,sNil] (by simp)⟩ (fun W1 hW1=>?_)
 obtain⟨hx1,hb1,hr1⟩:=hW1
 have HX1:=Hd hx1
 have hbc1:=hb1.cells
 have HB1:=Hd hb1
 have HR1:=Hd hr1
 clear hr1 hx1 hb1
 have HSC:=Hd (show∀(A:World) (o:Nat) (u:Value),Ext w A->Ext w (A.setCell ⟨w.heap.size+1,o,none⟩ u)from fun A o u h=>h.setCell (by show w.heap.size<=w.heap.size+1;omega) u)
 generalize w.heap.size+1=rb at*
 generalize w.heap.size=nb at*
 go_upto_region 4 with(first
  |(go_at_call 50;(with_reducible refine(r09May_any _ ls _ (HL.out.later HX1.out) HOK.out (by have:=HSZ.out;omega)).mono ?_);rintro e w2 ⟨he,hx2⟩;rw[HM.out]at he;subst he;have HX2:=Hd (HX1.out.trans hx2);have HR2:=Hd (HR1.out.later hx2);have HB2:=Hd (HB1.out.later hx2);clear hx2))
 clear hbc1
 go_upto_region 5 with(fail)
 refine hBk w2 [sNil,sNil,sNil] 98 (fun W3 hW3=>?_)
 obtain⟨hx3,hb3⟩:=hW3
 have HX3:=Hd hx3
 have HX3':=Hd (HX2.out.trans hx3)
 have HBN3:=Hd (HB2.out.later hx3)
 have hbc3:=HBN3.out.cells
 have HBX3:=Hd hb3
 have HRL:=Hd HR2.out.lt
 clear hx3 hb3
 generalize hxb:w2.heap.size=xb at*
 have HXBE:=Hd hxb
 clear hxb
 go_upto_region 6 with(first
  |(go_at_call 110;(with_reducible refine(r12Of_any _ ls _ (HL.out.later HX3'.out) HOK.out (by have:=HSZ.out;omega)).mono ?_);rintro e w4 ⟨v4,l,he,hU,hC,hx4⟩;subst he;have HC:=Hd hC;have HU4:=Hd hU;have HX4:=Hd hx4;obtain⟨ca,ccap,hcv,c1,c2,-⟩:=hU.form;subst hcv;clear hC hU hx4))
 clear hbc3
 unfold maxLen at c2
 have HBX4:=Hd (HBX3.out.later HX4.out)
 have HBN4:=Hd (HBN3.out.later HX4.out)
 have HSZX:=Hd HX4.out.size
 go_upto_region 7 with(fail)
 refine hWp (fun W=>Ext w4 W) (by(repeat with_reducible first|exact eR _|assumption|refine eA ?_ _|refine eD ?_|refine eW ?_ _|(refine eS ?_ ?_;focus(first|(simp;done)|(simp;omega)|omega)))) (fun W5 hx5=>?_)
 have HX5:=Hd hx5
 have HR5:=Hd (show RnR w2 W5 xb W5.heap.size Ats.nil sNil sNil sNil W5 from
  ⟨AtS.nil _ _,HBX4.out.later hx5,by have:=HBX4.out.lt;have:=hx5.size;omega,Nat.le_of_eq HXBE.out,HX3.out.trans (HX4.out.trans hx5),Nat.le_refl _,fun _ _ _=>rfl⟩)
 have HU5:=Hd (HU4.out.later hx5)
 clear hx5
 go_wp2_with fail
 go_loopw[7,8] (fun wv i wr=>∃(k:Nat) (fv hv vv:Value) (was:List Int),k<=l.length/\i=I k/\
  Hid (0<k->OwnI wr W5.heap.size wv was/\(∀g,hv.ownBlock=some g->wv.ownBlock≠some g)/\WasOk (atomsL (vecV ls) (l.take k)) was)/\
  Hid (RnR w2 W5 xb W5.heap.size (atomsL (vecV ls) (l.take k)) fv hv vv wr)) (fun _ i _=>l.length-(intOf i).toNat)
 case atStart=>exact⟨0,sNil,sNil,sNil,[],by omega,rfl,Hd (fun h=>by omega),HR5.out⟩
 case round=>
  obtain⟨k,fv,hv,vv,was,hk,rfl,HWAS,HR⟩:=hrel
  have HBN:=Hd (HB2.out.later HR.out.ext)
  by_cases hlt:k<l.length
  ·have HST:=Hd (atomsL_step (vec:=vecV ls) hlt)
   have HSOK:=Hd (atsOk_all (vecV ls) (l.take k))
   obtain⟨_,_,hce,_,_,c3⟩:=HU5.out.form
   obtain⟨b0,o0,he0,p0⟩:=c3 k l[k] (gE hlt)
   simp only[Value.slice.injEq,true_and]at hce
   obtain⟨rfl,rfl⟩:=hce
   subst he0
   clear c3
   have HP0:=Hd (show b0<W5.heap.size/\b0≠xb/\W5.cell? ⟨b0,o0+k,none⟩=some (U l[k])from⟨cell_low p0,box_apart HR5.out.box ⟨_,_,_,rfl⟩ ⟨_,_,_,rfl⟩ ⟨_,_,_,rfl⟩ p0,p0⟩)
   replace p0:=HR.out.cell (cell_low p0) (box_apart HR5.out.box ⟨_,_,_,rfl⟩ ⟨_,_,_,rfl⟩ ⟨_,_,_,rfl⟩ p0) p0
   go_wp2_with fail
   refine wp_region_E 5 rfl (by kernel_rfl) (by kernel_rfl) ?_
   have kb:=HBN.out.keep
   have k0:=Ext.keep p0
   refine WEi_at 0 ?_
   iterate 5
    refine WEi_q rfl (by decide) (by kernel_rfl) rfl ?_;apply Exists.intro;refine⟨fun w1 hx1=>?_,?_⟩
    ·have hq1:=hx1.cells;go_simp;try go_bits
     first|with_reducible rfl
    go_frame;try simp only[Nat.reduceAdd]
   refine WEi_out ?_
   refine WE_done (by kernel_rfl) (fun w6 hx6=>?_)
   (try simp only[List.drop_succ_cons,List.drop_zero])
   clear kb k0
   have HR6:=Hd (HR.out.later hx6)
   have HX6:=Hd hx6
   have HIT:=Hd hx6
   clear hx6
   have HK0:=Hd (show k=0->(atomsL (vecV ls) (l.take k)).last= -1 from fun h=>by subst h;rfl)
   have HFEW:=Hd (show(atomsL (vecV ls) (l.take k)).fr.length<=k by have:=ats_few (vecV ls) (l.take k);rw[List.length_take]at this;omega)
   generalize atomsL (vecV ls) (l.take k)=s at*
   generalize l[k]=a at*
   obtain⟨u,hu⟩:∃u,vecV ls a=u:=⟨_,rfl⟩
   have HU:=Hd hu
   clear hu
   go_upto_region 11 with(first
    |(go_at_call 111;(with_reducible refine(r13Of_any _ ls a _ (HL.out.later (HX2.out.trans HR6.out.ext)) HOK.out (by have:=HNL.out;omega)).mono ?_);rintro e w7 ⟨v7,he,hV,hx7⟩;subst he;rw[HU.out]at hV;have HV7:=Hd (show OwnI w7 W5.heap.size v7 u from own_low hV HR6.out.sz);have HV7H:=Hd (show∀g,v7.ownBlock=some g->w6.heap.size<=g from own_ge hV);have HX7:=Hd (HX6.out.trans hx7);have HR7:=Hd (HR6.out.later hx7);clear hV hx7))
   have HFAR7:=Hd (show∀g,hv.ownBlock=some g->v7.ownBlock≠some g from fun g e e'=>by
    have h1:=(own_cells HR6.out.ats.wh e).2.1
    have h2:=HV7H.out g e'
    omega)
   go_cut[39] (fun c wc=>c=.bool (decide (s.last=(idxV s.vs u:Int)))/\Hid (Ext w7 wc))
   case first=>
    by_cases hk0:0<k
    ·obtain⟨ho,-,hwo⟩:=HWAS.out hk0
     have HWO:=Hd ho
     have HIFF:=Hd (show decide (u=was)=decide (s.last=(idxV s.vs u:Int))from decide_eq_decide.2 (was_iff HSOK.out hwo u))
     clear ho hwo
     have hkd:decide ((0:Int)<(k:Int))=true:=dT (by omega)
     go_wp2_with (first
      |(go_at_call 112;(with_reducible refine(r09Row_any _ _ u was _ HV7.out.ints ((HWO.out.later HX7.out).ints)).mono ?_);rintro e w8 ⟨he,hx8⟩;rw[HIFF.out]at he;subst he;have HX8:=Hd hx8;clear hx8))
     go_meet
     case rel=>exact⟨rfl,HX8.out⟩
    ·have hkd:decide ((0:Int)<(k:Int))=false:=dF (by omega)
     have HIFF:=Hd (show decide (s.last=(idxV s.vs u:Int))=false from dF (by have:=HK0.out (by omega);omega))
     go_wp2_with fail
     go_meet
     case rel=>exact⟨by rw[HIFF.out],eR _⟩
   case rest=>
    obtain⟨rfl,HXC⟩:=hcut
    have HR8:=Hd (HR7.out.later HXC.out)
    have HV8:=Hd (HV7.out.later HXC.out)
    by_cases hsame:s.last=(idxV s.vs u:Int)
    ·rw[dT hsame]
     have HSTP:=Hd (show atStep (vecV ls) s a=s by unfold atStep;rw[HU.out,if_pos hsame])
     have hk0:0<k:=by
      rcases Nat.eq_zero_or_pos k with h|h
      ·exfalso;have:=HK0.out h;omega
      ·exact h
     have HWW:=Hd (HWAS.out hk0)
     clear hsame
     go_wp2_with fail
     go_roundw
     case rel=>
      refine⟨k+1,fv,hv,vv,was,by omega,by go_num,?_,by show RnR _ _ _ _ _ _ _ _ _;rw[HST.out,HSTP.out];exact HR8.out⟩
      show 0<k+1->_
      intro _
      rw[HST.out,HSTP.out]
      exact⟨HWW.out.1.later (HX7.out.trans HXC.out),HWW.out.2.1,HWW.out.2.2⟩
     case measure=>simp[intOf];omega
    ·rw[dF hsame]
     have HSTP:=Hd (show atStep (vecV ls) s a=⟨s.fr++[a],s.wh++[(idxV s.vs u:Int)],if u∈s.vs then s.vs else s.vs++[u]⟩by unfold atStep;rw[HU.out,if_neg hsame])
     have HWN:=Hd (show WasOk (atStep (vecV ls) s a) u by have:=was_step (vec:=vecV ls) (s:=s) (a:=a) (by rw[HU.out];exact hsame);rw[HU.out]at this;exact this)
     clear hsame
     have HIX:=Hd (idxV_le s.vs u)
     go_upto_block 2 with fail
     go_cut[10] (fun i wd=>i=I (idxV s.vs u)/\Hid (Ext wc wd))
     case first=>
      go_wp2_with fail
      go_loopw[10] (fun i wr=>∃j:Nat,j<=s.vs.length/\j<=idxV s.vs u/\i=I j/\Hid (Ext wc wr)) (fun i _=>s.vs.length-(intOf i).toNat)
      case atStart=>exact⟨0,by omega,by omega,rfl,eR _⟩
      case round=>
       obtain⟨j,hj,hji,rfl,HXJ⟩:=hrel
       have HRJ:=Hd (HR8.out.later HXJ.out)
       have hcj:=HRJ.out.box.cells
       obtain⟨xa,xc,hvv,x1,x2,x3⟩:=HRJ.out.ats.at.vs.form
       by_cases hjl:j<s.vs.length
       ·obtain⟨b1,o1,u1,he1,c1,hu1⟩:=x3 j s.vs[j] (gE hjl)
        have HU1:=Hd hu1
        clear hu1 x3
        subst hvv he1
        unfold maxLen at x2
        obtain⟨ya,yc,hyv,-⟩:=HU1.out.form
        subst hyv
        have hjd:decide ((j:Int)<(s.vs.length:Int))=true:=dT (by omega)
        by_cases hq:s.vs[j]=u
        ·have HQ:=Hd hq
         have HSTOP:=Hd (idxV_stop HSOK.out.nodup hjl hq)
         clear hq
         generalize s.vs[j]=Z at*
         go_wp2_with (first
          |(go_at_call 112;(with_reducible refine(r09Row_any _ _ Z u _ HU1.out (HV8.out.later HXJ.out).ints).mono ?_);rintro e w9 ⟨he,hx9⟩;replace he:=he.trans (congrArg (fun b=>Ending.returned (.bool b)) (dT HQ.out));subst he;have HX9:=Hd (HXJ.out.trans hx9);clear hx9))
         go_meet
         case rel=>exact⟨by rw[HSTOP.out],HX9.out⟩
        ·have HQ:=Hd hq
         have HNX:=Hd (idxV_next hji hjl hq)
         clear hq
         generalize s.vs[j]=Z at*
         go_wp2_with (first
          |(go_at_call 112;(with_reducible refine(r09Row_any _ _ Z u _ HU1.out (HV8.out.later HXJ.out).ints).mono ?_);rintro e w9 ⟨he,hx9⟩;replace he:=he.trans (congrArg (fun b=>Ending.returned (.bool b)) (dF HQ.out));subst he;have HX9:=Hd (HXJ.out.trans hx9);clear hx9))
         go_roundw
         case rel=>exact⟨j+1,by omega,HNX.out,by go_num,HX9.out⟩
         case measure=>simp[intOf];omega
       ·have hjd:decide ((j:Int)<(s.vs.length:Int))=false:=dF (by omega)
        have HJE:=Hd (show idxV s.vs u=j by have:=HIX.out;omega)
        clear x3
        subst hvv
        go_wp2_with fail
        go_meet
        case rel=>exact⟨by rw[HJE.out],HXJ.out⟩
     case rest=>
      obtain⟨rfl,HXD⟩:=hcut
      have HR9:=Hd (HR8.out.later HXD.out)
      have HV9:=Hd (HV8.out.later HXD.out)
      have hc9:=HR9.out.box.cells
      have HFW:=Hd (show s.wh.length<=k/\s.vs.length<=k by have:=HFEW.out;have:=HSOK.out.len;have:=HSOK.out.short;omega)
      have HLN:=Hd (show l.length<=8193 by have h1:=HC.out.len;have h2:=HSZ.out;rw[sizeN_flat]at h1;omega)
      obtain⟨xa,xc,hvv,-,x2,-⟩:=HR9.out.ats.at.vs.form
      subst hvv
      obtain⟨ya,yc,hyv⟩:=own_form HV9.out
      subst hyv
      go_upto_if 62 with fail
      go_cut[] (fun we=>∃vv2,Hid (RnR w2 W5 xb W5.heap.size ⟨s.fr,s.wh,if u∈s.vs then s.vs else s.vs++[u]⟩ fv hv vv2 we)/\Hid (OwnI we W5.heap.size (.slice ya u.length yc) u))
      case first=>
       by_cases hin:u∈s.vs
       ·have hlt:=idxV_in.1 hin
        have hbe:((idxV s.vs u:Int)==(s.vs.length:Int))=false:=beq_false_of_ne (by omega)
        have HIN:=Hd hin
        clear hin
        go_wp2_with fail
        go_meet
        case rel=>exact⟨_,by show RnR _ _ _ _ _ _ _ _ _;rw[if_pos HIN.out];exact HR9.out,HV9.out⟩
       ·have hbe:((idxV s.vs u:Int)==(s.vs.length:Int))=true:=by rw[idxV_out hin];simp
        have HIN:=Hd hin
        clear hin
        have HSV:=Hd (HR9.out.later ((eR wc).alloc (.cells #[.slice ya u.length yc] 47)))
        obtain⟨vals,hv1,hv2⟩:=HSV.out.ats.rows
        have HFV:=Hd (show(wc.alloc (.cells #[.slice ya u.length yc] 47)).ownsRow W5.heap.size 47 1 (.slice xa s.vs.length xc) (s.vs).length (vals)from hv1)
        have HCV:=Hd (show(wc.alloc (.cells #[.slice ya u.length yc] 47)).cell? ⟨wc.heap.size,0,none⟩=some (.slice ya u.length yc)from(Blk.new wc [.slice ya u.length yc] 47).cells 0)
        have HLBV:=Hd (show((s.vs).length+1)*24<=140737488355328 by have:=HFW.out;have:=HLN.out;omega)
        go_wp2_with (first
         |(at_builtin;refine wpList_app1 rfl (.tmp 64) (.tmp 66) 71 rfl W5.heap.size 47 _ 24 Tryz.underlying71 infoInts rfl (by decide) (.slice xa s.vs.length xc) (s.vs).length (vals) rfl HFV.out wc.heap.size rfl (.slice ya u.length yc) HCV.out rfl HLBV.out HSV.out.sz ?_;intro v8 w8 ho8 hg8 hl8
           have hb8:=blk_grown HSV.out.box (fun g e=>by have:=own_ge HFV.out g e;have:=HSV.out.low;omega) hg8
           have hc8:=hb8.cells
           have hf8:=hb8.frozen
           obtain⟨faV,fcV,hfv⟩:=own_form ho8
           subst hfv
           have HRV:=Hd (HSV.out.addVs (own_later HV9.out ((eR wc).alloc _)) HFAR7.out hv1 hv2 ho8 hg8)
           have HVV:=Hd (show OwnI (w8.setCell ⟨xb,2,none⟩ (.slice faV (s.vs.length+1) fcV)) W5.heap.size (.slice ya u.length yc) u from own_set (own_apart (own_later HV9.out ((eR wc).alloc _)) hv1 (by decide) hg8) HSV.out.low _)
           clear ho8 hg8 hl8 hb8))
        go_meet
        case rel=>exact⟨_,by show RnR _ _ _ _ _ _ _ _ _;rw[if_neg HIN.out];exact HRV.out,HVV.out⟩
      case rest=>
       obtain⟨vv2,HRE,HVE⟩:=hcut
       have HFR:=Hd HRE.out.ats.fr
       go_upto_region 18 with(fail)
       refine wp_region_R (RB (W5.heap.size)) 9 rfl (by kernel_rfl) (by kernel_rfl) (fun w0 hx0=>?_)
       have hbk:=RB.keep (HRE.out.later hx0).sz HRE.out.low ((HRE.out.later hx0).box.cells 0)
       have hck:=RB.keep (HRE.out.later hx0).sz HP0.out.1 (hx0.cell (HRE.out.cell HP0.out.1 HP0.out.2.1 HP0.out.2.2))
       have HS0:=Hd (HRE.out.later hx0)
       have HX0:=Hd hx0
       clear hx0
       refine WRi_at 0 ?_
       iterate 6
        refine WRi_q (preRB _) rfl (by decide) (by kernel_rfl) rfl ?_;apply Exists.intro;refine⟨fun w1 hx1=>?_,?_⟩
        ·go_simp;try go_bits
         first|with_reducible rfl|rfl
        go_frame;try simp only[Nat.reduceAdd]
       refine WRi_out ?_
       clear hbk hck
       refine WR_one 6 rfl (by decide) (by kernel_rfl) rfl (fun K hK=>?_)
       go_simp
       refine hK _ _ (RB.ext ((eR _).alloc _)) ?_
       clear hK K
       have HSA:=Hd (HS0.out.later ((eR w0).alloc (.cells #[U a] 23)))
       have HFA:=Hd (show(w0.alloc (.cells #[U a] 23)).ownsRow W5.heap.size 23 1 fv (s.fr).length (ucells s.fr)from HSA.out.ats.fr)
       have HCA:=Hd (show(w0.alloc (.cells #[U a] 23)).cell? ⟨w0.heap.size,0,none⟩=some (U a)from(Blk.new w0 [U a] 23).cells 0)
       have HLBA:=Hd (show((s.fr).length+1)*4<=140737488355328 by have:=HFEW.out;have:=HLN.out;omega)
       refine WR_one 7 rfl (by decide) (by kernel_rfl) rfl (fun K hK=>?_)
       refine wp_of_list (ops:=#[]) rfl ?_
       refine wpList_app1 rfl (.tmp 70) (.tmp 75) 70 rfl W5.heap.size 23 _ 4 Tryz.underlying70 infoU32 rfl (by decide) fv (s.fr).length (ucells s.fr) rfl HFA.out w0.heap.size rfl (U a) HCA.out rfl HLBA.out HSA.out.sz ?_
       intro v8 w8 ho8 hg8 hl8
       refine⟨rfl,hK _ _ (RB.below HSA.out.sz (Below.grown (Below.refl _ _) hg8 HSA.out.sz fun q hq=>(HFA.out.lt q hq).1)) ?_⟩
       clear hK K
       have hb8:=blk_grown HSA.out.box (fun g e=>by have:=own_ge HFA.out g e;have:=HSA.out.low;omega) hg8
       have hc8:=hb8.cells
       have hf8:=hb8.frozen
       obtain⟨faA,fcA,hfv⟩:=own_form ho8
       subst hfv
       have HRA:=Hd (HSA.out.addFr ho8 hg8)
       have HVA:=Hd (show OwnI (w8.setCell ⟨xb,0,none⟩ (.slice faA (s.fr.length+1) fcA)) W5.heap.size (.slice ya u.length yc) u from own_set (own_apart (own_later HVE.out (HX0.out.trans ((eR w0).alloc _))) HFA.out (by decide) hg8) HSA.out.low _)
       clear ho8 hg8 hl8 hb8
       refine WR_q (preRB _) 8 rfl (by decide) (by kernel_rfl) rfl ?_;apply Exists.intro;refine⟨fun w1 hx1=>?_,?_⟩
       ·go_simp;try go_bits
        first|with_reducible rfl|rfl
       go_frame
       refine WR_done (by kernel_rfl) ?_
       (try simp only[List.drop_succ_cons,List.drop_zero])
       go_upto_region 19 with(fail)
       refine hWp (fun W=>RnR _ _ _ _ _ _ _ _ W/\OwnI W _ _ _) ⟨HRA.out,HVA.out⟩ (fun WA hR=>?_)
       have HTA:=Hd hR.1
       have HVB:=Hd hR.2
       clear hR hc8 hf8
       have hcB:=HTA.out.box.cells
       have HSB:=Hd (HTA.out.later ((eR WA).alloc (.cells #[I (idxV s.vs u:Int)] 3)))
       have HFB:=Hd (show(WA.alloc (.cells #[I (idxV s.vs u:Int)] 3)).ownsRow W5.heap.size 3 1 hv (s.wh).length (icells s.wh)from HSB.out.ats.wh)
       have HCB:=Hd (show(WA.alloc (.cells #[I (idxV s.vs u:Int)] 3)).cell? ⟨WA.heap.size,0,none⟩=some (I (idxV s.vs u:Int))from(Blk.new WA [I (idxV s.vs u:Int)] 3).cells 0)
       have HLBB:=Hd (show((s.wh).length+1)*8<=140737488355328 by have:=HFW.out;have:=HLN.out;omega)
       generalize (idxV s.vs u:Int)=pl at*
       go_wp2_with (first
        |(at_builtin;refine wpList_app1 rfl (.tmp 79) (.tmp 81) 47 rfl W5.heap.size 3 _ 8 Tryz.underlying47 infoInt rfl (by decide) hv (s.wh).length (icells s.wh) rfl HFB.out WA.heap.size rfl (I pl) HCB.out rfl HLBB.out HSB.out.sz ?_;intro v9 w9 ho8 hg8 hl8
          have hb8:=blk_grown HSB.out.box (fun g e=>by have:=own_ge HFB.out g e;have:=HSB.out.low;omega) hg8
          have hc8:=hb8.cells
          have hf8:=hb8.frozen
          have HWH:=Hd (was_wh (own_later HVB.out ((eR WA).alloc _)) HFAR7.out hg8 hl8)
          obtain⟨faB,fcB,hfv⟩:=own_form ho8
          subst hfv
          have HRB:=Hd (HSB.out.addWh ho8 hg8 hl8)
          have HVC:=Hd (show OwnI (w9.setCell ⟨xb,1,none⟩ (.slice faB (s.wh.length+1) fcB)) W5.heap.size (.slice ya u.length yc) u from own_set HWH.out.1 HSB.out.low _)
          clear ho8 hg8 hl8 hb8))
       go_roundw
       case rel=>
        refine⟨k+1,_,_,vv2,u,by omega,by go_num,?_,by show RnR _ _ _ _ _ _ _ _ _;rw[HST.out,HSTP.out];exact HRB.out⟩
        show 0<k+1->_
        intro _
        rw[HST.out]
        exact⟨HVC.out,HWH.out.2,HWN.out⟩
       case measure=>simp[intOf];omega
  ·have hkd:decide ((k:Int)<(l.length:Int))=false:=dF (by omega)
   have hdone:decide (k<l.length)=false:=dF hlt
   have HALL:=Hd (show l.take k=l from List.take_of_length_le (by omega))
   rw[HALL.out]at HR
   clear HWAS
   have hc6:=HR.out.box.cells
   obtain⟨fa,fc,hfv⟩:=own_form HR.out.ats.fr
   obtain⟨ha,hcp,hhv⟩:=own_form HR.out.ats.wh
   obtain⟨_,hvw,_⟩:=HR.out.ats.rows
   obtain⟨vva,vvc,hvv⟩:=own_form hvw
   subst hfv hhv hvv
   clear hvw
   have HRR:=Hd (HR2.out.later HR.out.ext)
   have hrc:=HRR.out.cells
   have hrf:=HRR.out.frozen
   have HRB:=Hd (show rb<W5.heap.size from Nat.lt_trans HRL.out HR5.out.low)
   go_wp2_with fail
   refine hideW (Φ:=fun W=>bodyPost _ _ _ _ _ W) (fun W=>Ext w W/\AtomsAt W (.slice fa (atomsL (vecV ls) l).fr.length fc) (.slice ha (atomsL (vecV ls) l).wh.length hcp) (.slice vva (atomsL (vecV ls) l).vs.length vvc) (atomsL (vecV ls) l)/\
    Blk W rb [.slice fa (atomsL (vecV ls) l).fr.length fc,.slice ha (atomsL (vecV ls) l).wh.length hcp,.slice vva (atomsL (vecV ls) l).vs.length vvc] 98)
    ⟨HSC.out _ _ _ (HSC.out _ _ _ (HSC.out _ _ _ (HX2.out.trans HR.out.ext))),(((HR.out.ats.setCell HRB.out _).setCell HRB.out _).setCell HRB.out _).at,((HRR.out.set 0 _).set 1 _).set 2 _⟩ (fun W9 hW9=>?_)
   obtain⟨hx9,ha9,hb9⟩:=hW9
   have hc9:=hb9.cells
   refine bodyPost_ret (v:=.tuple #[.agg #[.slice fa (atomsL (vecV ls) l).fr.length fc,.slice ha (atomsL (vecV ls) l).wh.length hcp,.slice vva (atomsL (vecV ls) l).vs.length vvc],I 0]) (by rw[results_cell_tmp rfl];go_simp) rfl ?_
   exact⟨_,_,_,l,rfl,HC.out,ha9,hx9⟩
def IsAts(ls:List (List Rul))(s:Ats):Prop:=(netMayV ls=0/\∃l,Cuts ls.flatten l/\s=atomsL (vecV ls) l)\/(netMayV ls≠0/\s=Ats.nil)
theorem IsAts.one{ls:List (List Rul)}{s s':Ats}(h:IsAts ls s)(h':IsAts ls s'):s=s':=by
 rcases h with⟨h0,l,hC,rfl⟩|⟨h0,rfl⟩
 ·rcases h' with⟨_,l',hC',rfl⟩|⟨h1,_⟩
  ·rw[Cuts.at hC hC']
  ·exact absurd h0 h1
 ·rcases h' with⟨h1,_⟩|⟨_,rfl⟩
  ·exact absurd h1 h0
  ·rfl
def mxW(l:List Int):Int:=l.foldl max (-1)
theorem mxW_snoc(l:List Int)(x:Int):mxW (l++[x])=max (mxW l) x:=by unfold mxW;simp
structure AtInv(vec:BitVec 32->List Int)(s:Ats)(l:List (BitVec 32)):Prop where
 ok:AtsOk s
 sub:s.fr.Sublist l
 was:∀c,l.getLast? =some c->WasOk s (vec c)
 place:∀(j:Nat) (c:BitVec 32),s.fr[j]? =some c->∃i:Nat,s.wh[j]? =some (i:Int)/\s.vs[i]? =some (vec c)
 diff:∀(j:Nat) (x:Int),s.wh[j]? =some x->s.wh[j+1]?≠some x
 each:∀c∈l,∃(j:Nat) (d:BitVec 32),s.fr[j]? =some d/\uv d<=uv c/\vec d=vec c/\∀d',s.fr[j+1]? =some d'->uv c<uv d'
 ord:∀(j:Nat) (x:Int),s.wh[j]? =some x->x<=mxW (s.wh.take j)+1
 mx:mxW s.wh=(s.vs.length:Int)-1
theorem AtInv.nil(vec:BitVec 32->List Int):AtInv vec Ats.nil []:=
 ⟨AtsOk.nil,List.Sublist.refl _,fun c h=>(by cases h),fun j c h=>(by cases h),fun j x h=>(by cases h),fun c h=>(by cases h),fun j x h=>(by cases h),rfl⟩
theorem rising_snoc{l:List (BitVec 32)}{a:BitVec 32}(h:Rising (l++[a])):Rising l/\∀c∈l,uv c<uv a:=by
 unfold Rising at*
 rw[List.pairwise_append]at h
 exact⟨h.1,fun c hc=>h.2.2 c hc a (by simp)⟩
theorem AtInv.step{vec:BitVec 32->List Int}{s:Ats}{l:List (BitVec 32)}{a:BitVec 32}(h:AtInv vec s l)(hr:Rising (l++[a]))(hn:l=[]->s=Ats.nil):AtInv vec (atStep vec s a) (l++[a]):=by
 obtain⟨hrl,hlt⟩:=rising_snoc hr
 have hok:=h.ok.step vec a
 by_cases hs:s.last=(idxV s.vs (vec a):Int)
 ·have e:atStep vec s a=s:=by unfold atStep;rw[if_pos hs]
  rw[e]at hok ⊢
  have hne:l≠[]:=by
   intro e0
   rw[hn e0]at hs
   have:Ats.nil.last= -1:=rfl
   omega
  have hgl:l.getLast? =some (l.getLast hne):=List.getLast?_eq_some_getLast hne
  have hmem:l.getLast hne∈l:=List.getLast_mem hne
  have hw:=h.was _ hgl
  have hva:vec a=vec (l.getLast hne):=(was_iff h.ok hw (vec a)).2 hs
  refine⟨hok,h.sub.trans (List.sublist_append_left _ _),fun c hc=>?_,h.place,h.diff,fun c hc=>?_,h.ord,h.mx⟩
  ·simp only[List.getLast?_append,List.getLast?_singleton,Option.some_or,Option.some.injEq]at hc
   subst hc
   rw[hva];exact hw
  ·rcases List.mem_append.1 hc with hc|hc
   ·exact h.each c hc
   ·simp only[List.mem_singleton]at hc
    subst hc
    obtain⟨j,d,h1,h2,h3,h4⟩:=h.each _ hmem
    refine⟨j,d,h1,by have:=hlt _ hmem;omega,by rw[h3,hva],fun d' hd'=>?_⟩
    exfalso
    have h5:=h4 d' hd'
    have h6:d'∈l:=h.sub.subset (List.mem_of_getElem? hd')
    obtain⟨i,hi,rfl⟩:=List.mem_iff_getElem.1 h6
    have h7:=hrl.le (i:=i) (j:=l.length-1) (by omega) (by omega)
    rw[List.getLast_eq_getElem hne]at h5
    omega
 ·have hw2:=was_step (vec:=vec) (a:=a) hs
  have e:atStep vec s a=⟨s.fr++[a],s.wh++[(idxV s.vs (vec a):Int)],if vec a∈s.vs then s.vs else s.vs++[vec a]⟩:=by unfold atStep;rw[if_neg hs]
  have hpre:∀(i:Nat) (v:List Int),s.vs[i]? =some v->(if vec a∈s.vs then s.vs else s.vs++[vec a])[i]? =some v:=fun i v hv=>by
   split
   ·exact hv
   ·rw[List.getElem?_append_left (List.getElem?_eq_some_iff.1 hv).1];exact hv
  rw[e]at hok hw2 ⊢
  have hlen:=h.ok.len
  refine⟨hok,h.sub.append (List.Sublist.refl _),fun c hc=>?_,fun j c hc=>?_,fun j x hx hx'=>?_,fun c hc=>?_,fun j x hx=>?_,?_⟩
  ·simp only[List.getLast?_append,List.getLast?_singleton,Option.some_or,Option.some.injEq]at hc
   subst hc
   exact hw2
  ·rcases snoc_get hc with hc|⟨rfl,rfl⟩
   ·obtain⟨i,h1,h2⟩:=h.place j c hc
    exact⟨i,by rw[List.getElem?_append_left (List.getElem?_eq_some_iff.1 h1).1];exact h1,hpre i _ h2⟩
   ·refine⟨idxV s.vs (vec c),by rw[hlen];simp,?_⟩
    by_cases hm:vec c∈s.vs
    ·simp only[if_pos hm]
     have:=idxV_in.1 hm
     rw[gE this,idxV_get this]
    ·simp only[if_neg hm]
     rw[idxV_out hm];simp
  ·rcases snoc_get hx' with hx'|⟨h1,h2⟩
   ·have hj:=(List.getElem?_eq_some_iff.1 hx').1
    rw[List.getElem?_append_left (by omega)]at hx
    exact h.diff j x hx hx'
   ·rw[List.getElem?_append_left (by omega)]at hx
    apply hs
    unfold Ats.last
    have:s.wh.getLast? =some x:=by
     rw[List.getLast?_eq_getElem?,<-h1]
     exact hx
    rw[this,<-h2];rfl
  ·rcases List.mem_append.1 hc with hc|hc
   ·obtain⟨j,d,h1,h2,h3,h4⟩:=h.each c hc
    have hj:=(List.getElem?_eq_some_iff.1 h1).1
    refine⟨j,d,by rw[List.getElem?_append_left hj];exact h1,h2,h3,fun d' hd'=>?_⟩
    rcases snoc_get hd' with hd'|⟨_,hda⟩
    ·exact h4 d' hd'
    ·rw[hda];exact hlt c hc
   ·simp only[List.mem_singleton]at hc
    subst hc
    refine⟨s.fr.length,c,by simp,Int.le_refl _,rfl,fun d' hd'=>?_⟩
    rw[List.getElem?_eq_none (by simp)]at hd'
    cases hd'
  ·rcases snoc_get hx with hx|⟨rfl,rfl⟩
   ·have hj:=(List.getElem?_eq_some_iff.1 hx).1
    rw[List.take_append_of_le_length (by omega)]
    exact h.ord j x hx
   ·rw[List.take_left]
    rw[h.mx]
    have:=idxV_le s.vs (vec a)
    omega
  ·rw[mxW_snoc,h.mx]
   by_cases hm:vec a∈s.vs
   ·simp only[if_pos hm]
    have:=idxV_in.1 hm
    omega
   ·simp only[if_neg hm]
    rw[idxV_out hm];simp;omega
theorem atInv_all{vec:BitVec 32->List Int}{l:List (BitVec 32)}(hr:Rising l):∀k,k<=l.length->AtInv vec (atomsL vec (l.take k)) (l.take k):=by
 intro k
 induction k with
 |zero=>intro _;exact AtInv.nil vec
 |succ k ih=>
  intro hk
  have e:=List.take_succ_eq_append_getElem (l:=l) (i:=k) (by omega)
  rw[atomsL_step (by omega),e]
  refine(ih (by omega)).step ?_ (fun h=>by rw[h];rfl)
  rw[<-e]
  exact List.Pairwise.sublist (List.take_sublist _ _) hr
theorem atInv{vec:BitVec 32->List Int}{l:List (BitVec 32)}(hr:Rising l):AtInv vec (atomsL vec l) l:=by
 have:=atInv_all (vec:=vec) hr l.length (Nat.le_refl _)
 rw[List.take_length]at this
 exact this
structure AtomsIt(ls:List (List Rul))(l:List (BitVec 32))(s:Ats):Prop where
 inv:AtInv (vecV ls) s l
 rise:Rising s.fr
 zero:s.fr[0]? =some 0#32
theorem atomsIt{ls:List (List Rul)}{l:List (BitVec 32)}(hC:Cuts ls.flatten l):AtomsIt ls l (atomsL (vecV ls) l):=by
 have hi:=atInv (vec:=vecV ls) hC.rise
 have hr:Rising (atomsL (vecV ls) l).fr:=List.Pairwise.sublist hi.sub hC.rise
 refine⟨hi,hr,cuts_zero hr ?_⟩
 obtain⟨j,d,h1,h2,h3,_⟩:=hi.each 0#32 (List.mem_of_getElem? hC.zero)
 have:d=0#32:=uv_inj (by have:=uv_nonneg d;have:=uv_zero;omega)
 exact this▸List.mem_of_getElem? h1
theorem AtomsIt.vec{ls:List (List Rul)}{l:List (BitVec 32)}{s:Ats}(h:AtomsIt ls l s)(hC:Cuts ls.flatten l)(a:BitVec 32):vecV ls (s.fr[ivN s.fr a]'(ivN_lt h.zero a))=vecV ls a:=by
 rw[<-vec_low hC a]
 have hm:l[ivN l a]'(ivN_lt hC.zero a)∈l:=List.getElem_mem _
 obtain⟨j,d,h1,h2,h3,h4⟩:=h.inv.each _ hm
 obtain⟨hj,rfl⟩:=List.getElem?_eq_some_iff.1 h1
 rw[<-h3]
 have h5:ivN s.fr a=j:=by
  unfold ivN
  rw[atN_eq h.rise hj (by have:=iv_from hC.zero a;omega) (fun hj1=>?_)]
  ·rfl
  ·have h6:=h4 _ (gE hj1)
   have h7:s.fr[j+1]∈l:=h.inv.sub.subset (List.getElem_mem _)
   by_cases g:uv a<uv s.fr[j+1]
   ·exact g
   ·have:=iv_below hC.rise hC.zero a h7 (by omega)
    omega
 simp only[h5]
theorem AtomsIt.low{ls:List (List Rul)}{l:List (BitVec 32)}{s:Ats}(h:AtomsIt ls l s)(hC:Cuts ls.flatten l)(a:BitVec 32):vecV ls (s.fr[ivN s.fr a]'(ivN_lt h.zero a))=vecV ls a:=h.vec hC a
theorem AtomsIt.high{ls:List (List Rul)}{l:List (BitVec 32)}{s:Ats}(h:AtomsIt ls l s)(hC:Cuts ls.flatten l)(a:BitVec 32):vecV ls (endV s.fr (ivN s.fr a))=vecV ls a:=by
 have h1:=h.vec hC (endV s.fr (ivN s.fr a))
 have h2:=h.vec hC a
 have h3:ivN s.fr (endV s.fr (ivN s.fr a))=ivN s.fr a:=by
  have:=atN_high h.rise (ivN_lt h.zero a)
  have e:ivN s.fr (endV s.fr (ivN s.fr a))=atN s.fr (endV s.fr (ivN s.fr a))-1:=rfl
  omega
 simp only[h3]at h1
 rw[<-h1,h2]
theorem AtomsIt.at{ls:List (List Rul)}{l:List (BitVec 32)}{s:Ats}(h:AtomsIt ls l s)(hC:Cuts ls.flatten l)(a:BitVec 32):∃j:Nat,s.wh[ivN s.fr a]? =some (j:Int)/\s.vs[j]? =some (vecV ls a):=by
 obtain⟨j,h1,h2⟩:=h.inv.place _ _ (gE (ivN_lt h.zero a))
 exact⟨j,h1,by rw[h2,h.vec hC a]⟩
def Ats.mapV(f:List Int->List Int)(s:Ats):Ats:=⟨s.fr,s.wh,s.vs.map f⟩
end Go.Proofs.YtjflkifodfncmaaGreatDoor
