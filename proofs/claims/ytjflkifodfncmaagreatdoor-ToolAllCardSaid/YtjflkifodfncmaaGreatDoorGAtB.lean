/- GVecC, GAtB: these texts in one. Conditions: each theorem names its own. -/
import Derived.Test.YtjflkifodfncmaaGreatDoorGAtA
import Derived.Laws.ResultCell
import Derived.Lib.SliceRun
namespace Go.Proofs.YtjflkifodfncmaaGreatDoor
set_option maxHeartbeats 4000000
set_option maxRecDepth 100000
open Go.RowKit
theorem holds_alike{rs:List Rul}{l:List (BitVec 32)}(hC:Cuts rs l){x y:BitVec 32}(h:∀c∈l,uv c<=uv x↔uv c<=uv y){r:Rul}(hr:r∈rs):holdsV r.pa r.pl x=holdsV r.pa r.pl y:=by
 have g1:=h _ (hC.low hr)
 have g2:uv x<=uv (highV r.pa r.pl)↔uv y<=uv (highV r.pa r.pl):=by
  by_cases ht:uv (highV r.pa r.pl)=4294967295
  ·have:=uv_bd x
   have:=uv_bd y
   omega
  ·have g:=h _ (hC.next hr ht)
   rw[uv_inc ht]at g
   omega
 rw[Bool.eq_iff_iff,holds_uv,holds_uv,g1,g2]
theorem find_same{ls:List (List Rul)}{l:List (BitVec 32)}(hC:Cuts ls.flatten l){x y:BitVec 32}(h:∀c∈l,uv c<=uv x↔uv c<=uv y){t:List Rul}(ht:t∈ls):findL t x=findL t y:=
 findL_congr fun _ hr=>holds_alike hC h (List.mem_flatten.2 ⟨t,ht,hr⟩)
theorem step_same{ls:List (List Rul)}{l:List (BitVec 32)}(hC:Cuts ls.flatten l){x y:BitVec 32}(h:∀c∈l,uv c<=uv x↔uv c<=uv y){t:List Rul}(ht:t∈ls):stepO t x=stepO t y:=by
 unfold stepO;rw[find_same hC h ht]
theorem vec_same{ls:List (List Rul)}{l:List (BitVec 32)}(hC:Cuts ls.flatten l){x y:BitVec 32}(h:∀c∈l,uv c<=uv x↔uv c<=uv y):vecV ls x=vecV ls y:=by
 unfold vecV
 exact List.map_congr_left fun t ht=>by rw[step_same hC h ht]
theorem vec_low{ls:List (List Rul)}{l:List (BitVec 32)}(hC:Cuts ls.flatten l)(a:BitVec 32):vecV ls (l[ivN l a]'(ivN_lt hC.zero a))=vecV ls a:=
 vec_same hC fun c hc=>by
  have h1:=iv_from hC.zero a
  constructor
  ·intro h;omega
  ·intro h;exact iv_below hC.rise hC.zero a hc h
theorem foldS_mem{a:BitVec 32}{r:Rul}:∀(t:List Rul) (o:Option Rul),t.foldl (findStep a) o=some r->o=some r\/r∈t
 |[],_,h=>.inl h
 |x::t,o,h=>by
  rcases foldS_mem t _ h with g|g
  ·unfold findStep at g
   split at g
   ·cases g;exact .inr (by simp)
   ·exact .inl g
  ·exact .inr (List.mem_cons_of_mem _ g)
theorem findL_mem{t:List Rul}{a:BitVec 32}{r:Rul}(h:findL t a=some r):r∈t:=(foldS_mem t none h).resolve_left (by simp)
theorem step_bd{ls:List (List Rul)}(h:netMayV ls=0){t:List Rul}(ht:t∈ls)(a:BitVec 32){x:Int}(hs:stepO t a=some x):0<=x/\x<ls.length:=by
 have hm:=(netMay_tabs h).2.2 t ht
 have hr:=(tabG_spec ls.length t none hm).1
 unfold stepO at hs
 split at hs
 ·rename_i r hf
  split at hs
  ·rename_i ha
   cases hs
   have hmem:r∈t:=findL_mem hf
   have h2:=hr r hmem
   unfold ruleMayV at h2
   split at h2
   ·rename_i h3;exact absurd h2 h3
   ·(try rw[if_pos ha]at h2)
    split at h2
    ·cases h2
    ·omega
  ·cases hs
 ·cases hs
open Go Go.Maps Go.Proofs
abbrev sNil:Value:=.slice none 0 0
theorem vec_VecB{ls:List (List Rul)}(h:netMayV ls=0)(a:BitVec 32):VecB (vecV ls a):=by
 have hl:=(netMay_tabs h).1
 intro x hx
 unfold vecV at hx
 obtain⟨t,ht,rfl⟩:=List.mem_map.1 hx
 cases hs:stepO t a with
 |none=>simp
 |some y=>have:=step_bd h ht a hs;simp;omega
theorem own_high{w w':World}{B:Nat}{e:TypeId}{z:Nat}{v:Value}{n:Nat}{xs:List Value}{r:Option Nat}(h:w.ownsRow B e z v n xs){C:Nat}(hC:∀g,v.ownBlock=some g->g<C)(hr:∀g,r=some g->C<=g)(hg:w.grownBy w' r):w'.ownsRow B e z v n xs:=
 own_keep h fun g hv=>hg.block g (own_cells h hv).2.1 fun e=>by have:=hC g hv;have:=hr g e.symm;omega
theorem own_ge{w:World}{B:Nat}{e:TypeId}{z:Nat}{v:Value}{n:Nat}{xs:List Value}(h:w.ownsRow B e z v n xs):∀g,v.ownBlock=some g->B<=g:=fun _ hg=>(own_cells h hg).1
theorem blk_grown{w w':World}{b:Nat}{cs:List Value}{T:TypeId}{r:Option Nat}(h:Blk w b cs T)(hr:∀g,r=some g->b≠g)(hg:w.grownBy w' r):Blk w' b cs T:=by
 have hb:=hg.block b h.lt (fun e=>hr b e.symm rfl)
 unfold Blk
 rw[hb];exact h
theorem mapV_keep{w w':World}{mb:Nat}{vs:List (List Int)}(h:MapV w mb vs)(hs:w'.heap[mb]? =w.heap[mb]?):MapV w' mb vs:=by
 obtain⟨n,D,⟨es,clock,hb,r⟩,h2,h3⟩:=h
 exact⟨n,D,⟨es,clock,by rw[hs];exact hb,r⟩,h2,h3⟩
theorem mapV_lt{w:World}{mb:Nat}{vs:List (List Int)}(h:MapV w mb vs):mb<w.heap.size:=by
 obtain⟨n,D,⟨es,clock,hb,r⟩,h2,h3⟩:=h
 rcases Nat.lt_or_ge mb w.heap.size with h'|h'
 ·exact h'
 ·rw[Array.getElem?_eq_none h']at hb;cases hb
theorem mapV_later{w w':World}{mb:Nat}{vs:List (List Int)}(h:MapV w mb vs)(hx:Ext w w'):MapV w' mb vs:=mapV_keep h (Below.block hx mb (mapV_lt h))
theorem mapV_grown{w w':World}{mb:Nat}{vs:List (List Int)}{r:Option Nat}(h:MapV w mb vs)(hr:∀g,r=some g->mb<g)(hg:w.grownBy w' r):MapV w' mb vs:=
 mapV_keep h (hg.block mb (mapV_lt h) fun e=>by have:=hr mb e.symm;omega)
theorem mapV_set{w:World}{mb:Nat}{vs:List (List Int)}(h:MapV w mb vs){p:Addr}(hp:p.block≠mb)(x:Value):MapV (w.setCell p x) mb vs:=mapV_keep h (by
 have:=grown_set w p x
 exact this.block mb (mapV_lt h) (fun e=>hp (Option.some.inj e).symm))
theorem own_form{w:World}{B:Nat}{e:TypeId}{z:Nat}{v:Value}{n:Nat}{xs:List Value}(h:w.ownsRow B e z v n xs):∃a c,v=.slice a n c:=by
 rcases h.2 with⟨rfl,rfl⟩|⟨g,cap,cur,rfl,_⟩
 ·exact⟨none,0,rfl⟩
 ·exact⟨_,_,rfl⟩
structure Sta(w2:World)(xb mp B B3:Nat)(cv:Value):Prop where
 xB:xb<B
 mB:mp<B
 x3:xb<B3
 ne:xb≠mp
 x2:w2.heap.size<=xb
 m2:w2.heap.size<=mp
 cb:∀g,cv.ownBlock=some g->g<B
structure Rnd(w2:World)(xb mp B B3:Nat)(cv:Value)(l:List (BitVec 32))(mvs:List (List Int))(s:Ats)(fv hv vv:Value)(w:World):Prop where
 ats:AtS w B s fv hv vv
 box:Blk w xb [fv,hv,vv] 73
 map:MapV w mp mvs
 cut:OwnU w B3 cv l
 ext:Ext w2 w
 sz:B<=w.heap.size
theorem Rnd.later{w2 w w':World}{xb mp B B3:Nat}{cv fv hv vv:Value}{l:List (BitVec 32)}{mvs:List (List Int)}{s:Ats}(h:Rnd w2 xb mp B B3 cv l mvs s fv hv vv w)(hx:Ext w w'):Rnd w2 xb mp B B3 cv l mvs s fv hv vv w':=
 ⟨h.ats.later hx,h.box.later hx,mapV_later h.map hx,own_later h.cut hx,h.ext.trans hx,Nat.le_trans h.sz hx.size⟩
theorem Rnd.stored{w2 w w':World}{xb mp B B3:Nat}{cv fv hv vv fv' hv' vv' x:Value}{l:List (BitVec 32)}{mvs:List (List Int)}{s s':Ats}{r:Option Nat}{j:Nat}(h:Rnd w2 xb mp B B3 cv l mvs s fv hv vv w)(hs:Sta w2 xb mp B B3 cv)
 (hg:w.grownBy w' r) (hr:∀g,r=some g->B<=g) (ha:AtS w' B s' fv' hv' vv') (hb:[fv,hv,vv].set j x=[fv',hv',vv']):Rnd w2 xb mp B B3 cv l mvs s' fv' hv' vv' (w'.setCell ⟨xb,j,none⟩ x):=by
 refine⟨ha.setCell hs.xB x,?_,mapV_set (mapV_grown h.map (fun g e=>by have:=hr g e;have:=hs.mB;omega) hg) (fun e=>hs.ne e) x,?_,?_,?_⟩
 ·rw[<-hb]
  exact(blk_grown h.box (fun g e=>by have:=hr g e;have:=hs.xB;omega) hg).set j x
 ·exact own_set (own_high h.cut hs.cb hr hg) hs.x3 x
 ·exact(Below.grown h.ext hg h.ext.size (fun g e=>by have:=hr g e;have:=hs.xB;have:=hs.x2;omega)).setCell hs.x2 x
 ·have:=hg.size;have:=h.sz;simp;omega
theorem Rnd.mapped{w2 w w':World}{xb mp B B3:Nat}{cv fv hv vv:Value}{l:List (BitVec 32)}{mvs mvs':List (List Int)}{s:Ats}{n:Nat}{D:DataW Unit}(h:Rnd w2 xb mp B B3 cv l mvs s fv hv vv w)(hs:Sta w2 xb mp B B3 cv)
 (hm:w.ownsMap Tryz.prog 9 (plainElem Tryz.prog 3) mp n D) (hg:w.grownBy w' (some mp)) (hmap:MapV w' mp mvs'):Rnd w2 xb mp B B3 cv l mvs' s fv hv vv w':=
 ⟨h.ats.mapped hm hg,blk_grown h.box (fun g e=>by cases e;exact hs.ne) hg,hmap,own_mapped h.cut hm hg,Below.grown h.ext hg h.ext.size (fun g e=>by cases e;exact hs.m2),Nat.le_trans h.sz hg.size⟩
theorem Rnd.addFr{w2 w w':World}{xb mp B B3:Nat}{cv fv hv vv v':Value}{l:List (BitVec 32)}{mvs:List (List Int)}{s:Ats}{a:BitVec 32}(h:Rnd w2 xb mp B B3 cv l mvs s fv hv vv w)(hs:Sta w2 xb mp B B3 cv)
 (ho:w'.ownsRow B 23 1 v' (s.fr.length+1) (ucells s.fr++[U a])) (hg:w.grownBy w' fv.ownBlock):Rnd w2 xb mp B B3 cv l mvs ⟨s.fr++[a],s.wh,s.vs⟩ v' hv vv (w'.setCell ⟨xb,0,none⟩ v'):=
 h.stored hs hg (own_ge h.ats.fr) (h.ats.addFr ho hg) rfl
theorem Rnd.addWh{w2 w w':World}{xb mp B B3:Nat}{cv fv hv vv v':Value}{l:List (BitVec 32)}{mvs:List (List Int)}{s:Ats}{k:Int}(h:Rnd w2 xb mp B B3 cv l mvs s fv hv vv w)(hs:Sta w2 xb mp B B3 cv)
 (ho:w'.ownsRow B 3 1 v' (s.wh.length+1) (icells s.wh++[I k])) (hg:w.grownBy w' hv.ownBlock) (hloc:v'.ownBlock=hv.ownBlock\/v'.ownBlock=some w.heap.size):
 Rnd w2 xb mp B B3 cv l mvs ⟨s.fr,s.wh++[k],s.vs⟩ fv v' vv (w'.setCell ⟨xb,1,none⟩ v'):=
 h.stored hs hg (own_ge h.ats.wh) (h.ats.addWh ho hg hloc) rfl
theorem Rnd.addVs{w2 w w':World}{xb mp B B3:Nat}{cv fv hv vv v' y:Value}{l:List (BitVec 32)}{mvs:List (List Int)}{s:Ats}{u:List Int}{vals:List Value}(h:Rnd w2 xb mp B B3 cv l mvs s fv hv vv w)(hs:Sta w2 xb mp B B3 cv)
 (hy:OwnI w B y u) (hfar:∀g,hv.ownBlock=some g->y.ownBlock≠some g) (h1:w.ownsRow B 47 1 vv s.vs.length vals)
 (h2:∀(i:Nat) (m:List Int),s.vs[i]? =some m->∃x,vals[i]? =some x/\OwnI w B x m/\∀g,hv.ownBlock=some g->x.ownBlock≠some g)
 (ho:w'.ownsRow B 47 1 v' (s.vs.length+1) (vals++[y])) (hg:w.grownBy w' vv.ownBlock):
 Rnd w2 xb mp B B3 cv l mvs ⟨s.fr,s.wh,s.vs++[u]⟩ fv hv v' (w'.setCell ⟨xb,2,none⟩ v'):=
 h.stored hs hg (own_ge h1) (AtS.addVs' h.ats hy hfar h1 h2 ho hg) rfl
theorem infoInts:(Tryz.prog.info? 47).map (fun i=>(i.zero,i.size,i.bytes))=some (some (.slice none 0 0),1,24):=by kernel_rfl
theorem wf_i64{x:Int}(h0:0<=x)(h1:x<9223372036854775808):(Lit.int .i64 x).wf=true:=by
 have h2:x<=9223372036854775807:=by omega
 have h3: -9223372036854775808<=x:=by omega
 show(decide (-9223372036854775808<=x)&&decide (x<=9223372036854775807))=true
 rw[dT h3,dT h2];rfl
theorem zeroInt(w:World):(zeroValue 3).run Tryz.prog w=.ok (.int .i64 0) w:=by kernel_rfl
theorem atomsOf_good(lv:Value)(ls:List (List Rul))(w:World)(hl:TablesAt w lv ls)(hok:TablesOk ls)(hm:netMayV ls=0):
 Calls Tryz.prog 37 #[.agg #[lv]] w fun e w'=>∃fv hv vv l,e=.returned (.tuple #[.agg #[fv,hv,vv],I 0])/\Cuts ls.flatten l/\AtomsAt w' fv hv vv (atomsL (vecV ls) l)/\Ext w w':=by
 have HL:=Hd hl
 have HOK:=Hd hok
 have HM:=Hd hm
 have HSZ:=Hd (netMay_tabs hm).2.1
 have HNL:=Hd (netMay_tabs hm).1
 have HVB:=Hd (fun a=>vec_VecB hm a)
 obtain⟨ad,cap,rfl,a1,a2,a3⟩:=hl.form
 clear a3 hl hm hok
 unfold maxLen at a2
 have hmm:= @run_makeMap Tryz.prog
 go_enter Tryz.func37,Tryz.ntmps37
 go_upto_region 1 with(fail)
 refine hWp (fun W=>Ext w W/\Blk W w.heap.size [.slice ad ls.length cap] 43/\Blk W (w.heap.size+1) [sNil,sNil,sNil] 73)
  ⟨by(repeat with_reducible first|exact eR _|assumption|refine eA ?_ _|refine eD ?_|refine eW ?_ _|(refine eS ?_ ?_;focus(first|(simp;done)|(simp;omega)|omega))),(Blk.new w [.slice ad ls.length cap] 43).old _,Blk.newAt [sNil,sNil,sNil] (by simp)⟩ (fun W1 hW1=>?_)
 obtain⟨hx1,hb1,hr1⟩:=hW1
 have HX1:=Hd hx1
 have hbc1:=hb1.cells
 have HB1:=Hd hb1
 have HR1:=Hd hr1
 clear hr1 hx1 hb1
 have HSC:=Hd (show∀(A:World) (o:Nat) (u:Value),Ext w A->Ext w (A.setCell ⟨w.heap.size+1,o,none⟩ u)from fun A o u h=>h.setCell (by show w.heap.size<=w.heap.size+1;omega) u)
 generalize w.heap.size+1=rb at*
 generalize w.heap.size=nb at*
 go_upto_region 4 with(first
  |(go_at_call 91;(with_reducible refine(vecNew_good _ ls _ (HL.out.later HX1.out) HOK.out HM.out HSZ.out).mono ?_);rintro e w2 ⟨mk,he,hMK,hx2⟩;subst he;have HX2:=Hd (HX1.out.trans hx2);have HR2:=Hd (HR1.out.later hx2);have HB2:=Hd (HB1.out.later hx2);have HMK:=Hd hMK;clear hx2 hMK))
 clear hbc1
 go_upto_region 6 with(fail)
 refine hWp (fun W=>Ext w2 W/\Blk W w2.heap.size [sNil,sNil,sNil] 73/\MapV W (w2.heap.size+1) [])
  ⟨by(repeat with_reducible first|exact eR _|assumption|refine eA ?_ _|refine eD ?_|refine eW ?_ _|(refine eS ?_ ?_;focus(first|(simp;done)|(simp;omega)|omega))),(Blk.new w2 [sNil,sNil,sNil] 73).old _,by
    have h:=MapV.start (w2.alloc (.cells #[sNil,sNil,sNil] 73))
    rw[show(w2.alloc (.cells #[sNil,sNil,sNil] 73)).heap.size=w2.heap.size+1 by simp]at h
    exact h⟩ (fun W3 hW3=>?_)
 obtain⟨hx3,hb3,hm3⟩:=hW3
 have HX3:=Hd hx3
 have HX3':=Hd (HX2.out.trans hx3)
 have hbc3:=(HB2.out.later hx3).cells
 have HBX3:=Hd hb3
 have hbx3:=hb3
 have HMP3:=Hd hm3
 clear hx3 hb3 hm3 hmm
 have HRL:=Hd HR2.out.lt
 have HXB:=Hd hbx3.lt
 have HML:=Hd (mapV_lt HMP3.out)
 have HSX:=Hd (show∀(A:World) (o:Nat) (u:Value),Ext w2 A->Ext w2 (A.setCell ⟨w2.heap.size,o,none⟩ u)from fun A o u h=>h.setCell (Nat.le_refl _) u)
 have HGR:=Hd (show∀(A A':World) (r:Option Nat),Ext w2 A->A.grownBy A' r->(∀g,r=some g->w2.heap.size<=g)->Ext w2 A' from fun A A' r h hg hr=>Below.grown h hg h.size hr)
 have HNE:=Hd (show w2.heap.size≠w2.heap.size+1/\w2.heap.size<=w2.heap.size+1 from⟨by omega,by omega⟩)
 have HCAP:=Hd (cap_of (ls:=ls) (by have:=HSZ.out;omega))
 generalize w2.heap.size+1=mp at*
 generalize hxb:w2.heap.size=xb at*
 have HXBE:=Hd hxb
 clear hxb
 go_upto_region 8 with(first
  |(go_at_call 92;(with_reducible refine(cutsOf_any _ ls _ (HL.out.later HX3'.out) HOK.out HCAP.out).mono ?_);rintro e w4 ⟨v4,l,he,hO,hC,hx4⟩;subst he;have HC:=Hd hC;have HO4:=Hd hO;have HX4:=Hd hx4;obtain⟨ca,ccap,hcv,c1,c2,-⟩:=hO.us.form;subst hcv;clear hC hO hx4))
 clear hbc3
 unfold maxLen at c2
 have HFB:=Hd (Nat.le_refl w4.heap.size)
 have HCB:=Hd (show∀g,(Value.slice ca l.length ccap).ownBlock=some g->g<w4.heap.size from fun g hg=>(own_cells HO4.out hg).2.1)
 have HB4:=Hd (show xb<w4.heap.size/\mp<w4.heap.size/\rb<w4.heap.size/\xb<W3.heap.size/\mp<W3.heap.size from by
  have h1:=HXB.out
  have h2:=HML.out
  have h3:=HRL.out
  have h4:=HX4.out.size
  have h5:=HX3.out.size
  exact⟨by omega,by omega,by omega,h1,h2⟩)
 have HXW:=Hd (HX3.out.trans HX4.out)
 have HBX4:=Hd (HBX3.out.later HX4.out)
 have HMP4:=Hd (mapV_later HMP3.out HX4.out)
 have HSTA:=Hd (show Sta w2 xb mp w4.heap.size W3.heap.size (.slice ca l.length ccap)from⟨HB4.out.1,HB4.out.2.1,HB4.out.2.2.2.1,HNE.out.1,Nat.le_of_eq HXBE.out,by rw[HXBE.out];exact HNE.out.2,HCB.out⟩)
 have HR4:=Hd (show Rnd w2 xb mp w4.heap.size W3.heap.size (.slice ca l.length ccap) l [] Ats.nil sNil sNil sNil w4 from⟨AtS.nil _ _,HBX4.out,HMP4.out,HO4.out,HXW.out,Nat.le_refl _⟩)
 have HRB:=Hd HB4.out.2.2.1
 generalize w4.heap.size=B at*
 generalize W3.heap.size=B3 at*
 go_wp2_with fail
 go_loopw[8,28] (fun last i wr=>∃(k:Nat) (fv hv vv:Value),k<=l.length/\i=I k/\last=I (atomsL (vecV ls) (l.take k)).last/\
  Hid (Rnd w2 xb mp B B3 (.slice ca l.length ccap) l (atomsL (vecV ls) (l.take k)).vs (atomsL (vecV ls) (l.take k)) fv hv vv wr)) (fun _ i _=>l.length-(intOf i).toNat)
 case atStart=>exact⟨0,sNil,sNil,sNil,by omega,rfl,rfl,HR4.out⟩
 case round=>
  obtain⟨k,fv,hv,vv,hk,rfl,rfl,HR⟩:=hrel
  by_cases hlt:k<l.length
  ·have HST:=Hd (atomsL_step (vec:=vecV ls) hlt)
   have HSOK:=Hd (atsOk_all (vecV ls) (l.take k))
   have HFEW:=Hd (show(atomsL (vecV ls) (l.take k)).fr.length<=k by have:=ats_few (vecV ls) (l.take k);rw[List.length_take]at this;omega)
   have HLEN:=Hd (show l.length<=8193 by have h1:=HC.out.len;have h2:=HSZ.out;rw[sizeN_flat]at h1;omega)
   obtain⟨_,_,hce,_,_,c3⟩:=HR.out.cut.us.form
   obtain⟨b0,o0,he0,p0⟩:=c3 k l[k] (gE hlt)
   simp only[Value.slice.injEq,true_and]at hce
   obtain⟨rfl,rfl⟩:=hce
   subst he0
   clear c3
   generalize atomsL (vecV ls) (l.take k)=s at*
   generalize l[k]=a at*
   obtain⟨u,hu⟩:∃u,vecV ls a=u:=⟨_,rfl⟩
   have HUB:=Hd (show VecB u from by rw[<-hu];exact HVB.out a)
   have HUL:=Hd (show u.length<=1000000 from by rw[<-hu,vecV_len];have:=HNL.out;omega)
   have HUC:=Hd (show∀x∈u,-1<=x/\x<=65534 from HUB.out)
   have HU:=Hd hu
   clear hu
   obtain⟨n,D,hown,hn,hh⟩:=HR.out.map
   have HOWN:=Hd hown
   have HN:=Hd hn
   have HH:=Hd hh
   have HD:=Hd (owned_isMap hown)
   have HKEY:=Hd (keyOf_vec HUL.out)
   clear hown hh
   go_upto_region 13 with(first
    |(go_at_call 93;(with_reducible refine(vecOf_any _ mk ls a _ (HMK.out.later HR.out.ext) (netMay_tab HM.out) (by have:=HNL.out;omega)).mono ?_);rintro e w5 ⟨v5,he,hV,hx5⟩;subst he;rw[HU.out]at hV;have HV5:=Hd hV;have HX5:=Hd hx5;clear hV hx5)
    |(go_at_call 94;(with_reducible refine(key_any _ u _ HV5.out.ints HUL.out HUC.out).mono ?_);rintro e w6 ⟨he,hx6⟩;subst he;have HX6:=Hd (HX5.out.trans hx6);have HV6:=Hd (HV5.out.later hx6);have HOWN6:=Hd (owned_later HOWN.out HX6.out);clear hx6)
    |(at_lookup;refine wpList_lookup_own_ok_int _ rfl _ _ 144 rfl 9 3 .i64 lawS Tryz.underlying144 Tryz.underlying3 (zeroInt _) mp n D rfl HOWN6.out _ _ rfl HKEY.out ?_;intro c hat hwc;have HAT:=Hd hat;clear hat hwc))
   have HHU:=Hd (HH.out u HUB.out)
   have HLAST:=Hd (HSOK.out.last)
   have HR6:=Hd (HR.out.later HX6.out)
   by_cases hin:u∈s.vs
   ·have hhas:has D (keyL u)=true:=by rw[(HHU.out).1];simpa using hin
    have hc:c=(idxV s.vs u:Int):=by
     have h1:=HAT.out
     rw[(HHU.out).2 hin]at h1
     simpa using h1.symm
    have HIN:=Hd hin
    rw[hhas]
    clear hhas hin
    subst hc
    by_cases hsame:(idxV s.vs u:Int)=s.last
    ·have HK:=Hd (show kindV (idxV s.vs u:Int) true s.last=2 by unfold kindV;rw[if_pos rfl,if_pos hsame])
     have HSTP:=Hd (show atStep (vecV ls) s a=s by unfold atStep;rw[HU.out,if_pos hsame.symm])
     clear hsame
     generalize (idxV s.vs u:Int)=pl at*
     go_wp2_with (first
      |(go_at_call 95;(with_reducible refine(kind_any _ _ _ _).mono ?_);rintro e w7 ⟨he,hw⟩;rw[HK.out]at he;subst he;obtain rfl:=hw.symm))
     refine⟨⟨k+1,fv,hv,vv,by omega,by go_num,by rw[HST.out,HSTP.out],by show Rnd _ _ _ _ _ _ _ _ _ _ _ _ _;rw[HST.out,HSTP.out];exact HR6.out⟩,?_⟩
     simp[intOf];omega
    ·have HK:=Hd (show kindV (idxV s.vs u:Int) true s.last=1 by unfold kindV;rw[if_pos rfl,if_neg hsame])
     have HSTP:=Hd (show atStep (vecV ls) s a=⟨s.fr++[a],s.wh++[(idxV s.vs u:Int)],s.vs⟩by unfold atStep;rw[HU.out,if_neg (fun h=>hsame h.symm),if_pos HIN.out])
     clear hsame
     generalize (idxV s.vs u:Int)=pl at*
     go_upto_region 19 with(first
      |(go_at_call 95;(with_reducible refine(kind_any _ _ _ _).mono ?_);rintro e w7 ⟨he,hw⟩;rw[HK.out]at he;subst he;obtain rfl:=hw.symm))
     have hcA:=HR6.out.box.cells
     have HSA:=Hd (HR6.out.later ((eR w6).alloc (.cells #[U a] 23)))
     have HFA:=Hd (show(w6.alloc (.cells #[U a] 23)).ownsRow B 23 1 fv (s.fr).length (ucells s.fr)from HSA.out.ats.fr)
     have HCA:=Hd (show(w6.alloc (.cells #[U a] 23)).cell? ⟨w6.heap.size,0,none⟩=some (U a)from(Blk.new w6 [U a] 23).cells 0)
     have HLBA:=Hd (show((s.fr).length+1)*4<=140737488355328 by have:=HFEW.out;have:=HSOK.out.len;have:=HSOK.out.short;have:=HLEN.out;omega)
     go_upto_region 20 with(first
      |(at_builtin;refine wpList_app1 rfl (.tmp 64) (.tmp 66) 70 rfl B 23 _ 4 Tryz.underlying70 infoU32 rfl (by decide) fv (s.fr).length (ucells s.fr) rfl HFA.out w6.heap.size rfl (U a) HCA.out rfl HLBA.out HSA.out.sz ?_;intro v8 w8 ho8 hg8 hl8
        have hb8:=blk_grown HSA.out.box (fun g e=>by have:=own_ge HFA.out g e;have:=HSTA.out.xB;omega) hg8
        have hc8:=hb8.cells
        have hf8:=hb8.frozen
        obtain⟨faA,fcA,hfv⟩:=own_form ho8
        subst hfv
        have HRA:=Hd (HSA.out.addFr HSTA.out ho8 hg8)
        clear ho8 hg8 hl8 hb8))
     refine hWp (fun W=>Rnd _ _ _ _ _ _ _ _ _ _ _ _ W) HRA.out (fun WA hR=>?_)
     have HTA:=Hd hR
     clear hR hcA hc8 hf8
     have hcB:=HTA.out.box.cells
     have HSB:=Hd (HTA.out.later ((eR WA).alloc (.cells #[I pl] 3)))
     have HFB:=Hd (show(WA.alloc (.cells #[I pl] 3)).ownsRow B 3 1 hv (s.wh).length (icells s.wh)from HSB.out.ats.wh)
     have HCB:=Hd (show(WA.alloc (.cells #[I pl] 3)).cell? ⟨WA.heap.size,0,none⟩=some (I pl)from(Blk.new WA [I pl] 3).cells 0)
     have HLBB:=Hd (show((s.wh).length+1)*8<=140737488355328 by have:=HFEW.out;have:=HSOK.out.len;have:=HSOK.out.short;have:=HLEN.out;omega)
     go_upto_region 21 with(first
      |(at_builtin;refine wpList_app1 rfl (.tmp 70) (.tmp 72) 47 rfl B 3 _ 8 Tryz.underlying47 infoInt rfl (by decide) hv (s.wh).length (icells s.wh) rfl HFB.out WA.heap.size rfl (I pl) HCB.out rfl HLBB.out HSB.out.sz ?_;intro v8 w8 ho8 hg8 hl8
        have hb8:=blk_grown HSB.out.box (fun g e=>by have:=own_ge HFB.out g e;have:=HSTA.out.xB;omega) hg8
        have hc8:=hb8.cells
        have hf8:=hb8.frozen
        obtain⟨faB,fcB,hfv⟩:=own_form ho8
        subst hfv
        have HRB:=Hd (HSB.out.addWh HSTA.out ho8 hg8 hl8)
        clear ho8 hg8 hl8 hb8))
     refine hWp (fun W=>Rnd _ _ _ _ _ _ _ _ _ _ _ _ W) HRB.out (fun WB hR=>?_)
     have HTB:=Hd hR
     clear hR hcB hc8 hf8
     go_wp2_with fail
     refine⟨⟨k+1,_,_,vv,by omega,by go_num,by rw[HST.out,HSTP.out,last_snoc],by show Rnd _ _ _ _ _ _ _ _ _ _ _ _ _;rw[HST.out,HSTP.out];exact HTB.out⟩,?_⟩
     simp[intOf];omega
   ·have hhas:has D (keyL u)=false:=by rw[(HHU.out).1];simpa using hin
    have HIN:=Hd hin
    rw[hhas]
    clear hhas hin
    have HK:=Hd (show kindV c false s.last=0 from rfl)
    have HPL:=Hd (idxV_out HIN.out)
    have HSTP:=Hd (show atStep (vecV ls) s a=⟨s.fr++[a],s.wh++[(s.vs.length:Int)],s.vs++[u]⟩by
     unfold atStep
     have h1:=HLAST.out
     rw[HU.out,HPL.out,if_neg (by omega),if_neg HIN.out])
    obtain⟨_,hvw,_⟩:=HR6.out.ats.rows
    obtain⟨vva,vvc,hvv⟩:=own_form hvw
    subst hvv
    clear hvw
    obtain⟨va5,vc5,hv5⟩:=own_form HV6.out
    subst hv5
    have hcx:=HR6.out.box.cells
    have HN1:=Hd (show n<maxLen by have:=HN.out;have:=HFEW.out;have:=HSOK.out.len;have:=HSOK.out.short;have:=HLEN.out;unfold maxLen;omega)
    have HWF:=Hd (show(Lit.int .i64 (s.vs.length:Int)).wf=true by
     have:=HFEW.out;have:=HSOK.out.len;have:=HSOK.out.short;have:=HLEN.out
     have h5:((s.vs.length:Nat):Int)<9223372036854775808:=by omega
     exact wf_i64 (by omega) h5)
    have HBW:=Hd HR.out.sz
    have HFAR:=Hd (show∀g,hv.ownBlock=some g->(Value.slice va5 u.length vc5).ownBlock≠some g from fun g e e'=>by
     have h1:=(own_cells HR.out.ats.wh e).2.1
     have h2:=own_ge HV6.out g e'
     omega)
    go_upto_region 18 with(first
     |(go_at_call 95;(with_reducible refine(kind_any _ _ _ _).mono ?_);rintro e w7 ⟨he,hw⟩;rw[HK.out]at he;subst he;obtain rfl:=hw.symm)
     |(at_mapUpdate;refine wpList_mapUpdate_own _ rfl _ _ _ 144 rfl 9 3 lawS Tryz.underlying144 _ mp n D rfl HOWN6.out HN1.out _ _ _ rfl rfl HKEY.out _ [] (plainElem_int Tryz.underlying3 HWF.out) ?_;intro w7 hown7 hgrow7
       have HV7:=Hd (own_mapped HV6.out HOWN6.out hgrow7)
       have HR7:=Hd (HR6.out.mapped HSTA.out HOWN6.out hgrow7 (MapV.put HH.out HN.out HD.out HUB.out HIN.out hown7))
       clear hown7 hgrow7))
    clear hcx
    have hcV:=HR7.out.box.cells
    have HSV:=Hd (HR7.out.later ((eR w7).alloc (.cells #[.slice va5 u.length vc5] 47)))
    obtain⟨vals,hv1,hv2⟩:=HSV.out.ats.rows
    have HFV:=Hd (show(w7.alloc (.cells #[.slice va5 u.length vc5] 47)).ownsRow B 47 1 (.slice vva s.vs.length vvc) (s.vs).length (vals)from hv1)
    have HCV:=Hd (show(w7.alloc (.cells #[.slice va5 u.length vc5] 47)).cell? ⟨w7.heap.size,0,none⟩=some (.slice va5 u.length vc5)from(Blk.new w7 [.slice va5 u.length vc5] 47).cells 0)
    have HLBV:=Hd (show((s.vs).length+1)*24<=140737488355328 by have:=HFEW.out;have:=HSOK.out.len;have:=HSOK.out.short;have:=HLEN.out;omega)
    go_upto_region 19 with(first
     |(at_builtin;refine wpList_app1 rfl (.tmp 58) (.tmp 60) 71 rfl B 47 _ 24 Tryz.underlying71 infoInts rfl (by decide) (.slice vva s.vs.length vvc) (s.vs).length (vals) rfl HFV.out w7.heap.size rfl (.slice va5 u.length vc5) HCV.out rfl HLBV.out HSV.out.sz ?_;intro v8 w8 ho8 hg8 hl8
       have hb8:=blk_grown HSV.out.box (fun g e=>by have:=own_ge HFV.out g e;have:=HSTA.out.xB;omega) hg8
       have hc8:=hb8.cells
       have hf8:=hb8.frozen
       obtain⟨faV,fcV,hfv⟩:=own_form ho8
       subst hfv
       have HRV:=Hd (HSV.out.addVs HSTA.out (own_later (own_low HV7.out HBW.out) ((eR w7).alloc _)) HFAR.out hv1 hv2 ho8 hg8)
       clear ho8 hg8 hl8 hb8))
    refine hWp (fun W=>Rnd _ _ _ _ _ _ _ _ _ _ _ _ W) HRV.out (fun WV hR=>?_)
    have HTV:=Hd hR
    clear hR hcV hc8 hf8
    have hcA:=HTV.out.box.cells
    have HSA:=Hd (HTV.out.later ((eR WV).alloc (.cells #[U a] 23)))
    have HFA:=Hd (show(WV.alloc (.cells #[U a] 23)).ownsRow B 23 1 fv (s.fr).length (ucells s.fr)from HSA.out.ats.fr)
    have HCA:=Hd (show(WV.alloc (.cells #[U a] 23)).cell? ⟨WV.heap.size,0,none⟩=some (U a)from(Blk.new WV [U a] 23).cells 0)
    have HLBA:=Hd (show((s.fr).length+1)*4<=140737488355328 by have:=HFEW.out;have:=HSOK.out.len;have:=HSOK.out.short;have:=HLEN.out;omega)
    go_upto_region 20 with(first
     |(at_builtin;refine wpList_app1 rfl (.tmp 64) (.tmp 66) 70 rfl B 23 _ 4 Tryz.underlying70 infoU32 rfl (by decide) fv (s.fr).length (ucells s.fr) rfl HFA.out WV.heap.size rfl (U a) HCA.out rfl HLBA.out HSA.out.sz ?_;intro v8 w8 ho8 hg8 hl8
       have hb8:=blk_grown HSA.out.box (fun g e=>by have:=own_ge HFA.out g e;have:=HSTA.out.xB;omega) hg8
       have hc8:=hb8.cells
       have hf8:=hb8.frozen
       obtain⟨faA,fcA,hfv⟩:=own_form ho8
       subst hfv
       have HRA:=Hd (HSA.out.addFr HSTA.out ho8 hg8)
       clear ho8 hg8 hl8 hb8))
    refine hWp (fun W=>Rnd _ _ _ _ _ _ _ _ _ _ _ _ W) HRA.out (fun WA hR=>?_)
    have HTA:=Hd hR
    clear hR hcA hc8 hf8
    have hcB:=HTA.out.box.cells
    have HSB:=Hd (HTA.out.later ((eR WA).alloc (.cells #[I (s.vs.length:Int)] 3)))
    have HFB:=Hd (show(WA.alloc (.cells #[I (s.vs.length:Int)] 3)).ownsRow B 3 1 hv (s.wh).length (icells s.wh)from HSB.out.ats.wh)
    have HCB:=Hd (show(WA.alloc (.cells #[I (s.vs.length:Int)] 3)).cell? ⟨WA.heap.size,0,none⟩=some (I (s.vs.length:Int))from(Blk.new WA [I (s.vs.length:Int)] 3).cells 0)
    have HLBB:=Hd (show((s.wh).length+1)*8<=140737488355328 by have:=HFEW.out;have:=HSOK.out.len;have:=HSOK.out.short;have:=HLEN.out;omega)
    go_upto_region 21 with(first
     |(at_builtin;refine wpList_app1 rfl (.tmp 70) (.tmp 72) 47 rfl B 3 _ 8 Tryz.underlying47 infoInt rfl (by decide) hv (s.wh).length (icells s.wh) rfl HFB.out WA.heap.size rfl (I (s.vs.length:Int)) HCB.out rfl HLBB.out HSB.out.sz ?_;intro v8 w8 ho8 hg8 hl8
       have hb8:=blk_grown HSB.out.box (fun g e=>by have:=own_ge HFB.out g e;have:=HSTA.out.xB;omega) hg8
       have hc8:=hb8.cells
       have hf8:=hb8.frozen
       obtain⟨faB,fcB,hfv⟩:=own_form ho8
       subst hfv
       have HRB:=Hd (HSB.out.addWh HSTA.out ho8 hg8 hl8)
       clear ho8 hg8 hl8 hb8))
    refine hWp (fun W=>Rnd _ _ _ _ _ _ _ _ _ _ _ _ W) HRB.out (fun WB hR=>?_)
    have HTB:=Hd hR
    clear hR hcB hc8 hf8
    go_wp2_with fail
    refine⟨⟨k+1,_,_,_,by omega,by go_num,by rw[HST.out,HSTP.out,last_snoc],by show Rnd _ _ _ _ _ _ _ _ _ _ _ _ _;rw[HST.out,HSTP.out];exact HTB.out⟩,?_⟩
    simp[intOf];omega
  ·have hkd:decide ((k:Int)<(l.length:Int))=false:=dF (by omega)
   have HALL:=Hd (show l.take k=l from List.take_of_length_le (by omega))
   rw[HALL.out]at HR
   rw[HALL.out]
   have hc6:=HR.out.box.cells
   obtain⟨fa,fc,hfv⟩:=own_form HR.out.ats.fr
   obtain⟨ha,hcp,hhv⟩:=own_form HR.out.ats.wh
   obtain⟨_,hvw,_⟩:=HR.out.ats.rows
   obtain⟨vva,vvc,hvv⟩:=own_form hvw
   subst hfv hhv hvv
   clear hvw
   have HRR:=Hd (HR2.out.later HR.out.ext)
   have hrc:=HRR.out.cells
   have hrf:=HRR.out.frozen
   have hdone:decide (k<l.length)=false:=dF hlt
   go_wp2_with fail
   refine hideW (Φ:=fun W=>bodyPost _ _ _ _ _ W) (fun W=>Ext w W/\AtomsAt W (.slice fa (atomsL (vecV ls) l).fr.length fc) (.slice ha (atomsL (vecV ls) l).wh.length hcp) (.slice vva (atomsL (vecV ls) l).vs.length vvc) (atomsL (vecV ls) l)/\
    Blk W rb [.slice fa (atomsL (vecV ls) l).fr.length fc,.slice ha (atomsL (vecV ls) l).wh.length hcp,.slice vva (atomsL (vecV ls) l).vs.length vvc] 73)
    ⟨HSC.out _ _ _ (HSC.out _ _ _ (HSC.out _ _ _ (HX2.out.trans HR.out.ext))),(((HR.out.ats.setCell HRB.out _).setCell HRB.out _).setCell HRB.out _).at,((HRR.out.set 0 _).set 1 _).set 2 _⟩ (fun W9 hW9=>?_)
   obtain⟨hx9,ha9,hb9⟩:=hW9
   have hc9:=hb9.cells
   refine bodyPost_ret (v:=.tuple #[.agg #[.slice fa (atomsL (vecV ls) l).fr.length fc,.slice ha (atomsL (vecV ls) l).wh.length hcp,.slice vva (atomsL (vecV ls) l).vs.length vvc],I 0]) (by rw[results_cell_tmp rfl];go_simp) rfl ?_
   exact⟨_,_,_,l,rfl,HC.out,ha9,hx9⟩
theorem AtomsAt.forms{w:World}{fv hv vv:Value}{s:Ats}(h:AtomsAt w fv hv vv s):∃fa fc ha hc va vc,fv=.slice fa s.fr.length fc/\hv=.slice ha s.wh.length hc/\vv=.slice va s.vs.length vc:=by
 obtain⟨fa,fc,h1,_⟩:=h.fr.form
 obtain⟨ha,hc,h2,_⟩:=h.wh.form
 obtain⟨va,vc,h3,_⟩:=h.vs.form
 exact⟨fa,fc,ha,hc,va,vc,h1,h2,h3⟩
theorem atomsEnds_any(fv hv vv:Value)(s:Ats)(i:Int)(w:World)(h:AtomsAt w fv hv vv s)(R:Value)(hE:∀W,UsAt W fv s.fr->Calls Tryz.prog 142 #[fv,I i] W fun e w'=>e=.returned R/\Ext W w')(ht:∃a b c,R=.tuple #[a,b,c]):
 Calls Tryz.prog 99 #[.agg #[fv,hv,vv],I i] w fun e w'=>e=.returned R/\Ext w w':=by
 obtain⟨ra,rb,rc,rfl⟩:=ht
 have HF:=Hd h.fr
 have HE:=Hd hE
 obtain⟨fa,fc,ha,hc,va,vc,rfl,rfl,rfl⟩:=h.forms
 have HX:=Hd ((eR w).alloc (.cells #[.slice fa s.fr.length fc,.slice ha s.wh.length hc,.slice va s.vs.length vc] 73))
 clear h hE
 go_enter Tryz.func99,Tryz.ntmps99
 go_wp2_with (first
  |(go_at_call 142;refine(HE.out _ (HF.out.later HX.out)).mono ?_;rintro e w2 ⟨he,hx2⟩;subst he;have HX2:=Hd (HX.out.trans hx2);clear hx2))
 go_ret3
 exact⟨rfl,HX2.out⟩
theorem cloneI_any(v:Value)(l:List Int)(w:World)(hv:IntsAt w v l)(hn:l.length<=1000000):
 Calls Tryz.prog 42 #[v] w fun e w'=>∃u,e=.returned u/\OwnI w' w.heap.size u l/\Ext w w':=by
 obtain⟨a,cap,rfl,a1,a2,a3⟩:=hv.form
 have HV:=Hd hv
 clear hv
 cases a with
 |none=>
  have h0:l=[]:=by
   cases l with
   |nil=>rfl
   |cons x l=>obtain⟨_,_,h,_⟩:=a3 0 x rfl;cases h
  subst h0
  clear a3
  have hq:=fun(W:World) (n:Nat)=>Lib.run_eql_slice_nil (P:=Tryz.prog) W 47 3 none n cap 0 0 Tryz.underlying47
  go_enter Tryz.func42,Tryz.ntmps42
  go_wp2
  go_ret
  exact⟨_,rfl,⟨rfl,.inl ⟨rfl,rfl⟩⟩,eR _⟩
 |some p=>
  clear a3
  have HA:=Hd (show Ext w (w.alloc (.cells #[] 3))from(eR w).alloc _)
  have HOA:=Hd (show(w.alloc (.cells #[] 3)).ownsRow w.heap.size 3 1 (.slice (some ⟨w.heap.size,0,none⟩) 0 0) 0 []from own_made w 1 3 0 [] rfl (by unfold maxLen;omega))
  have HSRC:=Hd (HV.out.later HA.out)
  have hq:=fun(W:World) (n:Nat)=>Lib.run_eql_slice_nil (P:=Tryz.prog) W 47 3 (some p) n cap 0 0 Tryz.underlying47
  go_enter Tryz.func42,Tryz.ntmps42
  go_wp2_with (first
   |(at_builtin;refine wpList_app rfl (.tmp 5) (.tmp 6) 47 rfl w.heap.size 3 _ 1 8 Tryz.underlying47 infoInt rfl (by decide) (by decide) _ _ _ rfl HOA.out _ _ _ rfl HSRC.out (icells_one _) (by omega) HA.out.size ?_;intro v9 w9 ho9 hg9;have HO9:=Hd ho9;have HX9:=Hd (Ext.grown HA.out hg9 HOA.out (Nat.le_refl _));clear ho9 hg9))
  go_ret
  refine⟨_,rfl,?_,HX9.out⟩
  have h:=HO9.out
  unfold OwnI
  rw[Nat.zero_add,List.nil_append]at h
  exact h
end Go.Proofs.YtjflkifodfncmaaGreatDoor
