/- GAnaH, GTool: these texts in one. Conditions: each theorem names its own. -/
import Derived.Test.YtjflkifodfncmaaGreatDoorGCTk
import Derived.Test.YtjflkifodfncmaaGreatDoorGCPt
namespace Go.Proofs.YtjflkifodfncmaaGreatDoor
set_option maxHeartbeats 4000000
set_option maxRecDepth 100000
open Go.RowKit
theorem trace_iff{ls:List (List Rul)}(hm:netMayV ls=0){a:BitVec 32}{tr:List Int}:
 traceV ls a tr=0↔0<tr.length/\∀j,j<tr.length->nxv (vecV ls a) (tr.getD j 0)=tr.getD ((j+1)%tr.length) 0/\0<=tr.getD ((j+1)%tr.length) 0:=by
 constructor
 ·intro h
  have h0:0<tr.length:=by
   rcases Nat.eq_zero_or_pos tr.length with g|g
   ·unfold traceV at h;rw[if_pos g]at h;cases h
   ·exact g
  refine⟨h0,fun j hj=>?_⟩
  cases hb:trOkV ls a tr j with
  |false=>rw[traceV_no hj hb]at h;cases h
  |true=>
   unfold trOkV at hb
   have hs:=of_decide_eq_true hb
   exact⟨((step_nx hm).1 hs).1,(step_in hm hs).2.2.1⟩
 ·rintro⟨h0,h⟩
  refine traceV_yes h0 fun j hj=>?_
  unfold trOkV
  obtain⟨h1,h2⟩:=h j hj
  exact dT ((step_nx hm).2 ⟨h1,by omega⟩)
theorem wayV_getD{v:List Int}{x:Int}{m j:Nat}(h:j<m):(wayV v x m).getD j 0=itv v j x:=by
 rw[List.getD_eq_getElem?_getD,wayV_get? h];rfl
theorem trace_way{ls:List (List Rul)}(hm:netMayV ls=0){a:BitVec 32}{y:Int}(hy:OnL (vecV ls a) y){m:Nat}(h0:0<m)(hb:itv (vecV ls a) m y=y):traceV ls a (wayV (vecV ls a) y m)=0:=by
 refine(trace_iff hm).2 ⟨by rw[wayV_len];exact h0,fun j hj=>?_⟩
 rw[wayV_len]at hj ⊢
 have e:(wayV (vecV ls a) y m).getD ((j+1)%m) 0=itv (vecV ls a) (j+1) y:=by
  rw[wayV_getD (Nat.mod_lt _ h0)]
  rcases Nat.lt_or_ge (j+1) m with g|g
  ·rw[Nat.mod_eq_of_lt g]
  ·rw[show j+1=m by omega,Nat.mod_self,hb];rfl
 rw[e,wayV_getD hj]
 exact⟨(itv_out _ _ _).symm,(hy.it (vec_ok hm a) _).1⟩
theorem IsPer.it{v:List Int}{b:Int}{p:Nat}(h:IsPer v b p)(hb:0<=b)(i:Nat):IsPer v (itv v i b) p:=by
 refine⟨h.pos,by rw[<-itv_add,Nat.add_comm,itv_add,h.back],fun j h0 hj he=>?_⟩
 obtain⟨m,hm⟩:=(h.on hb).reach i
 refine h.first j h0 hj ?_
 conv=>lhs;rw[<-hm]
 rw[<-itv_add,Nat.add_comm,itv_add,he,hm]
inductive SoundIs (ls:List (List Rul)) (c:Crt):Int × Int->Prop
 |no (z:Int) (hz:z≠0):SoundIs ls c (0,z)
 |free (hm:netMayV ls=0) (hc:certMayV ls.length c=0) (h:∀a x,¬OnL (vecV ls a) x):SoundIs ls c (1,0)
 |loop (hm:netMayV ls=0) (hc:certMayV ls.length c=0) (h0:0<c.tr.length) (h1:c.tr.length<=256) (hon:OnL (vecV ls c.dest) (c.tr.getD 0 0)) (hb:itv (vecV ls c.dest) c.tr.length (c.tr.getD 0 0)=c.tr.getD 0 0):SoundIs ls c (2,0)
open Go Go.Maps Go.Proofs
theorem AtomsIt.within{ls:List (List Rul)}{l:List (BitVec 32)}{s:Ats}(h:AtomsIt ls l s)(hC:Cuts ls.flatten l){i:Nat}(hi:i<s.fr.length){a:BitVec 32}(h1:uv s.fr[i]<=uv a)(h2:uv a<=uv (endV s.fr i)):vecV ls a=vecV ls s.fr[i]:=by
 have h3:ivN s.fr a=i:=by
  unfold ivN
  rw[atN_eq h.rise hi h1 (fun hj=>?_)]
  ·rfl
  ·have:=end_pos h.rise hj;omega
 have h4:=h.vec hC a
 simp only[h3]at h4
 exact h4.symm
theorem ranks_fall{ls:List (List Rul)}(hm:netMayV ls=0){a:BitVec 32}{r:List Int}(hr:RanksIs (vecV ls a) r){v:Nat}(hv:v<ls.length):badS ls r a v=false:=by
 have h:=holds_ok (l:=[]) hm hr
 rw[one_pt,fallV_zero]at h
 exact h a (List.mem_singleton.2 rfl) v hv
theorem ana_holds{ls:List (List Rul)}{l:List (BitVec 32)}{c:Crt}(hm:netMayV ls=0)(hC:Cuts ls.flatten l)(h:AnaIs ls c):certMayV ls.length c=0/\ansV l ls c=(c.vd,0):=by
 have hF:=h.facts hm
 have hI:=atomsIt hC
 have hsz:=(netMay_tabs hm).2.1
 rcases h.at hC with⟨i,h⟩|h
 ·obtain⟨b,p,h1,h2,h3⟩:=h.loop.cons h.ne
  have h0:0<=b:=h1.1.1
  have hv:=vec_ok hm c.dest
  have hL:LoopOk ls.length c:=by
   refine⟨h.vd,h.ps,List.length_pos_iff.2 h.ne,hF.tr,hF.trb,?_⟩
   refine trG_no c.tr [] (by rw[List.nil_append,h3];exact h2.nodup) fun x hx=>?_
   have hd:c.tr.headD 0=b:=by
    rw[h3]
    have:=h2.pos
    obtain⟨q,rfl⟩:∃q,p=q+1:=⟨p-1,by omega⟩
    unfold wayV
    rw[List.range_succ_eq_map,List.map_cons];rfl
   rw[hd]
   rw[h3]at hx
   obtain⟨j,_,rfl⟩:=wayV_mem.1 hx
   exact h1.2 _ (h1.1.it hv j)
  have ht:traceV ls c.dest c.tr=0:=by rw[h3];exact trace_way hm h1.1 h2.pos h2.back
  refine⟨hL.may,?_⟩
  rw[ans_loop hm hL,if_neg (by rw[ht];simp)]
 ·have hfew:c.ps.length<=8193:=by have:=hF.few;omega
  have hmeet:meetV c.ps=0:=meet_cuts hI.rise hI.zero h.len fun i hi p hp=>by
   obtain⟨p',r,g1,_,g3,g4,_⟩:=h.parts i _ (gE hi)
   rw[hp]at g1
   obtain rfl:=Option.some.inj g1
   exact⟨g3,g4⟩
  have hR:FreeOk ls.length c:=⟨h.vd,h.dest,h.tr,hfew,hmeet,rksV_zero _ _ fun r hr=>⟨by have:=(hF.rks r hr).1;omega,(hF.rks r hr).2⟩⟩
  refine⟨hR.may,?_⟩
  rw[ans_free hm hR]
  have hz:partsZ l ls (c.ps.zip c.rks)=0:=by
   refine partsZ_all fun q hq=>?_
   obtain⟨i,hi⟩:=List.getElem?_of_mem hq
   rw[List.getElem?_zip_eq_some]at hi
   obtain⟨hi1,hi2⟩:=hi
   have hil:i<(atomsL (vecV ls) l).fr.length:=by rw[<-h.len];exact(List.getElem?_eq_some_iff.1 hi1).1
   obtain⟨p',r,g1,g2,g3,g4,g5⟩:=h.parts i _ (gE hil)
   rw[hi1]at g1
   rw[hi2]at g2
   have e1:=Option.some.inj g1
   have e2:=Option.some.inj g2
   rw[e1,e2,partV_eq (by rw[g5.1,vecV_len]),g3,g4,fall_iff hC (end_ge hI.rise hil)]
   intro a ha1 ha2 v hv
   refine ranks_fall hm ?_ hv
   rw[hI.within hC hil ha1 ha2]
   exact g5
  rw[if_neg (by rw[hz];simp),h.vd]
theorem partV_congr{p q:Prt}(h1:p.fr=q.fr)(h2:p.up=q.up)(l:List (BitVec 32))(ls:List (List Rul))(r:List Int):partV l ls p r=partV l ls q r:=by
 unfold partV;rw[h1,h2]
theorem partsZ_congr(l:List (BitVec 32))(ls:List (List Rul)):∀{ps qs:List Prt} (rks:List (List Int)),ps.map (fun p=>(p.fr,p.up))=qs.map (fun p=>(p.fr,p.up))->partsZ l ls (ps.zip rks)=partsZ l ls (qs.zip rks)
 |[],[],_,_=>rfl
 |[],q::qs,_,h=>by simp at h
 |p::ps,[],_,h=>by simp at h
 |p::ps,q::qs,[],_=>rfl
 |p::ps,q::qs,r::rks,h=>by
  simp only[List.map_cons,List.cons.injEq,Prod.mk.injEq]at h
  obtain⟨⟨h1,h2⟩,h3⟩:=h
  rw[List.zip_cons_cons,List.zip_cons_cons]
  unfold partsZ
  rw[partV_congr h1 h2,partsZ_congr l ls rks h3]
theorem ansV_congr{c d:Crt}(h:CrtEq c d)(l:List (BitVec 32))(ls:List (List Rul)):ansV l ls c=ansV l ls d:=by
 unfold ansV
 rw[certMayV_congr h,h.vd,h.dest,h.tr,h.rks,partsZ_congr l ls d.rks h.ps]
noncomputable def cutL(ls:List (List Rul)):List (BitVec 32):=(cuts_exist ls.flatten).choose
theorem cutL_is(ls:List (List Rul)):Cuts ls.flatten (cutL ls):=(cuts_exist ls.flatten).choose_spec
noncomputable def chkV(f c:List Byt):Int × Int:=
 match netTake f with
 | .error z=>(0,z)
 | .ok ls=>match certTake c with
   | .error z=>(0,z)
   | .ok q=>if q.2≠ls.length then(0,1)else ansV (cutL ls) ls q.1
theorem chk_bad{f c:List Byt}{z:Int}(h:netTake f=.error z):chkV f c=(0,z):=by unfold chkV;rw[h]
theorem chk_badC{f c:List Byt}{z:Int}{ls:List (List Rul)}(h:netTake f=.ok ls)(k:certTake c=.error z):chkV f c=(0,z):=by unfold chkV;rw[h];simp only;rw[k]
theorem chk_size{f c:List Byt}{q:Crt × Nat}{ls:List (List Rul)}(h:netTake f=.ok ls)(k:certTake c=.ok q)(hn:q.2≠ls.length):chkV f c=(0,1):=by unfold chkV;rw[h];simp only;rw[k];simp only;rw[if_pos hn]
theorem chk_good{f c:List Byt}{q:Crt × Nat}{ls:List (List Rul)}(h:netTake f=.ok ls)(k:certTake c=.ok q)(hn:q.2=ls.length):chkV f c=ansV (cutL ls) ls q.1:=by unfold chkV;rw[h];simp only;rw[k];simp only;rw[if_neg (by simp[hn])]
theorem certP_len{n:Nat}{c:Crt}(hn:n<=256)(hlen:c.rks.length=c.ps.length)(hm:certMayV n c=0):(certPut c n).length<=100000000:=by
 unfold certPut
 rw[fput_len]
 have h1:=(gsize_bd n).2
 have h2:=(gsize_bd c.ps.length).2
 have h3:=(gsize_bd c.tr.length).2
 unfold certB
 rw[List.length_append,beN_len,List.length_append,gput_len]
 by_cases hv:c.vd=1
 ·have hf:=free_ok hm hv
  have h4:=partsB_len hn (c.ps.zip c.rks) fun q hq=>by
   have:=(rksV_all hf.rks q.2 (List.of_mem_zip hq).2).1
   omega
  have h5:=hf.few
  rw[List.length_zip]at h4
  rw[if_pos hv,List.length_append,gput_len]
  omega
 ·have hL:=loop_ok hm hv
  have h4:=groupsB_len c.tr
  have h5:=hL.few
  rw[if_neg hv,List.length_append,be4_len,List.length_append,gput_len]
  omega
def AnOut(w:World)(l:List Byt)(e:Ending)(w':World):Prop:=
 (match netTake l with
  | .error z=>z≠0/\e=.returned (.tuple #[.slice none 0 0,I z])
  | .ok ls=>∃c u,AnaIs ls c/\c.rks.length=c.ps.length/\certMayV ls.length c=0/\e=.returned (.tuple #[u,I 0])/\OwnY w' w.heap.size u (certPut c ls.length))/\Ext w w'
theorem CertAt.in64{w:World}{pv tv:Value}{c:Crt}{n:Nat}(_:CertAt w pv tv c)(hm:certMayV n c=0)(hn:n<=256):∀x∈c.tr,In64 x:=may_in64 hm hn
theorem toolAnalyze_any(v:Value)(l:List Byt)(w:World)(h:BsAt w v l)(hl:l.length<=1000000000):Calls Tryz.prog 6 #[v] w (AnOut w l):=by
 have HN:=Hd (netfileTake_any v l w h hl)
 obtain⟨a,cap,rfl,-⟩:=h.form
 clear h
 cases ht:netTake l with
 |error z=>
  have HT:=Hd ht
  clear ht
  go_enter Tryz.func6,Tryz.ntmps6
  go_upto_region 2 with(first
   |(go_at_call 14
     go_loud(
      (with_reducible refine HN.out.mono ?_)
      rintro e w2 ⟨h1,hx⟩
      rw[HT.out]at h1
      obtain⟨hz,he⟩:=h1
      subst he
      have HX2:=Hd hx
      have HZ:=Hd hz
      clear hx hz)))
  refine hWp (fun W=>Ext w2 W) (by(repeat with_reducible first|exact eR _|assumption|refine eA ?_ _|refine eD ?_|refine eW ?_ _|(refine eS ?_ ?_;focus(first|(simp;done)|(simp;omega)|omega)))) (fun W3 hW3=>?_)
  have HX3:=Hd (HX2.out.trans hW3)
  have hzb:(z !=0)=true:=by simp[HZ.out]
  clear hW3
  go_wp2_with fail
  go_ret2
  unfold AnOut
  rw[HT.out]
  exact⟨⟨HZ.out,rfl⟩,HX3.out⟩
 |ok ls=>
  have HT:=Hd ht
  have HM:=Hd (netTake_may ht)
  clear ht
  have hlen:=(netMay_tabs HM.out).1
  go_enter Tryz.func6,Tryz.ntmps6
  go_upto_region 2 with(first
   |(go_at_call 14
     go_loud(
      (with_reducible refine HN.out.mono ?_)
      rintro e w2 ⟨h1,hx⟩
      rw[HT.out]at h1
      obtain⟨u2,he,ho⟩:=h1
      obtain⟨va,vc,hue,-⟩:=ho.read.form
      subst hue
      subst he
      have HX2:=Hd hx
      have HR2:=Hd ho.read
      clear hx ho)))
  refine hBk w2 [.slice va ls.length vc] 43 (fun W3 hW3=>?_)
  obtain⟨hx3,hb3⟩:=hW3
  have HX3:=Hd (HX2.out.trans hx3)
  have HB3:=Hd hb3
  have hnc:=hb3.cells
  have HOK:=Hd (may_ok HM.out)
  have HA:=Hd (aNet_good _ ls W3 (HR2.out.later hx3) HOK.out HM.out)
  clear hx3 hb3
  generalize w2.heap.size=nb at*
  go_upto_region 5 with(first
   |(go_at_call 15
     go_loud(
      (with_reducible refine HA.out.mono ?_)
      rintro e w4 ⟨pv,tv,c,he,hc,ha,hx⟩
      obtain⟨pa,pc,hpe,-⟩:=hc.parts.form
      obtain⟨ta,tc,hte,-⟩:=hc.tr.form
      subst hpe
      subst hte
      subst he
      have HX4:=Hd (HX3.out.trans hx)
      have HB4:=Hd (HB3.out.later hx)
      have HC4:=Hd hc
      have HA4:=Hd ha
      clear hx hc ha hnc)))
  refine hBk w4 [I c.vd,.slice pa c.ps.length pc,U c.dest,.slice ta c.tr.length tc] 49 (fun W5 hW5=>?_)
  obtain⟨hx5,hb5⟩:=hW5
  have HX5:=Hd (HX4.out.trans hx5)
  have hcc:=hb5.cells
  have hnc:=(HB4.out.later hx5).cells
  have HC5:=Hd (HC4.out.later hx5)
  have HMC:=Hd (ana_holds HM.out (cutL_is ls) HA4.out).1
  have HP:=Hd (certfilePut_any _ _ c ls.length W5 HC5.out HMC.out hlen)
  clear hx5 hb5
  generalize w4.heap.size=cb at*
  go_wp2_with (first
   |(go_at_call 16
     go_loud(
      (with_reducible refine HP.out.mono ?_)
      rintro e w6 ⟨u6,he,ho,hx⟩
      obtain⟨ua,uc,hue⟩:=ho.form
      subst hue
      subst he
      have HX6:=Hd (HX5.out.trans hx)
      have HO6:=Hd (ho.low HX5.out.size)
      clear hx ho)))
  go_ret2
  unfold AnOut
  rw[HT.out]
  exact⟨⟨c,_,HA4.out,HC4.out.len,HMC.out,rfl,HO6.out⟩,HX6.out⟩
theorem toolCheck_any(v u:Value)(f c:List Byt)(w:World)(h:BsAt w v f)(hl:f.length<=1000000000)(k:BsAt w u c)(kl:c.length<=1000000000):
 Calls Tryz.prog 10 #[v,u] w fun e w'=>e=.returned (.agg #[I (chkV f c).1,I (chkV f c).2])/\Ext w w':=by
 have HH:=Hd h
 have HK:=Hd k
 obtain⟨a,cap,rfl,-⟩:=h.form
 obtain⟨a2,cap2,rfl,-⟩:=k.form
 clear h k
 go_enter Tryz.func10,Tryz.ntmps10
 go_upto_region 1 with fail
 refine hBk w [I 0,I 0] 33 (fun W1 hW1=>?_)
 obtain⟨hx1,hb1⟩:=hW1
 have HX1:=Hd hx1
 have HB1:=Hd hb1
 have HN:=Hd (netfileTake_any _ f W1 (HH.out.later hx1) hl)
 clear hx1 hb1
 generalize hab:w.heap.size=ab at*
 have HAB:=Hd (show w.heap.size<=ab from Nat.le_of_eq hab)
 clear hab
 cases ht:netTake f with
 |error z=>
  have HT:=Hd ht
  clear ht
  go_upto_region 2 with(first
   |(go_at_call 14
     go_loud(
      (with_reducible refine HN.out.mono ?_)
      rintro e w2 ⟨h1,hx⟩
      rw[HT.out]at h1
      obtain⟨hz,he⟩:=h1
      subst he
      have HX2:=Hd (HX1.out.trans hx)
      have HZ:=Hd hz
      have HB2:=Hd (HB1.out.later hx)
      clear hx hz)))
  refine hWp (fun W=>Ext w2 W) (by(repeat with_reducible first|exact eR _|assumption|refine eA ?_ _|refine eD ?_|refine eW ?_ _|(refine eS ?_ ?_;focus(first|(simp;done)|(simp;omega)|omega)))) (fun W3 hW3=>?_)
  have HX3:=Hd (HX2.out.trans hW3)
  have HB3:=Hd (HB2.out.later hW3)
  have hzb:(z !=0)=true:=by simp[HZ.out]
  have hbf:=HB3.out.frozen
  have hbc:=HB3.out.cells
  clear hW3
  go_wp2_with fail
  refine hideW (Φ:=fun W=>bodyPost _ _ _ _ _ W) (fun W=>Ext w W/\Blk W ab [I 0,I z] 33) ⟨(HX3.out.setCell HAB.out _).setCell HAB.out _,(HB3.out.set 0 _).set 1 _⟩ (fun W9 hW9=>?_)
  obtain⟨hx9,hb9⟩:=hW9
  have hbc:=hb9.cells
  refine bodyPost_ret (v:=.agg #[I 0,I z]) (by rw[results_cell1 rfl];go_simp) rfl ?_
  rw[chk_bad HT.out]
  exact⟨rfl,hx9⟩
 |ok ls=>
  have HT:=Hd ht
  have HM:=Hd (netTake_may ht)
  clear ht
  go_upto_region 2 with(first
   |(go_at_call 14
     go_loud(
      (with_reducible refine HN.out.mono ?_)
      rintro e w2 ⟨h1,hx⟩
      rw[HT.out]at h1
      obtain⟨u2,he,ho⟩:=h1
      obtain⟨va,vc,hue,-⟩:=ho.read.form
      subst hue
      subst he
      have HX2:=Hd (HX1.out.trans hx)
      have HR2:=Hd ho.read
      have HB2:=Hd (HB1.out.later hx)
      clear hx ho)))
  refine hBk w2 [.slice va ls.length vc] 43 (fun W3 hW3=>?_)
  obtain⟨hx3,hb3⟩:=hW3
  have HX3:=Hd (HX2.out.trans hx3)
  have HB3:=Hd (HB2.out.later hx3)
  have HN3:=Hd hb3
  have HR3:=Hd (HR2.out.later hx3)
  have HCT:=Hd (certfileTake_any _ c W3 (HK.out.later HX3.out) kl)
  clear hx3 hb3
  generalize w2.heap.size=nb at*
  cases hct:certTake c with
  |error z=>
   have HC:=Hd hct
   clear hct
   go_upto_region 5 with(first
    |(go_at_call 24
      go_loud(
       (with_reducible refine HCT.out.mono ?_)
       rintro e w4 ⟨h1,hx⟩
       rw[HC.out]at h1
       obtain⟨hz,he⟩:=h1
       subst he
       have HX4:=Hd (HX3.out.trans hx)
       have HZ:=Hd hz
       have HB4:=Hd (HB3.out.later hx)
       clear hx hz)))
   refine hWp (fun W=>Ext w4 W) (by(repeat with_reducible first|exact eR _|assumption|refine eA ?_ _|refine eD ?_|refine eW ?_ _|(refine eS ?_ ?_;focus(first|(simp;done)|(simp;omega)|omega)))) (fun W5 hW5=>?_)
   have HX5:=Hd (HX4.out.trans hW5)
   have HB5:=Hd (HB4.out.later hW5)
   have hzb:(z !=0)=true:=by simp[HZ.out]
   have hbf:=HB5.out.frozen
   have hbc:=HB5.out.cells
   clear hW5
   go_wp2_with fail
   refine hideW (Φ:=fun W=>bodyPost _ _ _ _ _ W) (fun W=>Ext w W/\Blk W ab [I 0,I z] 33) ⟨(HX5.out.setCell HAB.out _).setCell HAB.out _,(HB5.out.set 0 _).set 1 _⟩ (fun W9 hW9=>?_)
   obtain⟨hx9,hb9⟩:=hW9
   have hbc:=hb9.cells
   refine bodyPost_ret (v:=.agg #[I 0,I z]) (by rw[results_cell1 rfl];go_simp) rfl ?_
   rw[chk_badC HT.out HC.out]
   exact⟨rfl,hx9⟩
  |ok q=>
   obtain⟨d,n⟩:=q
   have HC:=Hd hct
   have HCP:=Hd (certPut_take hct)
   clear hct
   go_upto_region 5 with(first
    |(go_at_call 24
      go_loud(
       (with_reducible refine HCT.out.mono ?_)
       rintro e w4 ⟨h1,hx⟩
       rw[HC.out]at h1
       obtain⟨pv,tv,c4,he,hc4,hq4⟩:=h1
       obtain⟨pa,pc,hpe,-⟩:=hc4.parts.form
       obtain⟨ta,tc,hte,-⟩:=hc4.tr.form
       subst hpe
       subst hte
       subst he
       have HX4:=Hd (HX3.out.trans hx)
       have HC4:=Hd hc4
       have HQ4:=Hd hq4
       have HB4:=Hd (HB3.out.later hx)
       have HN4:=Hd (HN3.out.later hx)
       have HR4:=Hd (HR3.out.later hx)
       clear hx hc4 hq4)))
   refine hBk w4 [I c4.vd,.slice pa c4.ps.length pc,U c4.dest,.slice ta c4.tr.length tc] 49 (fun W5 hW5=>?_)
   obtain⟨hx5,hb5⟩:=hW5
   have HX5:=Hd (HX4.out.trans hx5)
   have HB5:=Hd (HB4.out.later hx5)
   have hcc:=hb5.cells
   have hnc:=(HN4.out.later hx5).cells
   have HC5:=Hd (HC4.out.later hx5)
   have HR5:=Hd (HR4.out.later hx5)
   clear hx5 hb5
   generalize w4.heap.size=cb at*
   by_cases hn:n=ls.length
   ·have hnb:((n:Int) !=(ls.length:Int))=false:=by simp[hn]
    have HG:=Hd (chk_good HT.out HC.out hn)
    have HOK:=Hd (may_ok HM.out)
    have hsz:=(netMay_tabs HM.out).2.1
    have HK5:=Hd (checkNet_any _ _ _ ls c4 (cutL ls) W5 HR5.out HOK.out (by omega) (cutL_is ls) HC5.out (HC5.out.in64 (n:=n) (by rw[certMayV_congr HQ4.out];exact HCP.out.2.1) HCP.out.2.2))
    have HAE:=Hd (show ansV (cutL ls) ls c4=chkV f c by rw[HG.out,ansV_congr HQ4.out])
    clear hn hsz
    rw[HAE.out]at HK5
    obtain⟨an,han⟩:∃an,an=chkV f c:=⟨_,rfl⟩
    rw[<-han]at HK5
    have HAN:=Hd han
    clear han
    go_wp2_with (first
     |(go_at_call 25
       go_loud(
        (with_reducible refine HK5.out.mono ?_)
        rintro e w6 ⟨he,hx⟩
        subst he
        have HX6:=Hd (HX5.out.trans hx)
        have HB6:=Hd (HB5.out.later hx)
        clear hx hcc hnc
        have hbf:=HB6.out.frozen
        have hbc:=HB6.out.cells)))
    refine hideW (Φ:=fun W=>bodyPost _ _ _ _ _ W) (fun W=>Ext w W/\Blk W ab [I an.1,I an.2] 33) ⟨(HX6.out.setCell HAB.out _).setCell HAB.out _,(HB6.out.set 0 _).set 1 _⟩ (fun W9 hW9=>?_)
    obtain⟨hx9,hb9⟩:=hW9
    have hbc:=hb9.cells
    refine bodyPost_ret (v:=.agg #[I an.1,I an.2]) (by rw[results_cell1 rfl];go_simp) rfl ?_
    rw[<-HAN.out]
    exact⟨rfl,hx9⟩
   ·have hnb:((n:Int) !=(ls.length:Int))=true:=by simp;omega
    have HG:=Hd (chk_size HT.out HC.out hn)
    have hbf:=HB5.out.frozen
    have hbc:=HB5.out.cells
    clear hn
    go_wp2_with fail
    refine hideW (Φ:=fun W=>bodyPost _ _ _ _ _ W) (fun W=>Ext w W/\Blk W ab [I 0,I 1] 33) ⟨(HX5.out.setCell HAB.out _).setCell HAB.out _,(HB5.out.set 0 _).set 1 _⟩ (fun W9 hW9=>?_)
    obtain⟨hx9,hb9⟩:=hW9
    have hbc:=hb9.cells
    refine bodyPost_ret (v:=.agg #[I 0,I 1]) (by rw[results_cell1 rfl];go_simp) rfl ?_
    rw[HG.out]
    exact⟨rfl,hx9⟩
end Go.Proofs.YtjflkifodfncmaaGreatDoor
