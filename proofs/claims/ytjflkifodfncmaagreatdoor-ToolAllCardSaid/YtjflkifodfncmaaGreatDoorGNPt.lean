/- NPutW, RowW: these texts in one. Conditions: each theorem names its own. -/
import Derived.Test.YtjflkifodfncmaaGreatDoorGRulW
namespace Go.Proofs.YtjflkifodfncmaaGreatDoor
set_option maxHeartbeats 4000000
set_option maxRecDepth 100000
open Go Go.RowKit Go.Maps Go.Proofs
theorem flatB_step{α β:Type}{f:α->List β}{l:List α}{k:Nat}(h:k<l.length):(l.take (k+1)).flatMap f=(l.take k).flatMap f++f l[k]:=by
 rw[List.take_succ_eq_append_getElem h,List.flatMap_append]
 simp
theorem putRules_any(lv:Value)(l:List Rul)(w:World)(hl:RulesAt w lv l)(hb:∀r∈l,RulB r)(hn:l.length<=4096):
 Calls Tryz.prog 82 #[lv,fnV 83] w fun e w'=>∃u,e=.returned (.tuple #[u,I 0])/\OwnY w' w.heap.size u (gput l.length++l.flatMap ruleB)/\Ext w w':=by
 obtain⟨a,cap,rfl,a1,a2,a3⟩:=hl.form
 have A3:=Hd a3
 have HB:=Hd hb
 clear hl a3 hb
 unfold maxLen at a2
 have HG:=Hd (fun w=>groupPut_any l.length (by omega) w)
 have hgs:=gsize_bd l.length
 have HLN:=Hd (show∀k,(gput l.length++(l.take k).flatMap ruleB).length<=40000 from fun k=>by
  rw[List.length_append,gput_len,flat8,List.length_take];omega)
 clear hgs
 have HE:=Hd (show gput l.length++(l.take l.length).flatMap ruleB=gput l.length++l.flatMap ruleB by rw[List.take_length])
 go_enter Tryz.func82,Tryz.ntmps82
 go_upto_region 2 with(first
  |(go_at_call 81;(with_reducible refine(HG.out _).mono ?_);rintro e w1 ⟨v1,he,ho,hx⟩;obtain⟨va,vc,hve⟩:=ho.form;subst hve;subst he;have HO1:=Hd (show OwnY w1 w.heap.size _ (gput l.length++(l.take 0).flatMap ruleB)from by simpa using ho);have HX1:=Hd hx;clear ho hx))
 go_wp2_with fail
 go_loopw[6,23] (fun v i wr=>∃k:Nat,k<=l.length/\i=I k/\Hid (OwnY wr w.heap.size v (gput l.length++(l.take k).flatMap ruleB))/\Hid (Ext w wr)) (fun _ i _=>l.length-(intOf i).toNat)
 case atStart=>exact⟨0,by omega,rfl,HO1,HX1⟩
 case round=>
  obtain⟨k,hk,rfl,HO,HX⟩:=hrel
  by_cases hlt:k<l.length
  ·obtain⟨b0,o0,rfl,p0,p1,p2,p3⟩:=A3.out k l[k] (gE hlt)
   replace p0:=HX.out.cell p0
   replace p1:=HX.out.cell p1
   replace p2:=HX.out.cell p2
   replace p3:=HX.out.cell p3
   have HR:=Hd (HB.out _ (List.getElem_mem hlt))
   have HS:=Hd (show gput l.length++(l.take (k+1)).flatMap ruleB=(gput l.length++(l.take k).flatMap ruleB)++ruleB l[k]by rw[flatB_step hlt,List.append_assoc])
   have HL:=Hd (HLN.out k)
   generalize l[k]=r at*
   generalize gput l.length++(l.take k).flatMap ruleB=L at*
   obtain⟨va,vc,hve⟩:=HO.out.form
   subst hve
   have hik:(I (k:Int))=I (k:Int):=rfl
   go_upto_region 7 with fail
   refine hBk wr [U r.pa,I r.pl,I r.act,I r.nx] 39 (fun W5 hW5=>?_)
   obtain⟨hx5,hb5⟩:=hW5
   have HX5:=Hd (HX.out.trans hx5)
   have hrc:=hb5.cells
   have HO5:=Hd (HO.out.later hx5)
   clear hx5 hb5 p0 p1 p2 p3
   generalize wr.heap.size=gb at*
   have HRL:=Hd (ruleB_len r)
   go_wp2_with (first
    |(go_at_call 83;(with_reducible refine(rulePut_any r HR.out _).mono ?_);rintro e w6 ⟨v6,he,ho,hx⟩;obtain⟨a6,c6,e6⟩:=ho.form;subst e6;subst he;have HY6:=Hd ho.bs;have HO6:=Hd (HO5.out.later hx);have HX6:=Hd (HX5.out.trans hx);clear ho hx)
    |(at_builtin;refine wpList_app rfl _ _ 22 rfl w.heap.size 5 (.int .u8 0) 1 1 Tryz.underlying22 infoU8' rfl (by decide) (by decide) _ _ _ rfl HO6.out _ _ _ rfl HY6.out (ycells_one _) (by have:=HL.out;rw[HRL.out];omega) HX6.out.size ?_
      intro v8 w8 ho8 hg8;have HO8:=Hd (show OwnY w8 w.heap.size v8 (gput l.length++(l.take (k+1)).flatMap ruleB)by rw[HS.out];unfold OwnY;rw[ycells_app,List.length_append];exact ho8);have HX8:=Hd (Ext.grown HX6.out hg8 HO6.out (Nat.le_refl _));clear ho8 hg8))
   go_roundw
   case rel=>exact⟨k+1,by omega,by go_num,HO8,HX8⟩
   case measure=>simp[intOf];omega
  ·obtain rfl:k=l.length:=by omega
   rw[HE.out]at HO
   go_wp2_with fail
   go_ret2
   exact⟨_,rfl,HO.out,HX.out⟩
theorem nodeB_len(l:List Rul)(h:l.length<=4096):(nodeB l).length<=32800:=by
 have h1:=gsize_bd l.length
 have h2:=gsize_bd (gput l.length++l.flatMap ruleB).length
 unfold nodeB sectB
 rw[List.length_cons,List.length_append,gput_len,List.length_append,gput_len,flat8]
 rw[List.length_append,gput_len,flat8]at h2
 omega
theorem nodesB_len(ls:List (List Rul))(h:∀l∈ls,l.length<=4096):(ls.flatMap nodeB).length<=ls.length*32800:=by
 induction ls with
 |nil=>simp
 |cons l ls ih=>
  have h1:=nodeB_len l (h l (List.mem_cons_self ..))
  have h2:=ih fun x hx=>h x (List.mem_cons_of_mem _ hx)
  rw[List.flatMap_cons,List.length_append,List.length_cons]
  omega
theorem putNode_any(lv:Value)(l:List Rul)(w:World)(hl:RulesAt w lv l)(hb:∀r∈l,RulB r)(hn:l.length<=4096):
 Calls Tryz.prog 32 #[lv] w fun e w'=>∃u,e=.returned (.tuple #[u,I 0])/\OwnY w' w.heap.size u (nodeB l)/\Ext w w':=by
 have HL:=Hd hl
 have HB:=Hd hb
 obtain⟨a,cap,rfl,a1,a2,a3⟩:=hl.form
 have HLN:=Hd (show(gput l.length++l.flatMap ruleB).length<=268435455 by
  have h1:=gsize_bd l.length
  rw[List.length_append,gput_len,flat8];omega)
 have HSC:=Hd (show∀(v:Value) (w:World),BsAt w v (gput l.length++l.flatMap ruleB)->Calls Tryz.prog 84 #[.int .u8 84,v] w fun e w'=>∃u,e=.returned (.tuple #[u,I 0])/\OwnY w' w.heap.size u (nodeB l)/\Ext w w' from fun v w h=>frameSection_any 84#8 v _ w h HLN.out)
 have HPR:=Hd (putRules_any _ l w HL.out HB.out hn)
 clear hl hb a3
 generalize gput l.length++l.flatMap ruleB=L at*
 go_enter Tryz.func32,Tryz.ntmps32
 go_wp2_with (first
  |(go_at_call 82;(with_reducible refine HPR.out.mono ?_);rintro e w1 ⟨v1,he,ho,hx⟩;obtain⟨va,vc,hve⟩:=ho.form;subst hve;subst he;have HY1:=Hd ho.bs;have HX1:=Hd hx;clear ho hx)
  |(go_at_call 84;(with_reducible refine(HSC.out _ _ HY1.out).mono ?_);rintro e w2 ⟨v2,he,ho,hx⟩;subst he;have HO2:=Hd (ho.low HX1.out.size);have HX2:=Hd (HX1.out.trans hx);clear ho hx))
 go_ret2
 exact⟨_,rfl,HO2.out,HX2.out⟩
theorem putRows_any(lv:Value)(ls:List (List Rul))(w:World)(hl:TablesAt w lv ls)(hb:∀l∈ls,(∀r∈l,RulB r)/\l.length<=4096)(hn:ls.length<=256):
 Calls Tryz.prog 31 #[lv,fnV 32] w fun e w'=>∃u,e=.returned (.tuple #[u,I 0])/\OwnY w' w.heap.size u (netB ls)/\Ext w w':=by
 obtain⟨a,cap,rfl,a1,a2,a3⟩:=hl.form
 have A3:=Hd a3
 have HB:=Hd hb
 clear hl a3
 unfold maxLen at a2
 have HG:=Hd (fun w=>groupPut_any ls.length (by omega) w)
 have hgs:=gsize_bd ls.length
 have HLN:=Hd (show∀k,(gput ls.length++(ls.take k).flatMap nodeB).length<=10000000 from fun k=>by
  have:=nodesB_len (ls.take k) (fun x hx=>(hb x (List.mem_of_mem_take hx)).2)
  rw[List.length_take]at this
  rw[List.length_append,gput_len];omega)
 clear hgs hb
 have HE:=Hd (show gput ls.length++(ls.take ls.length).flatMap nodeB=netB ls by rw[List.take_length];rfl)
 go_enter Tryz.func31,Tryz.ntmps31
 go_upto_region 2 with(first
  |(go_at_call 81;(with_reducible refine(HG.out _).mono ?_);rintro e w1 ⟨v1,he,ho,hx⟩;obtain⟨va,vc,hve⟩:=ho.form;subst hve;subst he;have HO1:=Hd (show OwnY w1 w.heap.size _ (gput ls.length++(ls.take 0).flatMap nodeB)from by simpa using ho);have HX1:=Hd hx;clear ho hx))
 go_wp2_with fail
 go_loopw[6,23] (fun v i wr=>∃k:Nat,k<=ls.length/\i=I k/\Hid (OwnY wr w.heap.size v (gput ls.length++(ls.take k).flatMap nodeB))/\Hid (Ext w wr)) (fun _ i _=>ls.length-(intOf i).toNat)
 case atStart=>exact⟨0,by omega,rfl,HO1,HX1⟩
 case round=>
  obtain⟨k,hk,rfl,HO,HX⟩:=hrel
  by_cases hlt:k<ls.length
  ·obtain⟨b0,o0,u,rfl,p0,hu⟩:=A3.out k ls[k] (gE hlt)
   replace p0:=HX.out.cell p0
   have HU:=Hd (hu.later HX.out)
   obtain⟨ua,uc,rfl,-⟩:=hu.form
   have HR:=Hd (HB.out _ (List.getElem_mem hlt))
   have HS:=Hd (show gput ls.length++(ls.take (k+1)).flatMap nodeB=(gput ls.length++(ls.take k).flatMap nodeB)++nodeB ls[k]by rw[flatB_step hlt,List.append_assoc])
   have HL:=Hd (HLN.out k)
   clear hu
   generalize ls[k]=l at*
   generalize gput ls.length++(ls.take k).flatMap nodeB=L at*
   obtain⟨va,vc,hve⟩:=HO.out.form
   subst hve
   have HRL:=Hd (nodeB_len l HR.out.2)
   go_wp2_with (first
    |(go_at_call 32;(with_reducible refine(putNode_any _ l _ HU.out HR.out.1 HR.out.2).mono ?_);rintro e w6 ⟨v6,he,ho,hx⟩;obtain⟨a6,c6,e6⟩:=ho.form;subst e6;subst he;have HY6:=Hd ho.bs;have HO6:=Hd (HO.out.later hx);have HX6:=Hd (HX.out.trans hx);clear ho hx)
    |(at_builtin;refine wpList_app rfl _ _ 22 rfl w.heap.size 5 (.int .u8 0) 1 1 Tryz.underlying22 infoU8' rfl (by decide) (by decide) _ _ _ rfl HO6.out _ _ _ rfl HY6.out (ycells_one _) (by have:=HL.out;have:=HRL.out;omega) HX6.out.size ?_
      intro v8 w8 ho8 hg8;have HO8:=Hd (show OwnY w8 w.heap.size v8 (gput ls.length++(ls.take (k+1)).flatMap nodeB)by rw[HS.out];unfold OwnY;rw[ycells_app,List.length_append];exact ho8);have HX8:=Hd (Ext.grown HX6.out hg8 HO6.out (Nat.le_refl _));clear ho8 hg8))
   go_roundw
   case rel=>exact⟨k+1,by omega,by go_num,HO8,HX8⟩
   case measure=>simp[intOf];omega
  ·obtain rfl:k=ls.length:=by omega
   rw[HE.out]at HO
   go_wp2_with fail
   go_ret2
   exact⟨_,rfl,HO.out,HX.out⟩
theorem netfilePut_any(lv:Value)(ls:List (List Rul))(w:World)(hl:TablesAt w lv ls)(hok:TablesOk ls)(hm:netMayV ls=0):
 Calls Tryz.prog 13 #[.agg #[lv]] w fun e w'=>∃u,e=.returned (.tuple #[u,I 0])/\OwnY w' w.heap.size u (netPut ls)/\Ext w w':=by
 have HL:=Hd hl
 have HOK:=Hd hok
 have HRB:=Hd (net_rulB hm)
 have HM:=Hd hm
 obtain⟨hn,hsz,-⟩:=netMay_tabs hm
 have HN:=Hd hn
 have HSZ:=Hd hsz
 obtain⟨ad,cap,rfl,a1,a2,a3⟩:=hl.form
 have HLN:=Hd (show(netB ls).length<=1000000000 by
  have h1:=nodesB_len ls (fun x hx=>(net_rulB hm x hx).2)
  have h2:=gsize_bd ls.length
  unfold netB
  rw[List.length_append,gput_len];omega)
 have HFP:=Hd (show∀(v:Value) (w:World),BsAt w v (netB ls)->Calls Tryz.prog 12 #[.int .u32 1179206193,v] w fun e w'=>∃u,e=.returned u/\OwnY w' w.heap.size u (netPut ls)/\Ext w w' from fun v w h=>framePut_any magN v _ w h HLN.out)
 clear a3 hl hok hm hn hsz
 unfold maxLen at a2
 go_enter Tryz.func13,Tryz.ntmps13
 go_upto_region 1 with(fail)
 refine hBk w [.slice ad ls.length cap] 43 (fun W1 hW1=>?_)
 obtain⟨hx1,hb1⟩:=hW1
 have HX1:=Hd hx1
 have HB1:=Hd hb1
 clear hx1 hb1
 generalize w.heap.size=nb at*
 have hbc:=HB1.out.cells
 go_upto_region 4 with(first
  |(go_at_call 30;(with_reducible refine(netMay_any _ ls _ (HL.out.later HX1.out) HOK.out (by have:=HSZ.out;omega)).mono ?_);rintro e w2 ⟨he,hx⟩;rw[HM.out]at he;subst he;have HX2:=Hd (HX1.out.trans hx);have HB2:=Hd (HB1.out.later hx);clear hx))
 clear hbc
 have hbc2:=HB2.out.cells
 go_wp2_with (first
  |(go_at_call 31;(with_reducible refine(putRows_any _ ls _ (HL.out.later HX2.out) HRB.out HN.out).mono ?_);rintro e w3 ⟨v3,he,ho,hx⟩;obtain⟨va,vc,hve⟩:=ho.form;subst hve;subst he;have HY3:=Hd ho.bs;have HX3:=Hd (HX2.out.trans hx);clear ho hx)
  |(go_at_call 12;(with_reducible refine(HFP.out _ _ HY3.out).mono ?_);rintro e w4 ⟨v4,he,ho,hx⟩;subst he;have HO4:=Hd (ho.low HX3.out.size);have HX4:=Hd (HX3.out.trans hx);clear ho hx))
 go_ret2
 exact⟨_,rfl,HO4.out,HX4.out⟩
def rowB(k:Nat)(l:List Int):List Byt:=l.flatMap fun x=>beN k x.toNat
theorem rowB_len(k:Nat)(l:List Int):(rowB k l).length=l.length*k:=by
 unfold rowB
 induction l with
 |nil=>simp
 |cons x l ih=>rw[List.flatMap_cons,List.length_append,beN_len,ih,List.length_cons,Nat.succ_mul];omega
theorem numRow_any(k:Nat)(hk:k=1\/k=2\/k=4)(v:Value)(l:List Int)(w:World)(h:IntsAt w v l)(hb:∀x∈l,0<=x/\x<((256^k:Nat):Int))(hl:l.length<=1000):
 Calls Tryz.prog 104 #[I k,v] w fun e w'=>∃u,e=.returned (.tuple #[u,I 0])/\OwnY w' w.heap.size u (rowB k l)/\Ext w w':=by
 obtain⟨a,cap,rfl,a1,a2,a3⟩:=h.form
 have A3:=Hd a3
 have HB:=Hd hb
 clear h a3 hb
 unfold maxLen at a2
 have HK:=Hd hk
 have HS:=Hd (fun w=>sized_yes (k:Int) (by omega) w)
 have HLN:=Hd (show∀j,(rowB k (l.take j)).length<=10000 from fun j=>by
  rw[rowB_len,List.length_take]
  rcases hk with rfl|rfl|rfl<;>omega)
 have HE:=Hd (show rowB k (l.take l.length)=rowB k l by rw[List.take_length])
 have HK4:=Hd (show k<=4 by omega)
 clear hk
 go_enter Tryz.func104,Tryz.ntmps104
 go_upto_region 5 with(first
  |(go_at_call 129;(with_reducible refine(HS.out _).mono ?_);rintro e w1 ⟨he,hw⟩;subst he hw))
 go_loopw[6,16] (fun v i wr=>∃j:Nat,j<=l.length/\i=I j/\Hid (OwnY wr w.heap.size v (rowB k (l.take j)))/\Hid (Ext w wr)) (fun _ i _=>l.length-(intOf i).toNat)
 case atStart=>exact⟨0,by omega,rfl,Hd (OwnY.nil _ _),Hd (eR _)⟩
 case round=>
  obtain⟨j,hj,rfl,HO,HX⟩:=hrel
  by_cases hlt:j<l.length
  ·obtain⟨b0,o0,rfl,p0⟩:=A3.out j l[j] (gE hlt)
   replace p0:=HX.out.cell p0
   have hxb:=HB.out _ (List.getElem_mem hlt)
   have HR:=Hd (show rowB k (l.take (j+1))=rowB k (l.take j)++beN k l[j].toNat from flatB_step hlt)
   have HL:=Hd (HLN.out j)
   generalize l[j]=x at*
   have HP:=Hd (show∀w,Calls Tryz.prog 77 #[I x,I k] w fun e w'=>∃v,e=.returned (.tuple #[v,I 0])/\OwnY w' w.heap.size v (beN k x.toNat)/\Ext w w' from fun w=>by
    have h:=numPut_any k HK.out x.toNat (by omega) w
    rw[Int.toNat_of_nonneg hxb.1]at h;exact h)
   have HBL:=Hd (beN_len k x.toNat)
   clear hxb
   generalize beN k x.toNat=M at*
   generalize rowB k (l.take j)=L at*
   obtain⟨va,vc,hve⟩:=HO.out.form
   subst hve
   go_wp2_with (first
    |(go_at_call 77;(with_reducible refine(HP.out _).mono ?_);rintro e w6 ⟨v6,he,ho,hx⟩;obtain⟨a6,c6,e6⟩:=ho.form;subst e6;subst he;have HY6:=Hd ho.bs;have HO6:=Hd (HO.out.later hx);have HX6:=Hd (HX.out.trans hx);clear ho hx)
    |(at_builtin;refine wpList_app rfl _ _ 22 rfl w.heap.size 5 (.int .u8 0) 1 1 Tryz.underlying22 infoU8' rfl (by decide) (by decide) _ _ _ rfl HO6.out _ _ _ rfl HY6.out (ycells_one _) (by have:=HL.out;have:=HBL.out;have:=HK4.out;omega) HX6.out.size ?_
      intro v8 w8 ho8 hg8;have HO8:=Hd (show OwnY w8 w.heap.size v8 (rowB k (l.take (j+1)))by rw[HR.out];unfold OwnY;rw[ycells_app,List.length_append];exact ho8);have HX8:=Hd (Ext.grown HX6.out hg8 HO6.out (Nat.le_refl _));clear ho8 hg8))
   go_roundw
   case rel=>exact⟨j+1,by omega,by go_num,HO8,HX8⟩
   case measure=>simp[intOf];omega
  ·obtain rfl:j=l.length:=by omega
   rw[HE.out]at HO
   go_wp2_with fail
   go_ret2
   exact⟨_,rfl,HO.out,HX.out⟩
end Go.Proofs.YtjflkifodfncmaaGreatDoor
