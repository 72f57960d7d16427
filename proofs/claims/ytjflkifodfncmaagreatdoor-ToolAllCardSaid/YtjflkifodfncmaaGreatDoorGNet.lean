/- May, TabMay, Net, U32s: these texts in one. Conditions: each theorem names its own. -/
import Derived.Test.YtjflkifodfncmaaGreatDoorGPref
import Derived.Test.YtjflkifodfncmaaGreatDoorGRule
import Derived.Maps.AppendAt
namespace Go.Proofs.YtjflkifodfncmaaGreatDoor
set_option maxHeartbeats 2000000
open Go.RowKit
def ruleMayV(r:Rul)(nodes:Int):Int:=
 if mayV r.pa r.pl≠0 then mayV r.pa r.pl else if r.act=1 then(if r.nx<0\/nodes<=r.nx then 10 else 0)else if r.act=2\/r.act=3 then(if r.nx=0 then 0 else 10)else 9
inductive RuleWay (r:Rul) (nodes:Int):Prop where
 |host (h:(mayV r.pa r.pl !=0)=true) (v:Hid (ruleMayV r nodes=mayV r.pa r.pl))
 |neg (h:mayV r.pa r.pl=0) (a:r.act=1) (n:r.nx<0) (v:Hid (ruleMayV r nodes=10))
 |big (h:mayV r.pa r.pl=0) (a:r.act=1) (n0:0<=r.nx) (n:nodes<=r.nx) (v:Hid (ruleMayV r nodes=10))
 |next (h:mayV r.pa r.pl=0) (a:r.act=1) (n0:0<=r.nx) (n:r.nx<nodes) (v:Hid (ruleMayV r nodes=0))
 |two (h:mayV r.pa r.pl=0) (a:r.act=2) (n:r.nx=0) (v:Hid (ruleMayV r nodes=0))
 |twoN (h:mayV r.pa r.pl=0) (a:r.act=2) (n:(r.nx !=0)=true) (v:Hid (ruleMayV r nodes=10))
 |three (h:mayV r.pa r.pl=0) (a:r.act=3) (n:r.nx=0) (v:Hid (ruleMayV r nodes=0))
 |threeN (h:mayV r.pa r.pl=0) (a:r.act=3) (n:(r.nx !=0)=true) (v:Hid (ruleMayV r nodes=10))
 |act (h:mayV r.pa r.pl=0) (a1:(r.act==1)=false) (a2:(r.act==2)=false) (a3:(r.act==3)=false) (b1:(r.act !=1)=true) (b2:(r.act !=2)=true) (b3:(r.act !=3)=true) (v:Hid (ruleMayV r nodes=9))
theorem rule_way(r:Rul)(nodes:Int):RuleWay r nodes:=by
 by_cases h:mayV r.pa r.pl=0
 ·have e:ruleMayV r nodes=if r.act=1 then(if r.nx<0\/nodes<=r.nx then 10 else 0)else if r.act=2\/r.act=3 then(if r.nx=0 then 0 else 10)else 9:=by
   unfold ruleMayV;rw[if_neg (by simpa using h)]
  by_cases a:r.act=1
  ·rw[if_pos a]at e
   by_cases n:r.nx<0
   ·exact .neg h a n (by show _=_;rw[e,if_pos (.inl n)])
   ·by_cases m:nodes<=r.nx
    ·exact .big h a (by omega) m (by show _=_;rw[e,if_pos (.inr m)])
    ·exact .next h a (by omega) (by omega) (by show _=_;rw[e,if_neg (by omega)])
  ·rw[if_neg a]at e
   by_cases a2:r.act=2
   ·rw[if_pos (.inl a2)]at e
    by_cases n:r.nx=0
    ·exact .two h a2 n (by show _=_;rw[e,if_pos n])
    ·exact .twoN h a2 (by simpa using n) (by show _=_;rw[e,if_neg n])
   ·by_cases a3:r.act=3
    ·rw[if_pos (.inr a3)]at e
     by_cases n:r.nx=0
     ·exact .three h a3 n (by show _=_;rw[e,if_pos n])
     ·exact .threeN h a3 (by simpa using n) (by show _=_;rw[e,if_neg n])
    ·rw[if_neg (by omega)]at e
     exact .act h (by simpa using a) (by simpa using a2) (by simpa using a3) (by simpa using a) (by simpa using a2) (by simpa using a3) e
 ·exact .host (by simpa using h) (by show _=_;unfold ruleMayV;rw[if_pos h])
theorem ruleMay_any(r:Rul)(nodes:Int)(w:World)(h:r.Ok):
 Calls Tryz.prog 131 #[r.val,I nodes] w fun e w'=>e=.returned (I (ruleMayV r nodes))/\Ext w w':=by
 have hl:=h.pl
 have W:=rule_way r nodes
 cases W
 all_goals
  rename_i v
  go_enter Tryz.func131,Tryz.ntmps131
  go_wp2_with (first|(go_at_call 170;with_reducible refine(may_any _ _ _ hl).mono ?_;rintro e w' ⟨rfl,rfl⟩))
  go_ret
  exact⟨ret_int v.out.symm,by(repeat with_reducible first|exact eR _|assumption|refine eA ?_ _|refine eD ?_|refine eW ?_ _|(refine eS ?_ ?_;focus(first|(simp;done)|(simp;omega)|omega)))⟩
theorem r07May_any(r:Rul)(nodes:Int)(w:World)(h:r.Ok):
 Calls Tryz.prog 152 #[r.val,I nodes] w fun e w'=>e=.returned (I (ruleMayV r nodes))/\Ext w w':=by
 have hl:=h.pl
 have W:=rule_way r nodes
 cases W
 all_goals
  rename_i v
  go_enter Tryz.func152,Tryz.ntmps152
  go_wp2_with (first|(go_at_call 188;with_reducible refine(r06May_any _ _ _ hl).mono ?_;rintro e w' ⟨rfl,rfl⟩))
  go_ret
  exact⟨ret_int v.out.symm,by(repeat with_reducible first|exact eR _|assumption|refine eA ?_ _|refine eD ?_|refine eW ?_ _|(refine eS ?_ ?_;focus(first|(simp;done)|(simp;omega)|omega)))⟩
def badOrd(p:Option Rul)(r:Rul):Bool:=
 match p with
 |none=>false
 |some q=>cmpV r.pa r.pl q.pa q.pl !=1
def tabG(nodes:Int):Option Rul->List Rul->Int
 |_,[]=>0
 |p,r::l=>if ruleMayV r nodes≠0 then ruleMayV r nodes else if badOrd p r then 11 else tabG nodes (some r) l
def tabMayV(nodes:Int)(l:List Rul):Int:=tabG nodes none l
def ahead(l:List Rul):Nat->Option Rul
 |0=>none
 |k+1=>l[k]?
theorem tab_step(nodes:Int){l:List Rul}{k:Nat}(h:k<l.length):tabG nodes (ahead l k) (l.drop k)=
 if ruleMayV l[k] nodes≠0 then ruleMayV l[k] nodes else if badOrd (ahead l k) l[k]then 11 else tabG nodes (ahead l (k+1)) (l.drop (k+1)):=by
 rw[List.drop_eq_getElem_cons h]
 have e:ahead l (k+1)=some l[k]:=by unfold ahead;exact gE h
 rw[e];rfl
theorem tab_end(nodes:Int){l:List Rul}{k:Nat}(h:l.length<=k)(p:Option Rul):tabG nodes p (l.drop k)=0:=by
 rw[List.drop_of_length_le h];cases p<;>rfl
theorem tableMay_any(lv:Value)(l:List Rul)(nodes:Int)(w:World)(hl:RulesAt w lv l)(hok:RulesOk l):
 Calls Tryz.prog 80 #[lv,I nodes] w fun e w'=>e=.returned (I (tabMayV nodes l))/\Ext w w':=by
 obtain⟨ad,cap,rfl,a1,a2,a3⟩:=hl.form
 have A3:=Hd a3
 clear a3
 unfold maxLen at a2
 go_enter Tryz.func80,Tryz.ntmps80
 go_wp2_with fail
 go_loopw[10] (fun i wr=>∃k:Nat,k<=l.length/\i=I k/\Hid (tabG nodes (ahead l k) (l.drop k)=tabMayV nodes l)/\Ext w wr) (fun i _=>l.length-(intOf i).toNat)
 case atStart=>exact⟨0,by omega,rfl,rfl,eR _⟩
 case round=>
  obtain⟨k,hk,rfl,HV,hx⟩:=hrel
  by_cases hlt:k<l.length
  ·obtain⟨b0,o0,rfl,p0,p1,p2,p3⟩:=A3.out k l[k] (gE hlt)
   replace p0:=hx.cell p0
   replace p1:=hx.cell p1
   replace p2:=hx.cell p2
   replace p3:=hx.cell p3
   have HS:=Hd (tab_step nodes hlt)
   rw[HV.out]at HS
   have HOK:=Hd (hok l[k] (List.getElem_mem hlt))
   have HW:=Hd (hx.alloc (.cells l[k].cells.toArray 39))
   by_cases hm:ruleMayV l[k] nodes=0
   ·have hmd:(ruleMayV l[k] nodes !=0)=false:=by simpa using hm
    have HS2:=Hd (show tabMayV nodes l=if badOrd (ahead l k) l[k]then 11 else tabG nodes (ahead l (k+1)) (l.drop (k+1))by rw[HS.out,if_neg (by simpa using hm)])
    clear hm HS HV
    cases k with
    |zero=>
     simp only[Nat.zero_mul,Nat.add_zero]at p0 p1 p2 p3
     have HS3:=Hd (show tabG nodes (ahead l (0+1)) (l.drop (0+1))=tabMayV nodes l from HS2.out.symm)
     clear HS2
     go_wp2_with (first
      |(go_at_call 131;with_reducible refine(ruleMay_any l[0] nodes _ HOK.out).mono ?_;rintro e w2 ⟨rfl,hx2⟩))
     refine wp_region_E 11 rfl (by kernel_rfl) (by kernel_rfl) ?_
     refine WEi_at 0 ?_
     iterate 3
      refine WEi_q rfl (by decide) (by kernel_rfl) rfl ?_;apply Exists.intro;refine⟨fun w1 hx1=>?_,?_⟩
      ·have hq1:=hx1.cells;go_simp;try go_bits
       first|with_reducible rfl
      go_frame;try simp only[Nat.reduceAdd]
     refine WEi_out ?_
     refine WEi_at 3 ?_
     iterate 8
      refine WEi_s rfl (by decide) (by kernel_rfl) rfl ?_
      go_frame;try simp only[Nat.reduceAdd]
     refine WEi_out ?_
     refine WE_done (by kernel_rfl) (fun w3 hx3=>?_)
     (try simp only[List.drop_succ_cons,List.drop_zero])
     go_wp2
     go_roundw
     case rel=>exact⟨1,by omega,by go_num,HS3.out,HW.out.trans (hx2.trans hx3)⟩
     case measure=>simp[intOf];omega
    |succ p=>
     have hpl:p<l.length:=by omega
     obtain⟨b1,o1,hbb,q0,q1,q2,q3⟩:=A3.out p l[p] (gE hpl)
     obtain⟨rfl,rfl⟩:b0=b1/\o0=o1:=by simpa using hbb
     replace q0:=hx.cell q0
     replace q1:=hx.cell q1
     replace q2:=hx.cell q2
     replace q3:=hx.cell q3
     clear hbb
     have HA:=Hd (show ahead l (p+1)=some l[p]by unfold ahead;exact gE hpl)
     have HS4:=Hd (show tabMayV nodes l=if(cmpV l[p+1].pa l[p+1].pl l[p].pa l[p].pl !=1)=true then 11 else tabG nodes (ahead l (p+1+1)) (l.drop (p+1+1))by
      rw[HS2.out,HA.out];rfl)
     clear HS2 HA
     go_wp2_with (first
      |(go_at_call 131;with_reducible refine(ruleMay_any l[p+1] nodes _ HOK.out).mono ?_;rintro e w2 ⟨rfl,hx2⟩))
     have HX2:=HW.out.trans hx2
     have k0:=Ext.keep (hx2.cell (((eR wr).alloc _).cell q0))
     have k1:=Ext.keep (hx2.cell (((eR wr).alloc _).cell q1))
     have k2:=Ext.keep (hx2.cell (((eR wr).alloc _).cell q2))
     have k3:=Ext.keep (hx2.cell (((eR wr).alloc _).cell q3))
     have hb4:=((Blk.newAt (w:=wr) l[p+1].cells rfl).later hx2).keep
     by_cases hc:(cmpV l[p+1].pa l[p+1].pl l[p].pa l[p].pl !=1)=true
     ·have HS5:=Hd (HS4.out.trans (if_pos hc))
      clear HS4
      refine wp_region_E 11 rfl (by kernel_rfl) (by kernel_rfl) ?_
      refine WEi_at 0 ?_
      iterate 11
       refine WEi_q rfl (by decide) (by kernel_rfl) rfl ?_;apply Exists.intro;refine⟨fun w1 hx1=>?_,?_⟩
       ·have hq1:=hx1.cells;go_simp;try go_bits
        first|with_reducible rfl|(refine(ruleCompare_any l[p+1] l[p] _).mono ?_;rintro e w2 ⟨rfl,hx2⟩;exact⟨rfl,hx2⟩)
       go_frame;try simp only[Nat.reduceAdd]
      refine WEi_out ?_
      refine WE_done (by kernel_rfl) (fun w3 hx3=>?_)
      (try simp only[List.drop_succ_cons,List.drop_zero])
      go_wp2
      go_ret
      exact⟨ret_int HS5.out.symm,HX2.trans hx3⟩
     ·have hcf:(cmpV l[p+1].pa l[p+1].pl l[p].pa l[p].pl !=1)=false:=by simpa using hc
      have HS5:=Hd (HS4.out.trans (if_neg hc))
      clear HS4 hc
      refine wp_region_E 11 rfl (by kernel_rfl) (by kernel_rfl) ?_
      refine WEi_at 0 ?_
      iterate 11
       refine WEi_q rfl (by decide) (by kernel_rfl) rfl ?_;apply Exists.intro;refine⟨fun w1 hx1=>?_,?_⟩
       ·have hq1:=hx1.cells;go_simp;try go_bits
        first|with_reducible rfl|(refine(ruleCompare_any l[p+1] l[p] _).mono ?_;rintro e w2 ⟨rfl,hx2⟩;exact⟨rfl,hx2⟩)
       go_frame;try simp only[Nat.reduceAdd]
      refine WEi_out ?_
      refine WE_done (by kernel_rfl) (fun w3 hx3=>?_)
      (try simp only[List.drop_succ_cons,List.drop_zero])
      go_wp2
      go_roundw
      case rel=>exact⟨p+1+1,by omega,by go_num,HS5.out.symm,HX2.trans hx3⟩
      case measure=>simp[intOf];omega
   ·have hmd:(ruleMayV l[k] nodes !=0)=true:=by simpa using hm
    have HS2:=Hd (show ruleMayV l[k] nodes=tabMayV nodes l by rw[HS.out,if_pos (by simpa using hm)])
    clear hm HS HV
    go_wp2_with (first
     |(go_at_call 131;with_reducible refine(ruleMay_any l[k] nodes _ HOK.out).mono ?_;rintro e w2 ⟨rfl,hx2⟩))
    go_ret
    exact⟨ret_int HS2.out,HW.out.trans hx2⟩
  ·have HE:=Hd (show tabMayV nodes l=0 by rw[<-HV.out,tab_end nodes (by omega)])
   go_wp2
   go_ret
   exact⟨ret_int HE.out.symm,hx⟩
def TablesAt(w:World)(v:Value)(ls:List (List Rul)):Prop:=
 ∃vs:List Value,Reads w 1 v ls.length vs/\∀(i:Nat) (l:List Rul),ls[i]?=some l->∃u,vs[i]?=some u/\RulesAt w u l
theorem TablesAt.later{w w':World}{v:Value}{ls:List (List Rul)}(h:TablesAt w v ls)(hx:Ext w w'):TablesAt w' v ls:=
 let⟨vs,h1,h2⟩:=h
 ⟨vs,h1.later hx,fun i l hi=>let⟨u,g1,g2⟩:=h2 i l hi;⟨u,g1,g2.later hx⟩⟩
theorem TablesAt.form{w:World}{v:Value}{ls:List (List Rul)}(h:TablesAt w v ls):
 ∃a cap,v=.slice a ls.length cap/\ls.length<=cap/\cap<=maxLen/\∀(i:Nat) (l:List Rul),ls[i]?=some l->∃b off u,a=some ⟨b,off,none⟩/\w.cell? ⟨b,off+i,none⟩=some u/\RulesAt w u l:=by
 obtain⟨vs,⟨h0,a,cap,h1,h2,h3,h4,h5⟩,hv⟩:=h
 refine⟨a,cap,h1,h2,h3,fun i l hi=>?_⟩
 have hil:=(List.getElem?_eq_some_iff.1 hi).1
 obtain⟨u,g1,g2⟩:=hv i l hi
 cases a with
 |none=>have:=h4 rfl;omega
 |some b=>
  obtain⟨e1,e2⟩:=h5 b rfl
  replace e1:b.spot=none:=by
   rcases e1 with e1|e1
   ·exact e1
   ·rw[e1]at g1;cases g1
  obtain⟨bb,bo,bs⟩:=b
  simp only at e1
  subst e1
  exact⟨bb,bo,u,rfl,e2 i u g1,g2⟩
theorem TablesAt.nil(w:World):TablesAt w (.slice none 0 0) []:=⟨[],Reads.nil w 1,fun i l h=>by cases h⟩
theorem TablesAt.made(w:World)(e:TypeId)(n:Nat)(vs:List Value)(ls:List (List Rul))(hn:vs.length=ls.length)(hm:ls.length<=maxLen)(hk:ls.length=n)
 (h:∀(i:Nat) (l:List Rul),ls[i]?=some l->∃u,vs[i]?=some u/\RulesAt w u l):TablesAt (w.alloc (.cells vs.toArray e)) (.slice (some ⟨w.heap.size,0,none⟩) n n) ls:=by
 subst hk
 exact⟨vs,Reads.made w 1 e ls.length vs (by omega) hm,fun i l hi=>let⟨u,g1,g2⟩:=h i l hi;⟨u,g1,g2.later ((eR w).alloc _)⟩⟩
def TablesOk(ls:List (List Rul)):Prop:=∀l∈ls,RulesOk l
theorem TablesOk.at{ls:List (List Rul)}(h:TablesOk ls){k:Nat}(hk:k<ls.length):RulesOk ls[k]:=h _ (List.getElem_mem hk)
theorem Reads.grown{w w':World}{s:Nat}{v:Value}{n:Nat}{xs:List Value}{row:Option Nat}(h:Reads w s v n xs)(hg:w.grownBy w' row)(hne:xs=[]\/∀g,row=some g->v.ownBlock≠some g):Reads w' s v n xs:=by
 obtain⟨h0,a,cap,rfl,h2,h3,h4,h5⟩:=h
 refine⟨h0,a,cap,rfl,h2,h3,h4,fun b hb=>⟨(h5 b hb).1,fun j u hj=>?_⟩⟩
 subst hb
 have hc:=(h5 b rfl).2 j u hj
 rcases hne with rfl|hne
 ·cases hj
 ·have hlt:b.block<w.heap.size:=by
   rcases Nat.lt_or_ge b.block w.heap.size with h'|h'
   ·exact h'
   ·simp[World.cell?,Array.getElem?_eq_none h']at hc
  rw[<-hc]
  exact World.cell?_of_block (hg.block _ hlt fun e=>hne _ e.symm rfl)
theorem RulesAt.blt{w:World}{u:Value}{l:List Rul}(h:RulesAt w u l)(hl:l≠[]):∀b,u.ownBlock=some b->b<w.heap.size:=by
 intro b hb
 obtain⟨a,cap,rfl,h1,h2,h3⟩:=h.form
 match l,hl with
 |r::l,_=>
  obtain⟨b0,o0,rfl,p0,_⟩:=h3 0 r rfl
  simp[Value.ownBlock]at hb
  subst hb
  rcases Nat.lt_or_ge b0 w.heap.size with h'|h'
  ·exact h'
  ·simp[World.cell?,Array.getElem?_eq_none h']at p0
theorem rcells_nil{l:List Rul}(h:l=[]):rcells l=[]:=by subst h;rfl
theorem RulesAt.grown{w w':World}{u:Value}{l:List Rul}{row:Option Nat}(h:RulesAt w u l)(hg:w.grownBy w' row)(hne:l=[]\/∀g,row=some g->u.ownBlock≠some g):RulesAt w' u l:=
 Reads.grown h hg (hne.imp rcells_nil id)
def Far(A:Nat->Prop)(v u:Value)(l:List Rul):Prop:=l=[]\/∀b,u.ownBlock=some b->A b/\v.ownBlock≠some b
def OwnT(w:World)(B:Nat)(A:Nat->Prop)(v:Value)(ls:List (List Rul)):Prop:=
 ∃vs:List Value,w.ownsRow B 40 1 v ls.length vs/\∀(i:Nat) (l:List Rul),ls[i]?=some l->∃u,vs[i]?=some u/\RulesAt w u l/\Far A v u l
theorem OwnT.nil(w:World)(B:Nat)(A:Nat->Prop):OwnT w B A (.slice none 0 0) []:=⟨[],⟨by simp,.inl ⟨rfl,rfl⟩⟩,fun i l h=>by cases h⟩
theorem OwnT.later{w w':World}{B:Nat}{A:Nat->Prop}{v:Value}{ls:List (List Rul)}(h:OwnT w B A v ls)(hx:Ext w w'):OwnT w' B A v ls:=
 let⟨vs,h1,h2⟩:=h
 ⟨vs,own_later h1 hx,fun i l hi=>let⟨u,g1,g2,g3⟩:=h2 i l hi;⟨u,g1,g2.later hx,g3⟩⟩
theorem OwnT.tables{w:World}{B:Nat}{A:Nat->Prop}{v:Value}{ls:List (List Rul)}(h:OwnT w B A v ls):TablesAt w v ls:=
 let⟨vs,h1,h2⟩:=h
 ⟨vs,Reads.of_own h1,fun i l hi=>let⟨u,g1,g2,_⟩:=h2 i l hi;⟨u,g1,g2⟩⟩
theorem OwnT.low{w:World}{B B':Nat}{A A':Nat->Prop}{v:Value}{ls:List (List Rul)}(h:OwnT w B A v ls)(hB:B'<=B)(hA:∀b,A b->A' b):OwnT w B' A' v ls:=
 let⟨vs,h1,h2⟩:=h
 ⟨vs,own_low h1 hB,fun i l hi=>let⟨u,g1,g2,g3⟩:=h2 i l hi;⟨u,g1,g2,g3.imp id fun g b hb=>⟨hA b (g b hb).1,(g b hb).2⟩⟩⟩
theorem snoc_get{α:Type}{l:List α}{x y:α}{i:Nat}(h:(l++[x])[i]?=some y):l[i]?=some y\/i=l.length/\y=x:=by
 rcases Nat.lt_or_ge i l.length with g|g
 ·rw[List.getElem?_append_left g]at h;exact .inl h
 ·rw[List.getElem?_append_right g]at h
  have h1:=(List.getElem?_eq_some_iff.1 h).1
  have h2:i-l.length=0:=by simp at h1;omega
  rw[h2]at h
  simp at h
  exact .inr ⟨by omega,h.symm⟩
theorem Far.ne{A:Nat->Prop}{v u:Value}{l:List Rul}(h:Far A v u l):l=[]\/∀g,v.ownBlock=some g->u.ownBlock≠some g:=
 h.imp id fun h g hg hu=>(h g hu).2 hg
theorem OwnT.app{w w':World}{B:Nat}{A:Nat->Prop}{v v' u:Value}{ls:List (List Rul)}{l:List Rul}{vs:List Value}(hown:w.ownsRow B 40 1 v ls.length vs)
 (hvs:∀(i:Nat) (l:List Rul),ls[i]?=some l->∃u,vs[i]?=some u/\RulesAt w u l/\Far A v u l)
 (ho:w'.ownsRow B 40 1 v' (ls.length+1) (vs++[u])) (hg:w.grownBy w' v.ownBlock) (hloc:v'.ownBlock=v.ownBlock\/v'.ownBlock=some w.heap.size)
 (hu:RulesAt w u l) (ha:Far A v u l):OwnT w' B A v' (ls++[l]):=by
 have hlen:vs.length=ls.length:=by have:=hown.1;simpa using this
 have hap:∀{x:Value} {m:List Rul},RulesAt w x m->Far A v x m->Far A v' x m:=fun{x m} hx ha=>by
  by_cases hm:m=[]
  ·exact .inl hm
  ·rcases ha with ha|ha
   ·exact .inl ha
   ·refine .inr fun b hb=>⟨(ha b hb).1,fun hg2=>?_⟩
    rcases hloc with hl|hl
    ·exact(ha b hb).2 (hl▸hg2)
    ·rw[hl]at hg2
     cases hg2
     have:=hx.blt hm _ hb
     omega
 refine⟨vs++[u],by rw[List.length_append];exact ho,fun i m hi=>?_⟩
 rcases snoc_get hi with hi|⟨rfl,rfl⟩
 ·obtain⟨q,q1,q2,q3⟩:=hvs i m hi
  have hil:=(List.getElem?_eq_some_iff.1 hi).1
  exact⟨q,by rw[List.getElem?_append_left (by omega)];exact q1,q2.grown hg q3.ne,hap q2 q3⟩
 ·exact⟨u,by rw[List.getElem?_append_right (by omega),hlen];simp,hu.grown hg ha.ne,hap hu ha⟩
theorem grown_set(w:World)(p:Addr)(x:Value):w.grownBy (w.setCell p x) (some p.block):=
 ⟨rfl,rfl,rfl,by simp,fun k _ hne=>by
   have:p.block≠k:=fun e=>hne (by rw[e])
   simp[World.setCell,Array.getElem?_modify,this]⟩
theorem own_set{w:World}{B:Nat}{e:TypeId}{s:Nat}{v:Value}{n:Nat}{xs:List Value}(h:w.ownsRow B e s v n xs){p:Addr}(hp:p.block<B)(x:Value):(w.setCell p x).ownsRow B e s v n xs:=by
 obtain⟨h0,h1⟩:=h
 refine⟨h0,?_⟩
 rcases h1 with h1|⟨g,cap,cur,h1,h2,h3,h4⟩
 ·exact .inl h1
 ·refine .inr ⟨g,cap,cur,h1,h2,?_,h4⟩
  have:p.block≠g:=by omega
  rw[<-h3]
  simp[World.setCell,Array.getElem?_modify,this]
theorem OwnT.setCell{w:World}{B:Nat}{A:Nat->Prop}{v:Value}{ls:List (List Rul)}(h:OwnT w B A v ls){p:Addr}(hp:p.block<B)(hA:¬A p.block)(x:Value):OwnT (w.setCell p x) B A v ls:=
 let⟨vs,h1,h2⟩:=h
 ⟨vs,own_set h1 hp x,fun i l hi=>let⟨u,g1,g2,g3⟩:=h2 i l hi
   ⟨u,g1,g2.grown (grown_set w p x) (g3.imp id fun g b hb hu=>by cases hb;exact hA (g _ hu).1),g3⟩⟩
section
variable {P:Program} {w:World} {ops:Array Oper} {rest:List Oper} {o:Oper} {a:Act} {Q:Exit->Act->World->Prop}
theorem wpList_app1(hgd:o.guard=none)(s x:Operand)(t:TypeId)(ho:o.op=.call {callee:=.builtin .append,args:=#[s,x],argTypes:=#[t,t]})
 (base:Nat) (e:TypeId) (z:Value) (bytes:Nat) (ht:P.underlying t=some (.slice e)) (hi:(P.info? e).map (fun i=>(i.zero,i.size,i.bytes))=some (some z,1,bytes))
 (hzs:z.cells.size=1) (hby:0<bytes) (v:Value) (n:Nat) (xs:List Value) (hs:a.eval s=v) (hown:w.ownsRow base e 1 v n xs)
 (sb:Nat) (hx:a.eval x=.slice (some ⟨sb,0,none⟩) 1 1) (u:Value) (hu:w.cell? ⟨sb,0,none⟩=some u) (h1:u.oneCell'=true)
 (hbytes:(n+1)*bytes<=140737488355328) (hbase:base<=w.heap.size)
 (h:∀v' w',w'.ownsRow base e 1 v' (n+1) (xs++[u])->w.grownBy w' v.ownBlock->(v'.ownBlock=v.ownBlock\/v'.ownBlock=some w.heap.size)->wpList P ops Q rest (a.put o.dst v') w'):wpList P ops Q (o::rest) a w:=by
 obtain⟨i,hi0,hi1,hi2,hi3⟩:=info_parts hi
 refine wpList_append_own_at w hgd s x t ho base e i z 1 bytes ht hi0 hi1 hi2 hi3 hzs (by omega) v n xs hs hown ⟨sb,0,none⟩ 1 1 [u] hx rfl (fun j y hj=>?_) (fun y hy=>?_) ?_ hbytes hbase (fun v' w' g1 g2 _ g4=>h v' w' g1 g2 g4)
 ·match j,hj with
  |0,hj=>
   simp at hj;subst hj
   exact hu
 ·simp at hy;subst hy;exact h1
 ·unfold maxLen
  have:(n+1)*1<=(n+1)*bytes:=Nat.mul_le_mul_left _ hby
  omega
end
def icells(l:List Int):List Value:=l.map I
def IntsAt(w:World)(v:Value)(l:List Int):Prop:=Reads w 1 v l.length (icells l)
def OwnI(w:World)(B:Nat)(v:Value)(l:List Int):Prop:=w.ownsRow B 3 1 v l.length (icells l)
theorem IntsAt.later{w w':World}{v:Value}{l:List Int}(h:IntsAt w v l)(hx:Ext w w'):IntsAt w' v l:=Reads.later h hx
theorem OwnI.later{w w':World}{B:Nat}{v:Value}{l:List Int}(h:OwnI w B v l)(hx:Ext w w'):OwnI w' B v l:=own_later h hx
theorem OwnI.ints{w:World}{B:Nat}{v:Value}{l:List Int}(h:OwnI w B v l):IntsAt w v l:=Reads.of_own h
theorem icells_len(l:List Int):(icells l).length=l.length:=List.length_map _
theorem icells_app(a b:List Int):icells (a++b)=icells a++icells b:=List.map_append
theorem icells_one(l:List Int):∀u∈icells l,u.oneCell'=true:=by
 intro u hu
 obtain⟨r,_,hr⟩:=List.mem_map.1 hu
 subst hr;rfl
theorem IntsAt.form{w:World}{v:Value}{l:List Int}(h:IntsAt w v l):
 ∃a cap,v=.slice a l.length cap/\l.length<=cap/\cap<=maxLen/\∀(i:Nat) (x:Int),l[i]?=some x->∃b off,a=some ⟨b,off,none⟩/\w.cell? ⟨b,off+i,none⟩=some (I x):=by
 obtain⟨h0,a,cap,h1,h2,h3,h4,h5⟩:=h
 refine⟨a,cap,h1,h2,h3,fun i x hi=>?_⟩
 have hil:=(List.getElem?_eq_some_iff.1 hi).1
 cases a with
 |none=>have:=h4 rfl;omega
 |some b=>
  obtain⟨e1,e2⟩:=h5 b rfl
  replace e1:b.spot=none:=by
   rcases e1 with e1|e1
   ·exact e1
   ·have:=icells_len l;rw[e1]at this;simp at this;omega
  obtain⟨bb,bo,bs⟩:=b
  simp only at e1
  subst e1
  exact⟨bb,bo,rfl,e2 i (I x) (by unfold icells;rw[List.getElem?_map,hi];rfl)⟩
theorem infoInt:(Tryz.prog.info? 3).map (fun i=>(i.zero,i.size,i.bytes))=some (some (.int .i64 0),1,8):=by kernel_rfl
theorem infoRules:(Tryz.prog.info? 40).map (fun i=>(i.zero,i.size,i.bytes))=some (some (.slice none 0 0),1,24):=by kernel_rfl
theorem sizeInt(w:World):(sizeOf (Tryz.prog.elem 47)).run Tryz.prog w=.ok 1 w:=by kernel_rfl
def sizeN(ls:List (List Rul)):Nat:=(ls.map List.length).sum
theorem sizeN_step{ls:List (List Rul)}{k:Nat}(h:k<ls.length):sizeN (ls.take (k+1))=sizeN (ls.take k)+ls[k].length:=by
 unfold sizeN
 rw[List.take_succ_eq_append_getElem h,List.map_append,List.sum_append]
 simp
theorem sum_take_le(l:List Nat)(k:Nat):(l.take k).sum<=l.sum:=by
 conv=>rhs;rw[<-List.take_append_drop k l]
 rw[List.sum_append];omega
theorem sizeN_take(ls:List (List Rul))(k:Nat):sizeN (ls.take k)<=sizeN ls:=by
 unfold sizeN;rw[List.map_take];exact sum_take_le _ _
theorem sizeN_all{ls:List (List Rul)}{k:Nat}(h:ls.length<=k):sizeN (ls.take k)=sizeN ls:=by rw[List.take_of_length_le h]
def ucells(l:List (BitVec 32)):List Value:=l.map U
def UsAt(w:World)(v:Value)(l:List (BitVec 32)):Prop:=Reads w 1 v l.length (ucells l)
def OwnU(w:World)(B:Nat)(v:Value)(l:List (BitVec 32)):Prop:=w.ownsRow B 23 1 v l.length (ucells l)
theorem UsAt.later{w w':World}{v:Value}{l:List (BitVec 32)}(h:UsAt w v l)(hx:Ext w w'):UsAt w' v l:=Reads.later h hx
theorem OwnU.later{w w':World}{B:Nat}{v:Value}{l:List (BitVec 32)}(h:OwnU w B v l)(hx:Ext w w'):OwnU w' B v l:=own_later h hx
theorem OwnU.us{w:World}{B:Nat}{v:Value}{l:List (BitVec 32)}(h:OwnU w B v l):UsAt w v l:=Reads.of_own h
theorem ucells_len(l:List (BitVec 32)):(ucells l).length=l.length:=List.length_map _
theorem ucells_app(a b:List (BitVec 32)):ucells (a++b)=ucells a++ucells b:=List.map_append
theorem ucells_one(l:List (BitVec 32)):∀u∈ucells l,u.oneCell'=true:=by
 intro u hu
 obtain⟨r,_,hr⟩:=List.mem_map.1 hu
 subst hr;rfl
theorem UsAt.form{w:World}{v:Value}{l:List (BitVec 32)}(h:UsAt w v l):
 ∃a cap,v=.slice a l.length cap/\l.length<=cap/\cap<=maxLen/\∀(i:Nat) (x:BitVec 32),l[i]?=some x->∃b off,a=some ⟨b,off,none⟩/\w.cell? ⟨b,off+i,none⟩=some (U x):=by
 obtain⟨h0,a,cap,h1,h2,h3,h4,h5⟩:=h
 refine⟨a,cap,h1,h2,h3,fun i x hi=>?_⟩
 have hil:=(List.getElem?_eq_some_iff.1 hi).1
 cases a with
 |none=>have:=h4 rfl;omega
 |some b=>
  obtain⟨e1,e2⟩:=h5 b rfl
  replace e1:b.spot=none:=by
   rcases e1 with e1|e1
   ·exact e1
   ·have:=ucells_len l;rw[e1]at this;simp at this;omega
  obtain⟨bb,bo,bs⟩:=b
  simp only at e1
  subst e1
  exact⟨bb,bo,rfl,e2 i (U x) (by unfold ucells;rw[List.getElem?_map,hi];rfl)⟩
theorem UsAt.piece{w:World}{v:Value}{l:List (BitVec 32)}(h:UsAt w v l){j k:Nat}(hj:j<=k)(hk:k<=l.length):UsAt w (slv 1 v j k) ((l.take k).drop j):=by
 have:=Reads.piece h hj hk
 unfold UsAt
 rw[List.length_drop,List.length_take,Nat.min_eq_left hk]
 rw[Nat.mul_one,Nat.mul_one]at this
 unfold ucells at*
 rw[<-List.map_take,<-List.map_drop]at this
 exact this
theorem infoU32:(Tryz.prog.info? 23).map (fun i=>(i.zero,i.size,i.bytes))=some (some (.int .u32 0),1,4):=by kernel_rfl
theorem sizeU32(w:World):(sizeOf (Tryz.prog.elem 70)).run Tryz.prog w=.ok 1 w:=by kernel_rfl
theorem us_made(w:World)(l:List (BitVec 32))(h:l.length<=maxLen):UsAt (w.alloc (.cells (ucells l).toArray 23)) (.slice (some ⟨w.heap.size,0,none⟩) l.length l.length) l:=
 Reads.made w 1 23 l.length (ucells l) (by rw[ucells_len];omega) h
theorem ownU_made(w:World)(l:List (BitVec 32))(h:l.length<=maxLen):OwnU (w.alloc (.cells (ucells l).toArray 23)) w.heap.size (.slice (some ⟨w.heap.size,0,none⟩) l.length l.length) l:=
 own_made w 1 23 l.length (ucells l) (by rw[ucells_len];omega) h
end Go.Proofs.YtjflkifodfncmaaGreatDoor
