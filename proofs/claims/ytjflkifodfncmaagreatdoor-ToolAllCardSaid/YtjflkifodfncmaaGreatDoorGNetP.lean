/- NetP, Ref08, NetMay, Find08, Step, Steps, Vec13, NetFit, OwnPut: these texts in one. Conditions: each theorem names its own. -/
import Derived.Test.YtjflkifodfncmaaGreatDoorGNet
import Derived.Test.YtjflkifodfncmaaGreatDoorGTrieL
namespace Go.Proofs.YtjflkifodfncmaaGreatDoor
set_option maxHeartbeats 2000000
open Go.RowKit
def netG(nodes:Int):List (List Rul)->Int
 |[]=>0
 |l::r=>if tabMayV nodes l≠0 then tabMayV nodes l else netG nodes r
def netMayV(ls:List (List Rul)):Int:=if 256<ls.length\/4096<sizeN ls then 12 else netG ls.length ls
theorem netG_step(nodes:Int){ls:List (List Rul)}{k:Nat}(h:k<ls.length):netG nodes (ls.drop k)=if tabMayV nodes ls[k]≠0 then tabMayV nodes ls[k]else netG nodes (ls.drop (k+1)):=by
 rw[List.drop_eq_getElem_cons h];rfl
theorem netG_end(nodes:Int){ls:List (List Rul)}{k:Nat}(h:ls.length<=k):netG nodes (ls.drop k)=0:=by rw[List.drop_of_length_le h];rfl
theorem netG_all{nodes:Int}:∀{ls:List (List Rul)},netG nodes ls=0->∀l∈ls,tabMayV nodes l=0
 |[],_,_,h=>by cases h
 |x::r,h,l,hl=>by
  unfold netG at h
  by_cases hx:tabMayV nodes x=0
  ·rw[if_neg (by simpa using hx)]at h
   rcases List.mem_cons.1 hl with rfl|hl
   ·exact hx
   ·exact netG_all h l hl
  ·rw[if_pos hx]at h;exact absurd h hx
theorem netMay_tabs{ls:List (List Rul)}(h:netMayV ls=0):ls.length<=256/\sizeN ls<=4096/\∀l∈ls,tabMayV ls.length l=0:=by
 unfold netMayV at h
 split at h
 ·cases h
 ·exact⟨by omega,by omega,netG_all h⟩
theorem cmp_one{a b:Rul}:cmpR a b=1↔ltP b a:=by
 rw[ltP_iff]
 unfold cmpR
 rw[cmpV_eq]
 constructor
 ·intro h
  split at h
  ·omega
  ·split at h
   ·omega
   ·rename_i h1 h2
    rcases Int.lt_trichotomy (uv b.pa) (uv a.pa)with g|g|g
    ·exact .inl g
    ·refine .inr ⟨uv_inj g,?_⟩
     have e:=uv_inj g
     rcases Int.lt_trichotomy b.pl a.pl with q|q|q
     ·exact q
     ·exact absurd ⟨e.symm,q.symm⟩ h2
     ·exact absurd (.inr ⟨e.symm,q⟩) h1
    ·exact absurd (.inl g) h1
 ·intro h
  rw[if_neg,if_neg]
  ·rintro⟨e1,e2⟩
   rcases h with h|⟨_,h⟩
   ·rw[e1]at h;omega
   ·omega
  ·rintro(g|⟨e1,g⟩)
   ·rcases h with h|⟨h,_⟩
    ·omega
    ·rw[h]at g;omega
   ·rcases h with h|⟨_,h⟩
    ·rw[e1]at h;omega
    ·omega
theorem tabG_spec(nodes:Int):∀(l:List Rul) (p:Option Rul),tabG nodes p l=0->(∀r∈l,ruleMayV r nodes=0)/\Sorted l/\∀q,p=some q->∀r∈l,ltP q r
 |[],p,_=>⟨fun r h=>(by cases h),List.Pairwise.nil,fun q _ r h=>(by cases h)⟩
 |x::l,p,h=>by
  unfold tabG at h
  by_cases hx:ruleMayV x nodes=0
  ·rw[if_neg (by simpa using hx)]at h
   by_cases hb:badOrd p x=true
   ·rw[if_pos hb]at h;cases h
   ·rw[if_neg hb]at h
    obtain⟨h1,h2,h3⟩:=tabG_spec nodes l (some x) h
    have h4:=h3 x rfl
    refine⟨fun r hr=>?_,List.Pairwise.cons h4 h2,fun q hq r hr=>?_⟩
    ·rcases List.mem_cons.1 hr with rfl|hr
     ·exact hx
     ·exact h1 r hr
    ·subst hq
     have hqx:ltP q x:=by
      unfold badOrd at hb
      exact cmp_one.1 (by simpa[cmpR]using hb)
     rcases List.mem_cons.1 hr with rfl|hr
     ·exact hqx
     ·exact ltP_trans hqx (h4 r hr)
  ·rw[if_pos hx]at h;exact absurd h hx
theorem ruleMay_valid{r:Rul}{nodes:Int}(h:ruleMayV r nodes=0):Valid r.pa r.pl:=by
 refine mayV_valid ?_
 by_cases g:mayV r.pa r.pl=0
 ·exact g
 ·unfold ruleMayV at h
  rw[if_pos g]at h
  exact absurd h g
theorem tab_of_may{nodes:Int}{l:List Rul}(h:tabMayV nodes l=0):Tab l:=
 let⟨h1,h2,_⟩:=tabG_spec nodes l none h
 ⟨fun r hr=>ruleMay_valid (h1 r hr),h2.imp ltP_ne⟩
theorem netMay_tab{ls:List (List Rul)}(h:netMayV ls=0):∀l∈ls,Tab l:=fun l hl=>tab_of_may ((netMay_tabs h).2.2 l hl)
def stepO(l:List Rul)(a:BitVec 32):Option Int:=
 match findL l a with
 |some r=>if r.act=1 then some r.nx else none
 |none=>none
def vecV(ls:List (List Rul))(a:BitVec 32):List Int:=ls.map fun l=>(stepO l a).getD (-1)
theorem vecV_len(ls:List (List Rul))(a:BitVec 32):(vecV ls a).length=ls.length:=List.length_map _
theorem vecV_get{ls:List (List Rul)}{a:BitVec 32}{k:Nat}(h:k<ls.length):(vecV ls a)[k]?=some ((stepO ls[k] a).getD (-1)):=by
 unfold vecV;rw[List.getElem?_map,gE h];rfl
def manyN(ls:List (List Rul)):Nat:=max 1 (min ls.length 8)
def fitN(ls:List (List Rul)):List (List Rul):=(List.range (manyN ls)).map fun i=>fitL (ls.getD i []) (manyN ls)
theorem sum_le{l:List Nat}{c:Nat}(h:∀x∈l,x<=c):l.sum<=l.length*c:=by
 induction l with
 |nil=>simp
 |cons x l ih=>
  have h1:=ih fun y hy=>h y (by simp[hy])
  have h2:=h x (by simp)
  rw[List.sum_cons,List.length_cons,Nat.succ_mul];omega
theorem sizeN_le{ls:List (List Rul)}{c:Nat}(h:∀l∈ls,l.length<=c):sizeN ls<=ls.length*c:=by
 unfold sizeN
 have:= @sum_le (ls.map List.length) c fun x hx=>by obtain⟨l,hl,rfl⟩:=List.mem_map.1 hx;exact h l hl
 rwa [List.length_map]at this
def fewN(ls:List (List Rul)):List (List Rul):=(ls.take 8).map (·.take 20)
theorem r08May_any(lv:Value)(l:List Rul)(nodes:Int)(w:World)(hl:RulesAt w lv l)(hok:RulesOk l):
 Calls Tryz.prog 109 #[lv,I nodes] w fun e w'=>e=.returned (I (tabMayV nodes l))/\Ext w w':=by
 obtain⟨ad,cap,rfl,a1,a2,a3⟩:=hl.form
 have A3:=Hd a3
 clear a3
 unfold maxLen at a2
 go_enter Tryz.func109,Tryz.ntmps109
 go_wp2_with fail
 go_loopw[5] (fun i wr=>∃k:Nat,k<=l.length/\i=I k/\Hid (tabG nodes (ahead l k) (l.drop k)=tabMayV nodes l)/\Ext w wr) (fun i _=>l.length-(intOf i).toNat)
 case atStart=>exact⟨0,by omega,rfl,rfl,eR _⟩
 case round=>
  obtain⟨k,hk,rfl,HV,hx⟩:=hrel
  by_cases hlt:k<l.length
  ·obtain⟨b0,o0,rfl,p0,p1,p2,p3⟩:=A3.out k l[k] (gE hlt)
   replace p0:=hx.cell p0
   replace p1:=hx.cell p1
   replace p2:=hx.cell p2
   replace p3:=hx.cell p3
   have HS:=Hd (tab_step nodes hlt)
   rw[HV.out]at HS
   have HOK:=Hd (hok l[k] (List.getElem_mem hlt))
   by_cases hm:ruleMayV l[k] nodes=0
   ·have hmd:(ruleMayV l[k] nodes !=0)=false:=by simpa using hm
    have HS2:=Hd (show tabMayV nodes l=if badOrd (ahead l k) l[k]then 11 else tabG nodes (ahead l (k+1)) (l.drop (k+1))by rw[HS.out,if_neg (by simpa using hm)])
    clear hm HS HV
    cases k with
    |zero=>
     simp only[Nat.zero_mul,Nat.add_zero]at p0 p1 p2 p3
     have HS3:=Hd (show tabG nodes (ahead l (0+1)) (l.drop (0+1))=tabMayV nodes l from HS2.out.symm)
     clear HS2
     go_wp2_with (first
      |(go_at_call 152;with_reducible refine(r07May_any l[0] nodes _ HOK.out).mono ?_;rintro e w2 ⟨rfl,hx2⟩))
     refine wp_region_E 14 rfl (by kernel_rfl) (by kernel_rfl) ?_
     refine WEi_at 0 ?_
     iterate 3
      refine WEi_q rfl (by decide) (by kernel_rfl) rfl ?_;apply Exists.intro;refine⟨fun w1 hx1=>?_,?_⟩
      ·have hq1:=hx1.cells;go_simp;try go_bits
       first|with_reducible rfl
      go_frame;try simp only[Nat.reduceAdd]
     refine WEi_out ?_
     refine WEi_at 3 ?_
     iterate 11
      refine WEi_s rfl (by decide) (by kernel_rfl) rfl ?_
      go_frame;try simp only[Nat.reduceAdd]
     refine WEi_out ?_
     refine WE_done (by kernel_rfl) (fun w3 hx3=>?_)
     (try simp only[List.drop_succ_cons,List.drop_zero])
     go_wp2
     go_roundw
     case rel=>exact⟨1,by omega,by go_num,HS3.out,hx.trans (hx2.trans hx3)⟩
     case measure=>simp[intOf];omega
    |succ p=>
     have hpl:p<l.length:=by omega
     obtain⟨b1,o1,hbb,q0,q1,q2,q3⟩:=A3.out p l[p] (gE hpl)
     obtain⟨rfl,rfl⟩:b0=b1/\o0=o1:=by simpa using hbb
     replace q0:=hx.cell q0
     replace q1:=hx.cell q1
     replace q2:=hx.cell q2
     replace q3:=hx.cell q3
     clear hbb
     have HA:=Hd (show ahead l (p+1)=some l[p]by unfold ahead;exact gE hpl)
     have HS4:=Hd (show tabMayV nodes l=if(cmpV l[p+1].pa l[p+1].pl l[p].pa l[p].pl !=1)=true then 11 else tabG nodes (ahead l (p+1+1)) (l.drop (p+1+1))by
      rw[HS2.out,HA.out];rfl)
     clear HS2 HA
     go_wp2_with (first
      |(go_at_call 152;with_reducible refine(r07May_any l[p+1] nodes _ HOK.out).mono ?_;rintro e w2 ⟨rfl,hx2⟩))
     have HX2:=hx.trans hx2
     have k0:=Ext.keep (hx2.cell q0)
     have k1:=Ext.keep (hx2.cell q1)
     have k2:=Ext.keep (hx2.cell q2)
     have k3:=Ext.keep (hx2.cell q3)
     have j0:=Ext.keep (hx2.cell p0)
     have j1:=Ext.keep (hx2.cell p1)
     have j2:=Ext.keep (hx2.cell p2)
     have j3:=Ext.keep (hx2.cell p3)
     have hp0:(0:Int)<=(p:Int)+1:=by omega
     by_cases hc:(cmpV l[p+1].pa l[p+1].pl l[p].pa l[p].pl !=1)=true
     ·have HS5:=Hd (HS4.out.trans (if_pos hc))
      clear HS4
      refine wp_region_E 14 rfl (by kernel_rfl) (by kernel_rfl) ?_
      refine WEi_at 0 ?_
      iterate 14
       refine WEi_q rfl (by decide) (by kernel_rfl) rfl ?_;apply Exists.intro;refine⟨fun w1 hx1=>?_,?_⟩
       ·have hq1:=hx1.cells;go_simp;try go_bits
        first|with_reducible rfl|(refine(r07Compare_any l[p+1] l[p] _).mono ?_;rintro e w2 ⟨rfl,hx2⟩;exact⟨rfl,hx2⟩)
       go_frame;try simp only[Nat.reduceAdd]
      refine WEi_out ?_
      refine WE_done (by kernel_rfl) (fun w3 hx3=>?_)
      (try simp only[List.drop_succ_cons,List.drop_zero])
      go_wp2
      go_ret
      exact⟨ret_int HS5.out.symm,HX2.trans hx3⟩
     ·have hcf:(cmpV l[p+1].pa l[p+1].pl l[p].pa l[p].pl !=1)=false:=by simpa using hc
      have HS5:=Hd (HS4.out.trans (if_neg hc))
      clear HS4 hc
      refine wp_region_E 14 rfl (by kernel_rfl) (by kernel_rfl) ?_
      refine WEi_at 0 ?_
      iterate 14
       refine WEi_q rfl (by decide) (by kernel_rfl) rfl ?_;apply Exists.intro;refine⟨fun w1 hx1=>?_,?_⟩
       ·have hq1:=hx1.cells;go_simp;try go_bits
        first|with_reducible rfl|(refine(r07Compare_any l[p+1] l[p] _).mono ?_;rintro e w2 ⟨rfl,hx2⟩;exact⟨rfl,hx2⟩)
       go_frame;try simp only[Nat.reduceAdd]
      refine WEi_out ?_
      refine WE_done (by kernel_rfl) (fun w3 hx3=>?_)
      (try simp only[List.drop_succ_cons,List.drop_zero])
      go_wp2
      go_roundw
      case rel=>exact⟨p+1+1,by omega,by go_num,HS5.out.symm,HX2.trans hx3⟩
      case measure=>simp[intOf];omega
   ·have hmd:(ruleMayV l[k] nodes !=0)=true:=by simpa using hm
    have HS2:=Hd (show ruleMayV l[k] nodes=tabMayV nodes l by rw[HS.out,if_pos (by simpa using hm)])
    clear hm HS HV
    go_wp2_with (first
     |(go_at_call 152;with_reducible refine(r07May_any l[k] nodes _ HOK.out).mono ?_;rintro e w2 ⟨rfl,hx2⟩))
    go_ret
    exact⟨ret_int HS2.out,hx.trans hx2⟩
  ·have HE:=Hd (show tabMayV nodes l=0 by rw[<-HV.out,tab_end nodes (by omega)])
   go_wp2
   go_ret
   exact⟨ret_int HE.out.symm,hx⟩
theorem netSize_any(lv:Value)(ls:List (List Rul))(w:World)(hl:TablesAt w lv ls)(hs:sizeN ls<=100000000):
 Calls Tryz.prog 79 #[.agg #[lv]] w fun e w'=>e=.returned (I (sizeN ls))/\Ext w w':=by
 obtain⟨ad,cap,rfl,a1,a2,a3⟩:=hl.form
 have A3:=Hd a3
 clear a3
 unfold maxLen at a2
 go_enter Tryz.func79,Tryz.ntmps79
 go_wp2_with fail
 go_loopw[3,9] (fun s i wr=>∃k:Nat,k<=ls.length/\i=I k/\s=I (sizeN (ls.take k))/\Ext w wr) (fun _ i _=>ls.length-(intOf i).toNat)
 case atStart=>exact⟨0,by omega,rfl,rfl,by(repeat with_reducible first|exact eR _|assumption|refine eA ?_ _|refine eD ?_|refine eW ?_ _|(refine eS ?_ ?_;focus(first|(simp;done)|(simp;omega)|omega)))⟩
 case round=>
  obtain⟨k,hk,rfl,rfl,hx⟩:=hrel
  by_cases hlt:k<ls.length
  ·obtain⟨b0,o0,u,rfl,p0,hr⟩:=A3.out k ls[k] (gE hlt)
   replace p0:=hx.cell p0
   obtain⟨ra,rcap,rfl,r1,r2,r3⟩:=hr.form
   clear r3
   unfold maxLen at r2
   have HS:=Hd (sizeN_step hlt)
   have hle:=sizeN_take ls (k+1)
   rw[HS.out]at hle
   go_wp2_with fail
   go_roundw
   case rel=>exact⟨k+1,by omega,by go_num,by rw[HS.out];go_num,hx⟩
   case measure=>simp[intOf];omega
  ·have HE:=Hd (sizeN_all (ls:=ls) (k:=k) (by omega))
   go_wp2_with fail
   go_ret
   exact⟨ret_int (by rw[HE.out]),hx⟩
theorem r09Size_any(lv:Value)(ls:List (List Rul))(w:World)(hl:TablesAt w lv ls)(hs:sizeN ls<=100000000):
 Calls Tryz.prog 108 #[.agg #[lv]] w fun e w'=>e=.returned (I (sizeN ls))/\Ext w w':=by
 obtain⟨ad,cap,rfl,a1,a2,a3⟩:=hl.form
 have A3:=Hd a3
 clear a3
 unfold maxLen at a2
 go_enter Tryz.func108,Tryz.ntmps108
 go_wp2_with fail
 go_loopw[3,4] (fun s i wr=>∃k:Nat,k<=ls.length/\i=I k/\s=I (sizeN (ls.take k))/\Blk wr w.heap.size [.slice ad ls.length cap] 43/\Ext w wr) (fun _ i _=>ls.length-(intOf i).toNat)
 case atStart=>exact⟨0,by omega,rfl,rfl,Blk.newAt [Value.slice ad ls.length cap] rfl,by(repeat with_reducible first|exact eR _|assumption|refine eA ?_ _|refine eD ?_|refine eW ?_ _|(refine eS ?_ ?_;focus(first|(simp;done)|(simp;omega)|omega)))⟩
 case round=>
  obtain⟨k,hk,rfl,rfl,hb,hx⟩:=hrel
  have hbc:=hb.cells
  by_cases hlt:k<ls.length
  ·obtain⟨b0,o0,u,rfl,p0,hr⟩:=A3.out k ls[k] (gE hlt)
   replace p0:=hx.cell p0
   obtain⟨ra,rcap,rfl,r1,r2,r3⟩:=hr.form
   clear r3
   unfold maxLen at r2
   have HS:=Hd (sizeN_step hlt)
   have hle:=sizeN_take ls (k+1)
   rw[HS.out]at hle
   go_wp2_with fail
   go_roundw
   case rel=>exact⟨k+1,by omega,by go_num,by rw[HS.out];go_num,hb,hx⟩
   case measure=>simp[intOf];omega
  ·have HE:=Hd (sizeN_all (ls:=ls) (k:=k) (by omega))
   go_wp2_with fail
   go_ret
   exact⟨ret_int (by rw[HE.out]),hx⟩
theorem netMay_any(lv:Value)(ls:List (List Rul))(w:World)(hl:TablesAt w lv ls)(hok:TablesOk ls)(hs:sizeN ls<=100000000):
 Calls Tryz.prog 30 #[.agg #[lv]] w fun e w'=>e=.returned (I (netMayV ls))/\Ext w w':=by
 have HL:=Hd hl
 obtain⟨ad,cap,rfl,a1,a2,a3⟩:=hl.form
 have A3:=Hd a3
 clear a3 hl
 unfold maxLen at a2
 by_cases hbig:256<ls.length
 ·have HV:=Hd (show netMayV ls=12 by unfold netMayV;rw[if_pos (.inl hbig)])
  have hbd:decide ((ls.length:Int)>256)=true:=dT (by omega)
  go_enter Tryz.func30,Tryz.ntmps30
  go_wp2_with fail
  go_ret
  exact⟨ret_int HV.out.symm,by(repeat with_reducible first|exact eR _|assumption|refine eA ?_ _|refine eD ?_|refine eW ?_ _|(refine eS ?_ ?_;focus(first|(simp;done)|(simp;omega)|omega)))⟩
 ·have hbd:decide ((ls.length:Int)>256)=false:=by simp;omega
  have HX:=Hd ((eR w).alloc (.cells #[Value.slice ad ls.length cap] 43))
  have HB:=Hd (Blk.newAt (w:=w) (T:=43) [Value.slice ad ls.length cap] rfl)
  by_cases hsz:4096<sizeN ls
  ·have HV:=Hd (show netMayV ls=12 by unfold netMayV;rw[if_pos (.inr hsz)])
   have hsd:decide ((sizeN ls:Int)>4096)=true:=dT (by omega)
   go_enter Tryz.func30,Tryz.ntmps30
   go_wp2_with (first
    |(go_at_call 79;(with_reducible refine(netSize_any _ ls _ (HL.out.later HX.out) hs).mono ?_);rintro e w2 ⟨rfl,hx2⟩;have HX2:=Hd hx2;clear hx2))
   go_ret
   exact⟨ret_int HV.out.symm,HX.out.trans HX2.out⟩
  ·have HV:=Hd (show netMayV ls=netG ls.length ls by unfold netMayV;rw[if_neg (by omega)])
   have hsd:decide ((sizeN ls:Int)>4096)=false:=by simp;omega
   go_enter Tryz.func30,Tryz.ntmps30
   go_upto_region 3 with(first
    |(go_at_call 79;(with_reducible refine(netSize_any _ ls _ (HL.out.later HX.out) hs).mono ?_);rintro e w2 ⟨rfl,hx2⟩;have HX2:=Hd (HX.out.trans hx2);have HB2:=Hd (HB.out.later hx2);clear hx2;have hb2c:=HB2.out.cells))
   go_wp2_with fail
   go_loopw[18] (fun i wr=>∃k:Nat,k<=ls.length/\i=I k/\Hid (netG ls.length (ls.drop k)=netMayV ls)/\Ext w2 wr) (fun i _=>ls.length-(intOf i).toNat)
   case atStart=>exact⟨0,by omega,rfl,HV.out.symm,eR _⟩
   case round=>
    obtain⟨k,hk,rfl,HN,hx⟩:=hrel
    have hbc:=(HB2.out.later hx).cells
    have HXW:=Hd (HX2.out.trans hx)
    by_cases hlt:k<ls.length
    ·obtain⟨b0,o0,u,rfl,p0,hr⟩:=A3.out k ls[k] (gE hlt)
     replace p0:=HXW.out.cell p0
     have HR:=Hd (hr.later HXW.out)
     have HOK:=Hd (hok.at hlt)
     have HS:=Hd (netG_step ls.length hlt)
     rw[HN.out]at HS
     clear hr
     by_cases hm:tabMayV ls.length ls[k]=0
     ·have hmd:(tabMayV ls.length ls[k] !=0)=false:=by simpa using hm
      have HS2:=Hd (HS.out.trans (if_neg (by simpa using hm)))
      clear hm HS HN
      go_wp2_with (first
       |(go_at_call 80;(with_reducible refine(tableMay_any _ ls[k] _ _ HR.out HOK.out).mono ?_);rintro e w3 ⟨rfl,hx3⟩;have HX3:=Hd hx3;clear hx3))
      go_roundw
      case rel=>exact⟨k+1,by omega,by go_num,HS2.out.symm,hx.trans HX3.out⟩
      case measure=>simp[intOf];omega
     ·have hmd:(tabMayV ls.length ls[k] !=0)=true:=by simpa using hm
      have HS2:=Hd (HS.out.trans (if_pos hm))
      clear hm HS HN
      go_wp2_with (first
       |(go_at_call 80;(with_reducible refine(tableMay_any _ ls[k] _ _ HR.out HOK.out).mono ?_);rintro e w3 ⟨rfl,hx3⟩;have HX3:=Hd hx3;clear hx3))
      go_ret
      exact⟨ret_int HS2.out.symm,HXW.out.trans HX3.out⟩
    ·have HE:=Hd (HN.out.symm.trans (netG_end ls.length (ls:=ls) (k:=k) (by omega)))
     go_wp2_with fail
     go_ret
     exact⟨ret_int HE.out.symm,HXW.out⟩
theorem r09May_any(lv:Value)(ls:List (List Rul))(w:World)(hl:TablesAt w lv ls)(hok:TablesOk ls)(hs:sizeN ls<=100000000):
 Calls Tryz.prog 50 #[.agg #[lv]] w fun e w'=>e=.returned (I (netMayV ls))/\Ext w w':=by
 have HL:=Hd hl
 obtain⟨ad,cap,rfl,a1,a2,a3⟩:=hl.form
 have A3:=Hd a3
 clear a3 hl
 unfold maxLen at a2
 by_cases hbig:256<ls.length
 ·have HV:=Hd (show netMayV ls=12 by unfold netMayV;rw[if_pos (.inl hbig)])
  have hbd:decide ((ls.length:Int)>256)=true:=dT (by omega)
  go_enter Tryz.func50,Tryz.ntmps50
  go_wp2_with fail
  go_ret
  exact⟨ret_int HV.out.symm,by(repeat with_reducible first|exact eR _|assumption|refine eA ?_ _|refine eD ?_|refine eW ?_ _|(refine eS ?_ ?_;focus(first|(simp;done)|(simp;omega)|omega)))⟩
 ·have hbd:decide ((ls.length:Int)>256)=false:=by simp;omega
  have HX:=Hd ((eR w).alloc (.cells #[Value.slice ad ls.length cap] 43))
  have HB:=Hd (Blk.newAt (w:=w) (T:=43) [Value.slice ad ls.length cap] rfl)
  by_cases hsz:4096<sizeN ls
  ·have HV:=Hd (show netMayV ls=12 by unfold netMayV;rw[if_pos (.inr hsz)])
   have hsd:decide ((sizeN ls:Int)>4096)=true:=dT (by omega)
   go_enter Tryz.func50,Tryz.ntmps50
   go_wp2_with (first
    |(go_at_call 108;(with_reducible refine(r09Size_any _ ls _ (HL.out.later HX.out) hs).mono ?_);rintro e w2 ⟨rfl,hx2⟩;have HX2:=Hd hx2;clear hx2))
   go_ret
   exact⟨ret_int HV.out.symm,HX.out.trans HX2.out⟩
  ·have HV:=Hd (show netMayV ls=netG ls.length ls by unfold netMayV;rw[if_neg (by omega)])
   have hsd:decide ((sizeN ls:Int)>4096)=false:=by simp;omega
   go_enter Tryz.func50,Tryz.ntmps50
   go_upto_region 3 with(first
    |(go_at_call 108;(with_reducible refine(r09Size_any _ ls _ (HL.out.later HX.out) hs).mono ?_);rintro e w2 ⟨rfl,hx2⟩;have HX2:=Hd (HX.out.trans hx2);have HB2:=Hd (HB.out.later hx2);clear hx2;have hb2c:=HB2.out.cells))
   go_wp2_with fail
   go_loopw[3] (fun i wr=>∃k:Nat,k<=ls.length/\i=I k/\Hid (netG ls.length (ls.drop k)=netMayV ls)/\Ext w2 wr) (fun i _=>ls.length-(intOf i).toNat)
   case atStart=>exact⟨0,by omega,rfl,HV.out.symm,eR _⟩
   case round=>
    obtain⟨k,hk,rfl,HN,hx⟩:=hrel
    have hbk:=(HB2.out.later hx).keep
    have hbc:=(HB2.out.later hx).cells
    have HXW:=Hd (HX2.out.trans hx)
    by_cases hlt:k<ls.length
    ·obtain⟨b0,o0,u,rfl,p0,hr⟩:=A3.out k ls[k] (gE hlt)
     replace p0:=Ext.keep (HXW.out.cell p0)
     have HR:=Hd (hr.later HXW.out)
     have HOK:=Hd (hok.at hlt)
     have HS:=Hd (netG_step ls.length hlt)
     rw[HN.out]at HS
     clear hr
     by_cases hm:tabMayV ls.length ls[k]=0
     ·have hmd:(tabMayV ls.length ls[k] !=0)=false:=by simpa using hm
      have HS2:=Hd (HS.out.trans (if_neg (by simpa using hm)))
      clear hm HS HN
      go_wp2_with fail
      refine wp_region_E 9 rfl (by kernel_rfl) (by kernel_rfl) ?_
      refine WEi_at 0 ?_
      iterate 9
       refine WEi_q rfl (by decide) (by kernel_rfl) rfl ?_;apply Exists.intro;refine⟨fun w1 hx1=>?_,?_⟩
       ·have hq1:=hx1.cells;go_simp;try go_bits
        first|with_reducible rfl|(refine(r08May_any _ ls[k] _ _ (HR.out.later hx1) HOK.out).mono ?_;rintro e w2 ⟨rfl,hx2⟩;exact⟨rfl,hx2⟩)
       go_frame;try simp only[Nat.reduceAdd]
      refine WEi_out ?_
      refine WE_done (by kernel_rfl) (fun w3 hx3=>?_)
      (try simp only[List.drop_succ_cons,List.drop_zero])
      have HX3:=Hd hx3
      clear hx3
      go_wp2_with fail
      go_roundw
      case rel=>exact⟨k+1,by omega,by go_num,HS2.out.symm,hx.trans HX3.out⟩
      case measure=>simp[intOf];omega
     ·have hmd:(tabMayV ls.length ls[k] !=0)=true:=by simpa using hm
      have HS2:=Hd (HS.out.trans (if_pos hm))
      clear hm HS HN
      go_wp2_with fail
      refine wp_region_E 9 rfl (by kernel_rfl) (by kernel_rfl) ?_
      refine WEi_at 0 ?_
      iterate 9
       refine WEi_q rfl (by decide) (by kernel_rfl) rfl ?_;apply Exists.intro;refine⟨fun w1 hx1=>?_,?_⟩
       ·have hq1:=hx1.cells;go_simp;try go_bits
        first|with_reducible rfl|(refine(r08May_any _ ls[k] _ _ (HR.out.later hx1) HOK.out).mono ?_;rintro e w2 ⟨rfl,hx2⟩;exact⟨rfl,hx2⟩)
       go_frame;try simp only[Nat.reduceAdd]
      refine WEi_out ?_
      refine WE_done (by kernel_rfl) (fun w3 hx3=>?_)
      (try simp only[List.drop_succ_cons,List.drop_zero])
      have HX3:=Hd hx3
      clear hx3
      go_wp2_with fail
      go_ret
      exact⟨ret_int HS2.out.symm,HXW.out.trans HX3.out⟩
    ·have HE:=Hd (HN.out.symm.trans (netG_end ls.length (ls:=ls) (k:=k) (by omega)))
     go_wp2_with fail
     go_ret
     exact⟨ret_int HE.out.symm,HXW.out⟩
def BestAt(l:List Rul)(o:Option Rul)(b:Int):Prop:=(o=none/\b= -1)\/∃(j:Nat) (h:j<l.length),o=some l[j]/\b=j
theorem r08Find_any(lv:Value)(l:List Rul)(a:BitVec 32)(w:World)(hl:RulesAt w lv l)(hok:RulesOk l):
 Calls Tryz.prog 21 #[lv,U a] w fun e w'=>e=.returned (foundV (findL l a))/\Ext w w':=by
 obtain⟨ad,cap,rfl,a1,a2,a3⟩:=hl.form
 have A3:=Hd a3
 clear a3
 unfold maxLen at a2
 go_enter Tryz.func21,Tryz.ntmps21
 go_wp2_with fail
 go_loopw[6,7] (fun b i wr=>∃(k:Nat) (o:Option Rul) (bi:Int),k<=l.length/\i=I k/\b=I bi/\Hid (o=findL (l.take k) a)/\Hid (BestAt l o bi)/\Blk wr w.heap.size zeroR.cells 39/\Ext w wr) (fun _ i _=>l.length-(intOf i).toNat)
 case atStart=>exact⟨0,none,-1,by omega,rfl,rfl,rfl,.inl ⟨rfl,rfl⟩,Blk.newAt zeroR.cells rfl,by(repeat with_reducible first|exact eR _|assumption|refine eA ?_ _|refine eD ?_|refine eW ?_ _|(refine eS ?_ ?_;focus(first|(simp;done)|(simp;omega)|omega)))⟩
 case round=>
  obtain⟨k,o,bi,hk,rfl,rfl,HO,HB,hz,hx⟩:=hrel
  by_cases hlt:k<l.length
  ·obtain⟨b0,o0,rfl,p0,p1,p2,p3⟩:=A3.out k l[k] (gE hlt)
   replace p0:=Ext.keep (hx.cell p0)
   replace p1:=Ext.keep (hx.cell p1)
   clear p2 p3
   have HOK:=Hd (hok l[k] (List.getElem_mem hlt))
   have HST:=Hd (findL_step l a k hlt)
   rw[<-HO.out]at HST
   by_cases hh:holdsV l[k].pa l[k].pl a=true
   ·rcases HB.out with⟨ho,hb⟩|⟨j,hj,ho,hb⟩
    ·subst ho hb
     have HN:=Hd (HST.out.trans (show findStep a none l[k]=some l[k]by unfold findStep;rw[if_pos];unfold better;rw[hh];rfl))
     clear HST HO HB
     go_wp2_with fail
     refine wp_region_E 28 rfl (by kernel_rfl) (by kernel_rfl) ?_
     refine WEi_at 0 ?_
     iterate 16
      refine WEi_q rfl (by decide) (by kernel_rfl) rfl ?_;apply Exists.intro;refine⟨fun w1 hx1=>?_,?_⟩
      ·have hq1:=hx1.cells;go_simp;try go_bits
       first|with_reducible rfl|(refine(r06Holds_any _ _ _ _ HOK.out.pl).mono ?_;rintro e w2 ⟨rfl,rfl⟩;exact⟨rfl,eR _⟩)
      go_frame;try simp only[Nat.reduceAdd]
     refine WEi_out ?_
     refine WEi_at 16 ?_
     iterate 11
      refine WEi_s rfl (by decide) (by kernel_rfl) rfl ?_
      go_frame;try simp only[Nat.reduceAdd]
     refine WEi_out ?_
     refine WE_q 27 rfl (by decide) (by kernel_rfl) rfl ?_;apply Exists.intro;refine⟨fun w1 hx1=>?_,?_⟩
     ·have hq1:=hx1.cells;go_simp;try go_bits
      first|with_reducible rfl
     go_frame
     refine WE_done (by kernel_rfl) (fun w3 hx3=>?_)
     (try simp only[List.drop_succ_cons,List.drop_zero])
     go_wp2_with fail
     go_roundw
     case rel=>exact⟨k+1,some l[k],(k:Int),by omega,by go_num,rfl,HN.out.symm,.inr ⟨k,hlt,rfl,rfl⟩,hz.later hx3,hx.trans hx3⟩
     case measure=>simp[intOf];omega
    ·subst ho hb
     obtain⟨b1,o1,hbb,q0,q1,q2,q3⟩:=A3.out j l[j] (gE hj)
     obtain⟨rfl,rfl⟩:b0=b1/\o0=o1:=by simpa using hbb
     replace q1:=Ext.keep (hx.cell q1)
     clear q0 q2 q3 hbb
     by_cases hc:l[j].pl<l[k].pl
     ·have hcd:decide (l[j].pl<l[k].pl)=true:=by simpa using hc
      have HN:=Hd (HST.out.trans (show findStep a (some l[j]) l[k]=some l[k]by unfold findStep;rw[if_pos];unfold better;rw[hh];simpa using hc))
      clear HST HO HB hc
      go_wp2_with fail
      refine wp_region_E 28 rfl (by kernel_rfl) (by kernel_rfl) ?_
      refine WEi_at 0 ?_
      iterate 28
       refine WEi_q rfl (by decide) (by kernel_rfl) rfl ?_;apply Exists.intro;refine⟨fun w1 hx1=>?_,?_⟩
       ·have hq1:=hx1.cells;go_simp;try go_bits
        first|with_reducible rfl|(refine(r06Holds_any _ _ _ _ HOK.out.pl).mono ?_;rintro e w2 ⟨rfl,rfl⟩;exact⟨rfl,eR _⟩)
       go_frame;try simp only[Nat.reduceAdd]
      refine WEi_out ?_
      refine WE_done (by kernel_rfl) (fun w3 hx3=>?_)
      (try simp only[List.drop_succ_cons,List.drop_zero])
      go_wp2_with fail
      go_roundw
      case rel=>exact⟨k+1,some l[k],(k:Int),by omega,by go_num,rfl,HN.out.symm,.inr ⟨k,hlt,rfl,rfl⟩,hz.later hx3,hx.trans hx3⟩
      case measure=>simp[intOf];omega
     ·have hcd:decide (l[j].pl<l[k].pl)=false:=by simpa using hc
      have HN:=Hd (HST.out.trans (show findStep a (some l[j]) l[k]=some l[j]by unfold findStep;rw[if_neg];unfold better;rw[hh];simpa using hc))
      clear HST HO HB hc
      go_wp2_with fail
      refine wp_region_E 28 rfl (by kernel_rfl) (by kernel_rfl) ?_
      refine WEi_at 0 ?_
      iterate 28
       refine WEi_q rfl (by decide) (by kernel_rfl) rfl ?_;apply Exists.intro;refine⟨fun w1 hx1=>?_,?_⟩
       ·have hq1:=hx1.cells;go_simp;try go_bits
        first|with_reducible rfl|(refine(r06Holds_any _ _ _ _ HOK.out.pl).mono ?_;rintro e w2 ⟨rfl,rfl⟩;exact⟨rfl,eR _⟩)
       go_frame;try simp only[Nat.reduceAdd]
      refine WEi_out ?_
      refine WE_done (by kernel_rfl) (fun w3 hx3=>?_)
      (try simp only[List.drop_succ_cons,List.drop_zero])
      go_wp2_with fail
      go_roundw
      case rel=>exact⟨k+1,some l[j],(j:Int),by omega,by go_num,rfl,HN.out.symm,.inr ⟨j,hj,rfl,rfl⟩,hz.later hx3,hx.trans hx3⟩
      case measure=>simp[intOf];omega
   ·have hhd:holdsV l[k].pa l[k].pl a=false:=by simpa using hh
    have HN:=Hd (HST.out.trans (show findStep a o l[k]=o by unfold findStep;rw[if_neg];unfold better;rw[hhd];simp))
    clear hh HST HO
    go_wp2_with fail
    refine wp_region_E 28 rfl (by kernel_rfl) (by kernel_rfl) ?_
    refine WEi_at 0 ?_
    iterate 13
     refine WEi_q rfl (by decide) (by kernel_rfl) rfl ?_;apply Exists.intro;refine⟨fun w1 hx1=>?_,?_⟩
     ·have hq1:=hx1.cells;go_simp;try go_bits
      first|with_reducible rfl|(refine(r06Holds_any _ _ _ _ HOK.out.pl).mono ?_;rintro e w2 ⟨rfl,rfl⟩;exact⟨rfl,eR _⟩)
     go_frame;try simp only[Nat.reduceAdd]
    refine WEi_out ?_
    refine WEi_at 13 ?_
    iterate 15
     refine WEi_s rfl (by decide) (by kernel_rfl) rfl ?_
     go_frame;try simp only[Nat.reduceAdd]
    refine WEi_out ?_
    refine WE_done (by kernel_rfl) (fun w3 hx3=>?_)
    (try simp only[List.drop_succ_cons,List.drop_zero])
    go_wp2_with fail
    go_roundw
    case rel=>exact⟨k+1,o,bi,by omega,by go_num,rfl,HN.out.symm,HB.out,hz.later hx3,hx.trans hx3⟩
    case measure=>simp[intOf];omega
  ·have HN:=Hd (show findL l a=o by rw[HO.out,List.take_of_length_le (by omega)])
   have hzf:=hz.frozen
   have hzc:=hz.cells
   have hzl:=hz.lt
   rcases HB.out with⟨ho,hb⟩|⟨j,hj,ho,hb⟩
   ·subst ho hb
    have HR:=Hd (show foundV (findL l a)=.tuple #[zeroR.val,.bool false]by rw[HN.out];rfl)
    clear HO HB HN
    go_wp2_with fail
    have hb4:Blk ((((wr.setCell ⟨w.heap.size,0,none⟩ (.int .u32 0)).setCell ⟨w.heap.size,1,none⟩ (I 0)).setCell ⟨w.heap.size,2,none⟩ (I 0)).setCell ⟨w.heap.size,3,none⟩ (I 0)) w.heap.size zeroR.cells 39:=by(repeat(first|with_reducible assumption|with_reducible refine Blk.old ?_ _|with_reducible refine Blk.drew ?_|(with_reducible refine Blk.otherP ?_ ?_;focus(first|(simp;done)|(simp;omega)))|with_reducible exact Row4.of (by with_reducible assumption)|refine Blk.set4 ?_|with_reducible refine Row4.old ?_ _))
    have hbc:=hb4.cells
    clear hzc
    refine bodyPost_ret (v:=foundV (findL l a)) ?_ rfl ⟨rfl,?_⟩
    ·rw[HR.out];simp[results,Tryz.results21,go_sem,hbc]
    ·(repeat with_reducible first|exact eR _|assumption|refine eA ?_ _|refine eD ?_|refine eW ?_ _|(refine eS ?_ ?_;focus(first|(simp;done)|(simp;omega)|omega)))
   ·subst ho hb
    obtain⟨b1,o1,rfl,q0,q1,q2,q3⟩:=A3.out j l[j] (gE hj)
    replace q0:=hx.cell q0
    replace q1:=hx.cell q1
    replace q2:=hx.cell q2
    replace q3:=hx.cell q3
    have HR:=Hd (show foundV (findL l a)=.tuple #[l[j].val,.bool true]by rw[HN.out];rfl)
    clear HO HB HN
    go_wp2_with fail
    have hb4:Blk ((((wr.setCell ⟨w.heap.size,0,none⟩ (U l[j].pa)).setCell ⟨w.heap.size,1,none⟩ (I l[j].pl)).setCell ⟨w.heap.size,2,none⟩ (I l[j].act)).setCell ⟨w.heap.size,3,none⟩ (I l[j].nx)) w.heap.size l[j].cells 39:=by(repeat(first|with_reducible assumption|with_reducible refine Blk.old ?_ _|with_reducible refine Blk.drew ?_|(with_reducible refine Blk.otherP ?_ ?_;focus(first|(simp;done)|(simp;omega)))|with_reducible exact Row4.of (by with_reducible assumption)|refine Blk.set4 ?_|with_reducible refine Row4.old ?_ _))
    have hbc:=hb4.cells
    clear hzc
    refine bodyPost_ret (v:=foundV (findL l a)) ?_ rfl ⟨rfl,?_⟩
    ·rw[HR.out];simp[results,Tryz.results21,go_sem,hbc]
    ·(repeat with_reducible first|exact eR _|assumption|refine eA ?_ _|refine eD ?_|refine eW ?_ _|(refine eS ?_ ?_;focus(first|(simp;done)|(simp;omega)|omega)))
abbrev stepV(o:Option Int):Value:=.tuple #[I (o.getD 0),.bool o.isSome]
inductive NextWay (l:List Rul) (a:BitVec 32):Prop where
 |none (h:findL l a=none) (v:Hid (stepO l a=none))
 |other (r:Rul) (h:findL l a=some r) (n:((resR (some r)).act !=1)=true) (v:Hid (stepO l a=none))
 |next (r:Rul) (h:findL l a=some r) (n:((resR (some r)).act !=1)=false) (v:Hid (stepO l a=some r.nx))
theorem next_way(l:List Rul)(a:BitVec 32):NextWay l a:=by
 cases h:findL l a with
 |none=>exact .none h (by show _=_;unfold stepO;rw[h])
 |some r=>
  by_cases g:r.act=1
  ·exact .next r h (by simpa[resR]using g) (by show _=_;unfold stepO;rw[h];simp[g])
  ·exact .other r h (by simpa[resR]using g) (by show _=_;unfold stepO;rw[h];simp[g])
theorem tableNext_any(lv:Value)(l:List Rul)(a:BitVec 32)(w:World)(hl:RulesAt w lv l)(hok:RulesOk l):
 Calls Tryz.prog 197 #[lv,U a] w fun e w'=>e=.returned (stepV (stepO l a))/\Ext w w':=by
 have HL:=Hd hl
 have HOK:=Hd hok
 clear hl hok
 have W:=next_way l a
 rcases W with⟨h,v⟩|⟨r,h,n,v⟩|⟨r,h,n,v⟩
 all_goals
  have H:=Hd h
  clear h
  go_enter Tryz.func197,Tryz.ntmps197
  go_wp2_with (first|(go_at_call 58;(with_reducible refine(tableFind_any _ l a _ HL.out HOK.out).mono ?_);rintro e w1 ⟨he,hx1⟩;rw[H.out]at he;subst he;have HX:=Hd hx1;clear hx1))
  go_ret2
  exact⟨by rw[v.out];rfl,by have:=HX.out;(repeat with_reducible first|exact eR _|assumption|refine eA ?_ _|refine eD ?_|refine eW ?_ _|(refine eS ?_ ?_;focus(first|(simp;done)|(simp;omega)|omega)))⟩
theorem r08Next_any(lv:Value)(l:List Rul)(a:BitVec 32)(w:World)(hl:RulesAt w lv l)(hok:RulesOk l):
 Calls Tryz.prog 168 #[lv,U a] w fun e w'=>e=.returned (stepV (stepO l a))/\Ext w w':=by
 have HL:=Hd hl
 have HOK:=Hd hok
 clear hl hok
 have W:=next_way l a
 rcases W with⟨h,v⟩|⟨r,h,n,v⟩|⟨r,h,n,v⟩
 all_goals
  have H:=Hd h
  clear h
  go_enter Tryz.func168,Tryz.ntmps168
  go_wp2_with (first|(go_at_call 21;(with_reducible refine(r08Find_any _ l a _ HL.out HOK.out).mono ?_);rintro e w1 ⟨he,hx1⟩;rw[H.out]at he;subst he;have HX:=Hd hx1;clear hx1))
  go_ret2
  exact⟨by rw[v.out];rfl,by have:=HX.out;(repeat with_reducible first|exact eR _|assumption|refine eA ?_ _|refine eD ?_|refine eW ?_ _|(refine eS ?_ ?_;focus(first|(simp;done)|(simp;omega)|omega)))⟩
def stepN(ls:List (List Rul))(a:BitVec 32)(v:Int):Option Int:=if v<0 then none else(ls[v.toNat]?).bind fun l=>stepO l a
theorem stepN_out{ls:List (List Rul)}{a:BitVec 32}{v:Int}(h:v<0\/(ls.length:Int)<=v):stepN ls a v=none:=by
 unfold stepN
 by_cases g:v<0
 ·rw[if_pos g]
 ·rw[if_neg g,List.getElem?_eq_none (by omega)];rfl
theorem stepN_in{ls:List (List Rul)}{a:BitVec 32}{k:Nat}(h:k<ls.length):stepN ls a k=stepO ls[k] a:=by
 unfold stepN
 rw[if_neg (by omega),Int.toNat_natCast,gE h];rfl
theorem netIs_any(lv:Value)(ls:List (List Rul))(v:Int)(w:World)(hl:TablesAt w lv ls):
 Calls Tryz.prog 196 #[.agg #[lv],I v] w fun e w'=>e=.returned (.bool (decide (0<=v)&&decide (v<ls.length)))/\Ext w w':=by
 obtain⟨ad,cap,rfl,a1,a2,a3⟩:=hl.form
 clear a3
 unfold maxLen at a2
 by_cases h:0<=v
 ·have hd:decide (0<=v)=true:=dT h
  go_enter Tryz.func196,Tryz.ntmps196
  go_wp2_with fail
  go_ret
  exact⟨by first|rfl|(rw[hd];simp;done)|simp[hd],by(repeat with_reducible first|exact eR _|assumption|refine eA ?_ _|refine eD ?_|refine eW ?_ _|(refine eS ?_ ?_;focus(first|(simp;done)|(simp;omega)|omega)))⟩
 ·have hd:decide (0<=v)=false:=dF h
  go_enter Tryz.func196,Tryz.ntmps196
  go_wp2_with fail
  go_ret
  exact⟨by first|rfl|(rw[hd];simp;done)|simp[hd],by(repeat with_reducible first|exact eR _|assumption|refine eA ?_ _|refine eD ?_|refine eW ?_ _|(refine eS ?_ ?_;focus(first|(simp;done)|(simp;omega)|omega)))⟩
theorem netStep_any(lv:Value)(ls:List (List Rul))(a:BitVec 32)(v:Int)(w:World)(hl:TablesAt w lv ls)(hok:TablesOk ls):
 Calls Tryz.prog 166 #[.agg #[lv],U a,I v] w fun e w'=>e=.returned (stepV (stepN ls a v))/\Ext w w':=by
 have HL:=Hd hl
 obtain⟨ad,cap,rfl,a1,a2,a3⟩:=hl.form
 have A3:=Hd a3
 have HX:=Hd ((eR w).alloc (.cells #[Value.slice ad ls.length cap] 43))
 have HB:=Hd (Blk.newAt (w:=w) (T:=43) [Value.slice ad ls.length cap] rfl)
 clear a3 hl
 unfold maxLen at a2
 by_cases h:0<=v/\v<ls.length
 ·obtain⟨k,rfl⟩:∃k:Nat,v=k:=⟨v.toNat,by omega⟩
  have hlt:k<ls.length:=by omega
  have hd:(decide (0<=(k:Int))&&decide ((k:Int)<ls.length))=true:=by simp;omega
  obtain⟨b0,o0,u,rfl,p0,hr⟩:=A3.out k ls[k] (gE hlt)
  have HP:=Hd p0
  have HR:=Hd hr
  have HOK:=Hd (hok.at hlt)
  have HV:=Hd (stepN_in (a:=a) hlt)
  clear p0 hr h
  go_enter Tryz.func166,Tryz.ntmps166
  go_wp2_with (first
   |(go_at_call 196;(with_reducible refine(netIs_any _ ls _ _ (HL.out.later HX.out)).mono ?_);rintro e w1 ⟨he,hx1⟩;rw[hd]at he;subst he;have HX1:=Hd (HX.out.trans hx1);have hbc:=(HB.out.later hx1).cells;have hpc:=HX1.out.cell HP.out;clear hx1)
   |(go_at_call 197;(with_reducible refine(tableNext_any _ ls[k] a _ (HR.out.later HX1.out) HOK.out).mono ?_);rintro e w2 ⟨rfl,hx2⟩;have HX2:=Hd hx2;clear hx2))
  go_ret2
  exact⟨by rw[HV.out];rfl,HX1.out.trans HX2.out⟩
 ·have hd:(decide (0<=v)&&decide (v<ls.length))=false:=by
   rw[Bool.and_eq_false_iff]
   rcases Int.lt_or_le v 0 with g|g
   ·exact .inl (dF (by omega))
   ·exact .inr (dF (by omega))
  have HV:=Hd (stepN_out (ls:=ls) (a:=a) (v:=v) (by omega))
  clear h
  go_enter Tryz.func166,Tryz.ntmps166
  go_wp2_with (first
   |(go_at_call 196;(with_reducible refine(netIs_any _ ls _ _ (HL.out.later HX.out)).mono ?_);rintro e w1 ⟨he,hx1⟩;rw[hd]at he;subst he;have HX1:=Hd (HX.out.trans hx1);clear hx1))
  go_ret2
  exact⟨by rw[HV.out];rfl,HX1.out⟩
theorem r09Step_any(lv:Value)(ls:List (List Rul))(a:BitVec 32)(v:Int)(w:World)(hl:TablesAt w lv ls)(hok:TablesOk ls):
 Calls Tryz.prog 128 #[.agg #[lv],U a,I v] w fun e w'=>e=.returned (stepV (stepN ls a v))/\Ext w w':=by
 have HL:=Hd hl
 obtain⟨ad,cap,rfl,a1,a2,a3⟩:=hl.form
 have A3:=Hd a3
 have HX:=Hd ((eR w).alloc (.cells #[Value.slice ad ls.length cap] 43))
 clear a3 hl
 unfold maxLen at a2
 by_cases h0:v<0
 ·have hd:decide (v<0)=true:=dT h0
  have HV:=Hd (stepN_out (ls:=ls) (a:=a) (v:=v) (.inl h0))
  clear h0
  go_enter Tryz.func128,Tryz.ntmps128
  go_wp2_with fail
  go_ret2
  exact⟨by rw[HV.out];rfl,HX.out⟩
 ·have hd0:decide (v<0)=false:=dF h0
  by_cases h1:(ls.length:Int)<=v
  ·have hd1:decide ((ls.length:Int)<=v)=true:=dT h1
   have HV:=Hd (stepN_out (ls:=ls) (a:=a) (v:=v) (.inr h1))
   clear h0 h1
   go_enter Tryz.func128,Tryz.ntmps128
   go_wp2_with fail
   go_ret2
   exact⟨by rw[HV.out];rfl,HX.out⟩
  ·obtain⟨k,rfl⟩:∃k:Nat,v=k:=⟨v.toNat,by omega⟩
   have hlt:k<ls.length:=by omega
   have hd1:decide (ls.length<=k)=false:=dF (by omega)
   obtain⟨b0,o0,u,rfl,p0,hr⟩:=A3.out k ls[k] (gE hlt)
   have HR:=Hd hr
   have HOK:=Hd (hok.at hlt)
   have HV:=Hd (stepN_in (a:=a) hlt)
   have hpc:=HX.out.cell p0
   clear hr h0 h1 hd0
   go_enter Tryz.func128,Tryz.ntmps128
   go_wp2_with (first
    |(go_at_call 168;(with_reducible refine(r08Next_any _ ls[k] a _ (HR.out.later HX.out) HOK.out).mono ?_);rintro e w2 ⟨rfl,hx2⟩;have HX2:=Hd hx2;clear hx2))
   go_ret2
   exact⟨by rw[HV.out];rfl,HX.out.trans HX2.out⟩
theorem r09Row_any(va vb:Value)(la lb:List Int)(w:World)(ha:IntsAt w va la)(hb:IntsAt w vb lb):
 Calls Tryz.prog 112 #[va,vb] w fun e w'=>e=.returned (.bool (decide (la=lb)))/\Ext w w':=by
 obtain⟨a,cap,rfl,a1,a2,a3⟩:=ha.form
 obtain⟨b,cap',rfl,b1,b2,b3⟩:=hb.form
 have A3:=Hd a3
 have B3:=Hd b3
 clear a3 b3
 unfold maxLen at a2 b2
 by_cases hl:la.length=lb.length
 ·have hle:((la.length:Int) !=lb.length)=false:=by simp[hl]
  have HL:=Hd hl
  clear hl
  go_enter Tryz.func112,Tryz.ntmps112
  go_wp2
  go_loopw[5] (fun i wr=>∃k:Nat,k<=la.length/\i=I k/\la.take k=lb.take k/\Ext w wr) (fun i _=>la.length-(intOf i).toNat)
  case atStart=>exact⟨0,by omega,rfl,rfl,eR w⟩
  case round=>
   obtain⟨k,hk,rfl,ht,hx⟩:=hrel
   have HT:=Hd ht
   clear ht
   by_cases hlt:k<la.length
   ·obtain⟨b0,o0,rfl,p0⟩:=A3.out k la[k] (gE hlt)
    have hlt':k<lb.length:=by rw[<-HL.out];exact hlt
    obtain⟨b1,o1,rfl,q0⟩:=B3.out k lb[k] (gE hlt')
    replace p0:=hx.cell p0
    replace q0:=hx.cell q0
    by_cases he:la[k]=lb[k]
    ·have hd:(la[k] !=lb[k])=false:=by simpa using he
     have HT':=Hd (take_same HT.out hlt hlt' he)
     clear he
     go_wp2_with fail
     go_quiet (fail)
     go_wp2
     go_roundw
     case rel=>exact⟨k+1,by omega,by go_num,HT'.out,hx.drewN _⟩
     case measure=>simp[intOf];omega
    ·have hd:(la[k] !=lb[k])=true:=by simpa using he
     have H:=Hd (show decide (la=lb)=false by rw[decide_eq_false_iff_not];intro e;subst e;exact he rfl)
     clear he
     go_wp2_with fail
     go_quiet (fail)
     go_wp2
     go_ret
     exact⟨ret_bool H.out.symm,hx.drewN _⟩
   ·have H:=Hd (show decide (la=lb)=true by
     have h1:=HT.out
     have h2:=HL.out
     rw[List.take_of_length_le (by omega),List.take_of_length_le (by omega)]at h1
     simpa using h1)
    go_wp2
    go_ret
    exact⟨ret_bool H.out.symm,hx⟩
 ·have hle:((la.length:Int) !=lb.length)=true:=by simp;omega
  have H:=Hd (show decide (la=lb)=false by rw[decide_eq_false_iff_not];intro e;subst e;exact hl rfl)
  clear hl
  go_enter Tryz.func112,Tryz.ntmps112
  go_wp2
  go_ret
  exact⟨ret_bool H.out.symm,eR w⟩
theorem vec_step{ls:List (List Rul)}{a:BitVec 32}{k:Nat}(h:k<ls.length):(vecV ls a).take (k+1)=(vecV ls a).take k++[(stepO ls[k] a).getD (-1)]:=by
 rw[List.take_succ_eq_append_getElem (by rw[vecV_len];exact h)]
 congr 2
 have:=vecV_get (a:=a) h
 rw[gE (by rw[vecV_len];exact h)]at this
 simpa using this
theorem r13Of_any(lv:Value)(ls:List (List Rul))(a:BitVec 32)(w:World)(hl:TablesAt w lv ls)(hok:TablesOk ls)(hn:ls.length<=1000000):
 Calls Tryz.prog 111 #[.agg #[lv],U a] w fun e w'=>∃v,e=.returned v/\OwnI w' w.heap.size v (vecV ls a)/\Ext w w':=by
 have HL:=Hd hl
 obtain⟨ad,cap,rfl,a1,a2,a3⟩:=hl.form
 have HOK:=Hd hok
 clear a3 hl hok
 unfold maxLen at a2
 go_enter Tryz.func111,Tryz.ntmps111
 go_upto_region 1 with(fail)
 refine hWp (fun W=>Ext w W/\Blk W w.heap.size [.slice ad ls.length cap] 43) ⟨(eR _).alloc _,Blk.new w [.slice ad ls.length cap] 43⟩ (fun W1 hW1=>?_)
 obtain⟨hx1,hb1⟩:=hW1
 have HB:=Hd hb1
 have HX1:=Hd hx1
 have HL1:=Hd (HL.out.later hx1)
 clear hx1 hb1 HL
 generalize w.heap.size=nb at*
 go_wp2_with fail
 go_loopw[5,6] (fun v i wr=>∃k:Nat,k<=ls.length/\i=I k/\Hid (OwnI wr W1.heap.size v ((vecV ls a).take k))/\Ext W1 wr) (fun _ i _=>ls.length-(intOf i).toNat)
 case atStart=>exact⟨0,by omega,rfl,own_made W1 1 3 0 [] rfl (by unfold maxLen;omega),by(repeat with_reducible first|exact eR _|assumption|refine eA ?_ _|refine eD ?_|refine eW ?_ _|(refine eS ?_ ?_;focus(first|(simp;done)|(simp;omega)|omega)))⟩
 case round=>
  obtain⟨k,hk,rfl,HO,hx⟩:=hrel
  have hbc:=(HB.out.later hx).cells
  have HX:=Hd hx
  clear hx
  by_cases hlt:k<ls.length
  ·have hst:=Hd (stepN_in (a:=a) hlt)
   have HV:=Hd (vec_step (a:=a) hlt)
   have HLEN:=Hd (show((vecV ls a).take k).length=k by rw[List.length_take,vecV_len];omega)
   generalize hso:stepO ls[k] a=so at*
   clear hso
   cases so with
   |none=>
    go_wp2_with (first
     |(go_at_call 128;(with_reducible refine(r09Step_any _ ls a _ _ (HL1.out.later HX.out) HOK.out).mono ?_);rintro e w2 ⟨he,hx2⟩;rw[hst.out]at he;subst he;have HX2:=Hd hx2;clear hx2;have HOA:=Hd (show(w2.alloc (.cells #[I (-1)] 3)).ownsRow W1.heap.size 3 1 u5 ((vecV ls a).take k).length (icells ((vecV ls a).take k))from own_later HO.out (HX2.out.alloc _));have HS:=Hd (Reads.made w2 1 3 1 [I (-1)] rfl (by unfold maxLen;omega));have HXA:=Hd ((HX.out.trans HX2.out).alloc (.cells #[I (-1)] 3)))
     |(at_builtin;refine wpList_app rfl (.tmp 26) (.tmp 28) 47 rfl W1.heap.size 3 _ 1 8 Tryz.underlying47 infoInt rfl (by decide) (by decide) _ _ _ rfl HOA.out _ _ _ rfl HS.out (by intro u hu;exact icells_one [-1] u (by simpa[icells]using hu)) (by rw[HLEN.out];omega) HXA.out.size ?_;intro v6 w6 ho6 hg6;have HO6:=Hd ho6;have HG6:=Hd hg6;clear ho6 hg6))
    go_roundw
    case rel=>
     refine⟨k+1,by omega,by go_num,?_,Ext.grown HXA.out HG6.out HOA.out (Nat.le_refl _)⟩
     show OwnI _ _ _ _
     rw[HV.out]
     have:=HO6.out
     unfold OwnI
     rw[icells_app,List.length_append]
     exact this
    case measure=>simp[intOf];omega
   |some nx=>
    go_wp2_with (first
     |(go_at_call 128;(with_reducible refine(r09Step_any _ ls a _ _ (HL1.out.later HX.out) HOK.out).mono ?_);rintro e w2 ⟨he,hx2⟩;rw[hst.out]at he;subst he;have HX2:=Hd hx2;clear hx2;have HOA:=Hd (show(w2.alloc (.cells #[I nx] 3)).ownsRow W1.heap.size 3 1 u5 ((vecV ls a).take k).length (icells ((vecV ls a).take k))from own_later HO.out (HX2.out.alloc _));have HS:=Hd (Reads.made w2 1 3 1 [I nx] rfl (by unfold maxLen;omega));have HXA:=Hd ((HX.out.trans HX2.out).alloc (.cells #[I nx] 3)))
     |(at_builtin;refine wpList_app rfl (.tmp 26) (.tmp 28) 47 rfl W1.heap.size 3 _ 1 8 Tryz.underlying47 infoInt rfl (by decide) (by decide) _ _ _ rfl HOA.out _ _ _ rfl HS.out (by intro u hu;exact icells_one [nx] u (by simpa[icells]using hu)) (by rw[HLEN.out];omega) HXA.out.size ?_;intro v6 w6 ho6 hg6;have HO6:=Hd ho6;have HG6:=Hd hg6;clear ho6 hg6))
    go_roundw
    case rel=>
     refine⟨k+1,by omega,by go_num,?_,Ext.grown HXA.out HG6.out HOA.out (Nat.le_refl _)⟩
     show OwnI _ _ _ _
     rw[HV.out]
     have:=HO6.out
     unfold OwnI
     rw[icells_app,List.length_append]
     exact this
    case measure=>simp[intOf];omega
  ·have HE:=Hd (show(vecV ls a).take k=vecV ls a by rw[List.take_of_length_le (by rw[vecV_len];omega)])
   go_wp2_with fail
   go_ret
   exact⟨_,rfl,by rw[<-HE.out];exact own_low HO.out HX1.out.size,HX1.out.trans HX.out⟩
theorem own_apart{w w':World}{B B':Nat}{e e':TypeId}{s s':Nat}{u v:Value}{n m:Nat}{xs ys:List Value}(h:w.ownsRow B e s u n xs)(hv:w.ownsRow B' e' s' v m ys)(hne:e≠e')(hg:w.grownBy w' v.ownBlock):w'.ownsRow B e s u n xs:=by
 obtain⟨h0,h1⟩:=h
 refine⟨h0,?_⟩
 rcases h1 with h1|⟨g,cap,cur,h1,h2,h3,h4⟩
 ·exact .inl h1
 ·refine .inr ⟨g,cap,cur,h1,h2,?_,h4⟩
  rw[hg.block g (by
   rcases Nat.lt_or_ge g w.heap.size with h'|h'
   ·exact h'
   ·simp[Array.getElem?_eq_none h']at h3) (fun hb=>?_),h3]
  obtain⟨_,hv⟩:=hv
  rcases hv with⟨rfl,_⟩|⟨g',cap',cur',rfl,_,h5,_⟩
  ·cases hb
  ·simp[Value.ownBlock]at hb
   subst hb
   rw[h3]at h5
   cases h5
   exact hne rfl
def FitT(w:World)(B:Nat)(v:Value)(ls:List (List Rul)):Prop:=
 ∃vs:List Value,w.ownsRow B 40 1 v ls.length vs/\∀(i:Nat) (l:List Rul),ls[i]?=some l->∃u,vs[i]?=some u/\w.ownsRow B 39 4 u l.length (rcells l)
theorem FitT.nil(w:World)(B:Nat):FitT w B (.slice none 0 0) []:=⟨[],⟨by simp,.inl ⟨rfl,rfl⟩⟩,fun i l h=>by cases h⟩
theorem FitT.later{w w':World}{B:Nat}{v:Value}{ls:List (List Rul)}(h:FitT w B v ls)(hx:Ext w w'):FitT w' B v ls:=
 let⟨vs,h1,h2⟩:=h
 ⟨vs,own_later h1 hx,fun i l hi=>let⟨u,g1,g2⟩:=h2 i l hi;⟨u,g1,own_later g2 hx⟩⟩
theorem FitT.tables{w:World}{B:Nat}{v:Value}{ls:List (List Rul)}(h:FitT w B v ls):TablesAt w v ls:=
 let⟨vs,h1,h2⟩:=h
 ⟨vs,Reads.of_own h1,fun i l hi=>let⟨u,g1,g2⟩:=h2 i l hi;⟨u,g1,Reads.of_own g2⟩⟩
theorem FitT.low{w:World}{B B':Nat}{v:Value}{ls:List (List Rul)}(h:FitT w B v ls)(hB:B'<=B):FitT w B' v ls:=
 let⟨vs,h1,h2⟩:=h
 ⟨vs,own_low h1 hB,fun i l hi=>let⟨u,g1,g2⟩:=h2 i l hi;⟨u,g1,own_low g2 hB⟩⟩
theorem FitT.setCell{w:World}{B:Nat}{v:Value}{ls:List (List Rul)}(h:FitT w B v ls){p:Addr}(hp:p.block<B)(x:Value):FitT (w.setCell p x) B v ls:=
 let⟨vs,h1,h2⟩:=h
 ⟨vs,own_set h1 hp x,fun i l hi=>let⟨u,g1,g2⟩:=h2 i l hi;⟨u,g1,own_set g2 hp x⟩⟩
theorem FitT.app{w w':World}{B:Nat}{v v' u:Value}{ls:List (List Rul)}{l:List Rul}{vs:List Value}(hown:w.ownsRow B 40 1 v ls.length vs)
 (hvs:∀(i:Nat) (l:List Rul),ls[i]?=some l->∃u,vs[i]?=some u/\w.ownsRow B 39 4 u l.length (rcells l))
 (ho:w'.ownsRow B 40 1 v' (ls.length+1) (vs++[u])) (hg:w.grownBy w' v.ownBlock) (hu:w.ownsRow B 39 4 u l.length (rcells l)):FitT w' B v' (ls++[l]):=by
 have hlen:vs.length=ls.length:=by have:=hown.1;simpa using this
 refine⟨vs++[u],by rw[List.length_append];exact ho,fun i m hi=>?_⟩
 rcases snoc_get hi with hi|⟨rfl,rfl⟩
 ·obtain⟨q,q1,q2⟩:=hvs i m hi
  have hil:=(List.getElem?_eq_some_iff.1 hi).1
  exact⟨q,by rw[List.getElem?_append_left (by omega)];exact q1,own_apart q2 hown (by decide) hg⟩
 ·exact⟨u,by rw[List.getElem?_append_right (by omega),hlen];simp,own_apart hu hown (by decide) hg⟩
end Go.Proofs.YtjflkifodfncmaaGreatDoor
