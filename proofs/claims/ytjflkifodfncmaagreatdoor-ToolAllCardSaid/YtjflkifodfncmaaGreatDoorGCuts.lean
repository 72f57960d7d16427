/- CutsP, CutsOf, Cuts12, CutsL, CutsK, Put12: these texts in one. Conditions: each theorem names its own. -/
import Derived.Test.YtjflkifodfncmaaGreatDoorGSortD
import Derived.Test.YtjflkifodfncmaaGreatDoorGNetP
namespace Go.Proofs.YtjflkifodfncmaaGreatDoor
set_option maxHeartbeats 2000000
set_option maxRecDepth 100000
open Go Go.RowKit Go.Maps Go.Proofs
def rcut(r:Rul):List Int:=uv (lowV r.pa r.pl)::(if uv (highV r.pa r.pl)=4294967295 then []else [uv (highV r.pa r.pl)+1])
def cutI(rs:List Rul):List Int:=0::rs.flatMap rcut
def Cuts(rs:List Rul)(l:List (BitVec 32)):Prop:=l.Pairwise (fun a b=>uv a<uv b)/\∀a:BitVec 32,a∈l↔uv a∈cutI rs
theorem cutI_app(rs:List Rul)(r:Rul):cutI (rs++[r])=cutI rs++rcut r:=by unfold cutI;simp
theorem rcut_bd(r:Rul):∀x∈rcut r,0<=x/\x<4294967296:=by
 intro x hx
 unfold rcut at hx
 have h1:=uv_bd (lowV r.pa r.pl)
 have h2:=uv_bd (highV r.pa r.pl)
 split at hx
 ·simp at hx;omega
 ·simp at hx;omega
theorem cutI_bd(rs:List Rul):∀x∈cutI rs,0<=x/\x<4294967296:=by
 intro x hx
 unfold cutI at hx
 rcases List.mem_cons.1 hx with rfl|hx
 ·omega
 ·obtain⟨r,_,hr⟩:=List.mem_flatMap.1 hx
  exact rcut_bd r x hr
theorem wf_u32{x:Int}(h0:0<=x)(h1:x<4294967296):(Lit.int .u32 x).wf=true:=by
 have h2:x<=4294967295:=by omega
 show(decide (0<=x)&&decide (x<=4294967295))=true
 rw[dT h0,dT h2];rfl
theorem keyOf_U(a:Int)(h0:0<=a)(h1:a<4294967296):keyOf Tryz.prog 23 (.int .u32 a)=some (.int .u32 a):=keyOf_int_mk Tryz.underlying23 (wf_u32 h0 h1)
def MapAt(w:World)(mb:Nat)(cs:List Int):Prop:=
 ∃(n:Nat) (D:DataW Unit),w.ownsMap Tryz.prog 23 (plainElem Tryz.prog 4) mb n D/\n<=cs.length/\∀x,has D (.int .u32 x)=true↔x∈cs
theorem has_put{D:DataW Unit}(hD:IsMap D)(x:Int)(d:DataW Unit)(y:Int):has (D.put (.int .u32 x) d) (.int .u32 y)=true↔y=x\/has D (.int .u32 y)=true:=by
 by_cases h:y=x
 ·subst h
  rw[has_put_same hD (by first|trivial|simp[WideAt.IsKeyLit])]
  simp
 ·rw[has_put_other (fun e=>h (by cases e;rfl))]
  simp[h]
theorem MapAt.start(w:World):(w.alloc (.map #[] 0)).ownsMap Tryz.prog 23 (plainElem (H:=Unit) Tryz.prog 4) w.heap.size 0 (.map []):=World.ownsMap_made _ _ _ _
theorem Cuts.at{rs:List Rul}{a b:List (BitVec 32)}(h:Cuts rs a)(k:Cuts rs b):a=b:=
 List.Perm.eq_of_pairwise (le:=fun x y=>uv x<uv y) (fun x y _ _ h1 h2=>by omega) h.1 k.1
  ((List.perm_ext_iff_of_nodup (h.1.imp (fun{x y} h e=>by subst e;omega)) (k.1.imp (fun{x y} h e=>by subst e;omega))).2 fun x=>by rw[h.2,k.2])
theorem cuts_of{D:DataW Unit}{w:World}{mb n:Nat}{rs:List Rul}(hown:w.ownsMap Tryz.prog 23 (plainElem Tryz.prog 4) mb n D)(hh:∀x,has D (.int .u32 x)=true↔x∈cutI rs):
 ∃l:List (BitVec 32),(u32Keys D).mergeSort leU=l.map uv/\Cuts rs l/\l.length=Maps.size D:=by
 obtain⟨es,rfl,hpw,_⟩:=hown.entries lawU
 obtain⟨es',hD',hko⟩:=hown.keysOf
 obtain rfl:es=es':=by simpa using hD'
 have hk':∀p∈es,∃x,p.1=.int .u32 x:=fun p hp=>by
  obtain⟨v,hv⟩:=hko p hp
  obtain⟨x,_,hx,_⟩:=keyOf_u32 Tryz.underlying23 hv
  exact⟨x,hx⟩
 have hnd:=nodup_keysU hpw hk'
 have hmem:∀x,x∈u32Keys (DataW.map es)↔x∈cutI rs:=fun x=>(mem_keysU hk' x).trans (hh x)
 have hp:=List.mergeSort_perm (u32Keys (DataW.map es)) leU
 have hs:=List.pairwise_mergeSort leU_trans leU_total (u32Keys (DataW.map es))
 have hn2:((u32Keys (DataW.map es)).mergeSort leU).Nodup:=hp.nodup_iff.2 hnd
 have hlen:((u32Keys (DataW.map es)).mergeSort leU).length=es.length:=by rw[List.length_mergeSort];unfold u32Keys;rw[List.length_map]
 generalize (u32Keys (DataW.map es)).mergeSort leU=ms at hp hs hn2 hlen
 have hmm:∀x,x∈ms↔x∈cutI rs:=fun x=>(hp.mem_iff).trans (hmem x)
 have hback:(ms.map (BitVec.ofInt 32)).map uv=ms:=by
  rw[List.map_map]
  refine(List.map_congr_left (g:=id) fun x hx=>?_).trans (List.map_id _)
  have:=cutI_bd rs x ((hmm x).1 hx)
  exact uv_ofInt x this.1 this.2
 refine⟨ms.map (BitVec.ofInt 32),hback.symm,⟨?_,fun a=>?_⟩,by rw[List.length_map];exact hlen⟩
 ·have h2:((ms.map (BitVec.ofInt 32)).map uv).Pairwise (fun a b=>a<b):=by
   rw[hback]
   refine(List.Pairwise.and hs hn2).imp ?_
   rintro a b ⟨h1,h2⟩
   have:=of_decide_eq_true h1
   omega
  exact List.pairwise_map.1 h2
 ·rw[<-hmm (uv a)]
  constructor
  ·intro h
   have:=List.mem_map_of_mem (f:=uv) h
   rwa [hback]at this
  ·intro h
   refine List.mem_map.2 ⟨uv a,h,uv_inj (uv_ofInt _ (uv_bd a).1 (uv_bd a).2)⟩
theorem SortCap.bytes{n:Nat}(h:SortCap n):n*4<=140737488355328/\n<maxLen/\n<=maxLen:=by
 unfold SortCap at h
 unfold maxLen;omega
theorem SortCap.mono{m n:Nat}(h:SortCap n)(k:m<=n):SortCap m:=by unfold SortCap at*;omega
theorem SortCap.few{n:Nat}(h:n<=100000000):SortCap n:=by unfold SortCap;omega
theorem wpList_insert_own{H:Type}{P:Program}{w:World}{ops:Array Oper}{rest:List Oper}{o:Oper}{a:Act}{Q:Exit->Act->World->Prop}
 (hg:o.guard=none) (m x v:Operand) (t:TypeId) (hop:o.op=Op.insert t m x v)
 (k e:TypeId) (K:Keyed P k) (ht:P.underlying t=some (.map k e)) (R:Value->Option (DataW H × List MemPlace)) (b n:Nat) (D:DataW H)
 (hm:a.eval m=.map (some b)) (hown:w.ownsMap P k R b n D) (hn:n<maxLen) (key val:Value) (kl:Lit) (hx:a.eval x=key) (hv:a.eval v=val) (hkey:keyOf P k key=some kl)
 (d:DataW H) (ps:List MemPlace) (hval:R val=some (d,ps))
 (hK:∀w',w'.ownsMap P k R b (n+1) (D.put kl d)->w.grownBy w' (some b)->wpList P ops Q rest (a.put o.dst undef) w'):
 wpList P ops Q (o::rest) a w:=by
 refine wpList_plain hg fun K' hK'=>?_
 obtain⟨w',hrun,r1,r2⟩:=hown.update K ht hn hkey hval
 unfold Oper.wp
 simp[execOp,hop,hm,hx,hv,hrun,Result.andThen]
 exact hK' _ _ (hK w' r1 r2)
theorem flat_step{ls:List (List Rul)}{k:Nat}(h:k<ls.length):(ls.take (k+1)).flatten=(ls.take k).flatten++ls[k]:=by
 rw[List.take_succ_eq_append_getElem h,List.flatten_append];simp
theorem cutI_len_app(a b:List Rul):(cutI (a++b)).length=(cutI a).length+(b.flatMap rcut).length:=by unfold cutI;simp;omega
theorem cutI_part{ls:List (List Rul)}{k j:Nat}(h:k<ls.length)(hj:j<ls[k].length):(cutI ((ls.take k).flatten++ls[k].take j)).length+(rcut ls[k][j]).length<=(cutI ls.flatten).length:=by
 have h1:ls=ls.take k++(ls[k]::ls.drop (k+1)):=by rw[<-List.drop_eq_getElem_cons h,List.take_append_drop]
 have h2:ls[k]=ls[k].take j++(ls[k][j]::ls[k].drop (j+1)):=by rw[<-List.drop_eq_getElem_cons hj,List.take_append_drop]
 have h3:ls.flatten=(ls.take k).flatten++(ls[k].take j++(ls[k][j]::ls[k].drop (j+1))++(ls.drop (k+1)).flatten):=by
  rw[<-h2]
  conv=>lhs;rw[h1]
  rw[List.flatten_append,List.flatten_cons]
 rw[h3,cutI_len_app,cutI_len_app,List.flatMap_append,List.flatMap_append,List.flatMap_cons]
 simp only[List.length_append]
 omega
theorem owned_later{H:Type}{w w':World}{P:Program}{k:TypeId}{R:Value->Option (DataW H × List MemPlace)}{b n:Nat}{D:DataW H}(h:w.ownsMap P k R b n D)(hx:Ext w w'):w'.ownsMap P k R b n D:=by
 have hl:=h.lt
 obtain⟨es,clock,hb,r⟩:=h
 exact⟨es,clock,(Below.block hx b hl).trans hb,r⟩
theorem ext_grown{w a b:World}{mb:Nat}(h:Ext w a)(hg:a.grownBy b (some mb))(hm:w.heap.size<=mb):Ext w b:=Below.grown h hg h.size (fun j hj=>by cases hj;exact hm)
theorem mapAt_step{w1:World}{mb n:Nat}{D:DataW Unit}{cs:List Int}{x:Int}{d:DataW Unit}(hh:∀x,has D (.int .u32 x)=true↔x∈cs)(hn:n<=cs.length)(hD:IsMap D)
 (hown:w1.ownsMap Tryz.prog 23 (plainElem Tryz.prog 4) mb (n+1) (D.put (.int .u32 x) d)):MapAt w1 mb (cs++[x]):=
 ⟨n+1,_,hown,by simp;omega,fun y=>by rw[has_put hD,hh y,List.mem_append,List.mem_singleton];exact or_comm⟩
theorem owned_isMap{w:World}{P:Program}{k:TypeId}{R:Value->Option (DataW Unit × List MemPlace)}{b n:Nat}{D:DataW Unit}(h:w.ownsMap P k R b n D):IsMap D:=by
 obtain⟨es,rfl,_⟩:=h.keysOf
 exact⟨es,rfl⟩
theorem cutsOf_any(lv:Value)(ls:List (List Rul))(w:World)(hl:TablesAt w lv ls)(hok:TablesOk ls)(hcap:SortCap (cutI ls.flatten).length):
 Calls Tryz.prog 92 #[.agg #[lv]] w fun e w'=>∃v l,e=.returned v/\OwnU w' w.heap.size v l/\Cuts ls.flatten l/\Ext w w':=by
 obtain⟨hc4,hcm,hcl⟩:=hcap.bytes
 have HL:=Hd hl
 obtain⟨ad,cap,rfl,a1,a2,a3⟩:=hl.form
 have A3:=Hd a3
 clear a3 hl
 unfold maxLen at a2
 have hmm:= @run_makeMap Tryz.prog
 go_enter Tryz.func92,Tryz.ntmps92
 go_upto_region 1 with(fail)
 refine hWp (fun W=>Ext w W/\Blk W w.heap.size [.slice ad ls.length cap] 43) ⟨by(repeat with_reducible first|exact eR _|assumption|refine eA ?_ _|refine eD ?_|refine eW ?_ _|(refine eS ?_ ?_;focus(first|(simp;done)|(simp;omega)|omega))),Blk.newAt [.slice ad ls.length cap] (by simp)⟩ (fun W1 hW1=>?_)
 obtain⟨hx1,hb1⟩:=hW1
 have HX1:=Hd hx1
 have HB1:=Hd hb1
 clear hx1 hb1
 have HM0:=Hd (MapAt.start W1)
 have HSZ:=Hd HX1.out.size
 go_upto_region 2 with(refine wpList_insert_own rfl _ _ _ 196 rfl 23 4 lawU Tryz.underlying196 _ W1.heap.size 0 _ rfl HM0.out (by unfold maxLen;omega) _ _ _ rfl rfl (keyOf_U 0 (by omega) (by omega)) _ [] (plainElem_bool Tryz.underlying4 true) ?_;intro w1 hown1 hgrow1;have HOWN:=Hd hown1;have HGROW:=Hd hgrow1;clear hown1 hgrow1)
 have HX2:=Hd (show Ext w w1 from ext_grown (HX1.out.alloc _) HGROW.out HSZ.out)
 have HB2:=Hd (show Blk w1 w.heap.size [.slice ad ls.length cap] 43 from by
  have h1:=(HB1.out.old (.map #[] 0)).lt
  exact(HGROW.out.block _ h1 (fun e=>by have:=Option.some.inj e;have:=HB1.out.lt;omega)).trans (HB1.out.old (.map #[] 0)))
 have HMAP:=Hd (show MapAt w1 W1.heap.size (cutI [])from mapAt_step (cs:=[]) (fun x=>by simp[has]) (Nat.zero_le _) isMap_empty HOWN.out)
 clear hmm HM0 HOWN HGROW
 generalize hmb:W1.heap.size=mb at*
 clear hmb HB1 HX1
 have hnc:=HB2.out.cells
 go_wp2
 go_loopw[15] (fun i wr=>∃k:Nat,k<=ls.length/\i=I k/\Hid (MapAt wr mb (cutI (ls.take k).flatten))/\Ext w wr) (fun i _=>ls.length-(intOf i).toNat)
 case atStart=>exact⟨0,by omega,rfl,Hd HMAP.out,HX2.out⟩
 case round=>
  obtain⟨k,hk,rfl,HMk,hx⟩:=hrel
  by_cases hlt:k<ls.length
  ·obtain⟨b0,o0,u,rfl,p0,hru⟩:=A3.out k ls[k] (gE hlt)
   replace p0:=hx.cell p0
   obtain⟨ra,rcap,rfl,r1,r2,r3⟩:=hru.form
   have R3:=Hd r3
   clear r3
   unfold maxLen at r2
   have hokl:=hok.at hlt
   go_wp2
   go_loopw[21] (fun i wq=>∃j:Nat,j<=ls[k].length/\i=I j/\Hid (MapAt wq mb (cutI ((ls.take k).flatten++ls[k].take j)))/\Ext w wq) (fun i _=>ls[k].length-(intOf i).toNat)
   case atStart=>exact⟨0,by omega,rfl,Hd (by simpa using HMk.out),hx⟩
   case round=>
    obtain⟨j,hj,rfl,HMj,hxj⟩:=hrel
    by_cases hjl:j<ls[k].length
    ·have HLEN:=Hd (cutI_part hlt hjl)
     have HST:=Hd (show cutI ((ls.take k).flatten++ls[k].take (j+1))=cutI ((ls.take k).flatten++ls[k].take j)++rcut ls[k][j]by
      rw[List.take_succ_eq_append_getElem hjl,<-List.append_assoc,cutI_app])
     obtain⟨b1,o1,rfl,q0,q1,q2,q3⟩:=R3.out j ls[k][j] (gE hjl)
     replace q0:=hxj.cell q0
     replace q1:=hxj.cell q1
     replace q2:=hxj.cell q2
     replace q3:=hxj.cell q3
     have HOK1:=Hd (hokl ls[k][j] (List.getElem_mem hjl)).pl
     obtain⟨n,D,hown,hn,hh⟩:=HMj.out
     have HOWN:=Hd hown
     have HH:=Hd hh
     have HD:=Hd (owned_isMap hown)
     generalize hcs:cutI ((ls.take k).flatten++ls[k].take j)=cs at*
     clear hown hh hcs
     obtain⟨lo,hlo⟩:∃lo,uv (lowV ls[k][j].pa ls[k][j].pl)=lo:=⟨_,rfl⟩
     obtain⟨hi,hhi⟩:∃hi,uv (highV ls[k][j].pa ls[k][j].pl)=hi:=⟨_,rfl⟩
     have HE:=Hd (show∀W,Calls Tryz.prog 138 #[U ls[k][j].pa,I ls[k][j].pl] W fun e w'=>e=.returned (.tuple #[.int .u32 lo,.int .u32 hi])/\W=w' from fun W=>by
      rw[<-hlo,<-hhi];exact ends_any _ _ _ HOK1.out)
     have hlb:0<=lo/\lo<4294967296:=by rw[<-hlo];exact uv_bd _
     have hhb:0<=hi/\hi<4294967296:=by rw[<-hhi];exact uv_bd _
     have HRC:=Hd (show rcut ls[k][j]=lo::(if hi=4294967295 then []else [hi+1])by unfold rcut;rw[hlo,hhi])
     clear hlo hhi
     by_cases htop:hi=4294967295
     ·subst htop
      have HRC':=Hd (show rcut ls[k][j]=[lo]by rw[HRC.out];rfl)
      have hn1:n<maxLen:=by have:=HLEN.out;rw[HRC'.out]at this;simp only[List.length_cons,List.length_nil]at this;omega
      have HN1:=Hd hn1
      clear hn1
      go_wp2_with (first
       |(go_at_call 138;refine(HE.out _).mono ?_;rintro e w' ⟨rfl,rfl⟩)
       |(at_mapUpdate;refine wpList_mapUpdate_own _ rfl _ _ _ 196 rfl 23 4 lawU Tryz.underlying196 _ mb n D rfl (owned_later HOWN.out (by(repeat with_reducible first|exact eR _|assumption|refine eA ?_ _|refine eD ?_|refine eW ?_ _|(refine eS ?_ ?_;focus(first|(simp;done)|(simp;omega)|omega))))) HN1.out _ _ _ rfl rfl (keyOf_U _ hlb.1 hlb.2) _ [] (plainElem_bool Tryz.underlying4 true) ?_;intro w2 hown2 hgrow2;have HO2:=Hd hown2;have HG2:=Hd hgrow2;clear hown2 hgrow2))
      go_roundw
      case rel=>
       refine⟨j+1,by omega,by go_num,Hd ?_,ext_grown (hxj.alloc _) HG2.out HSZ.out⟩
       rw[HST.out,HRC'.out]
       exact mapAt_step HH.out hn HD.out HO2.out
      case measure=>simp[intOf];omega
     ·have HRC':=Hd (show rcut ls[k][j]=[lo,hi+1]by rw[HRC.out,if_neg htop])
      have HN1:=Hd (show n<maxLen by have:=HLEN.out;rw[HRC'.out]at this;simp only[List.length_cons,List.length_nil]at this;omega)
      have HN2:=Hd (show n+1<maxLen by have:=HLEN.out;rw[HRC'.out]at this;simp only[List.length_cons,List.length_nil]at this;omega)
      go_wp2_with (first
       |(go_at_call 138;refine(HE.out _).mono ?_;rintro e w' ⟨rfl,rfl⟩)
       |(at_mapUpdate;refine wpList_mapUpdate_own _ rfl _ _ _ 196 rfl 23 4 lawU Tryz.underlying196 _ mb n D rfl (owned_later HOWN.out (by(repeat with_reducible first|exact eR _|assumption|refine eA ?_ _|refine eD ?_|refine eW ?_ _|(refine eS ?_ ?_;focus(first|(simp;done)|(simp;omega)|omega))))) HN1.out _ _ _ rfl rfl (keyOf_U _ hlb.1 hlb.2) _ [] (plainElem_bool Tryz.underlying4 true) ?_;intro w2 hown2 hgrow2;have HO2:=Hd hown2;have HG2:=Hd hgrow2;clear hown2 hgrow2)
       |(at_mapUpdate;refine wpList_mapUpdate_own _ rfl _ _ _ 196 rfl 23 4 lawU Tryz.underlying196 _ mb (n+1) _ rfl HO2.out HN2.out _ _ _ rfl rfl (keyOf_U _ (by omega) (by omega)) _ [] (plainElem_bool Tryz.underlying4 true) ?_;intro w3 hown3 hgrow3;have HO3:=Hd hown3;have HG3:=Hd hgrow3;clear hown3 hgrow3))
      go_roundw
      case rel=>
       refine⟨j+1,by omega,by go_num,Hd ?_,ext_grown (ext_grown (hxj.alloc _) HG2.out HSZ.out) HG3.out HSZ.out⟩
       rw[HST.out,HRC'.out,show cs++[lo,hi+1]=(cs++[lo])++[hi+1]by simp]
       exact mapAt_step (fun y=>by rw[has_put HD.out,HH.out y,List.mem_append,List.mem_singleton];exact or_comm) (by simp;omega) (HD.out.put _ _) HO3.out
      case measure=>simp[intOf];omega
    ·have HE:=Hd (show(ls.take k).flatten++ls[k].take j=(ls.take (k+1)).flatten by rw[flat_step hlt,show ls[k].take j=ls[k]from List.take_of_length_le (by omega)])
     go_wp2
     go_roundw
     case rel=>exact⟨k+1,by omega,by go_num,Hd (by rw[<-HE.out];exact HMj.out),hxj⟩
     case measure=>simp[intOf];omega
  ·have HEND:=Hd (show ls.take k=ls from List.take_of_length_le (by omega))
   obtain⟨n,D,hown,hn,hh⟩:=HMk.out
   rw[HEND.out]at hn hh
   obtain⟨l,e1,hl,e2⟩:=cuts_of hown hh
   have hsz:Maps.size D<=(cutI ls.flatten).length:=by
    have hd:∃es,D=.map es/\es.length<=n:=by
     obtain⟨es,clock,_,_,hs,rfl⟩:=hown
     exact⟨_,rfl,by rw[length_sorted,List.length_map,Array.length_toList];exact hs⟩
    obtain⟨es,rfl,hle⟩:=hd
    exact Nat.le_trans hle hn
   have HS:=Hd (hcap.mono hsz)
   have HB:=Hd (HS.out.bytes)
   have HOWN:=Hd hown
   have HCUT:=Hd hl
   have HE1:=Hd e1
   clear hown hh hl e1 e2 hn hsz
   go_wp2_with (first
    |(go_at_call 140;refine(keysU_any _ _).mono ?_;rintro e w' ⟨rfl,rfl⟩)
    |(go_at_call 139;refine(sortedKeys_any _ mb n D _ (by simp) (by simp) (owned_later HOWN.out (by(repeat with_reducible first|exact eR _|assumption|refine eA ?_ _|refine eD ?_|refine eW ?_ _|(refine eS ?_ ?_;focus(first|(simp;done)|(simp;omega)|omega))))) HB.out.2.2 HB.out.1 HS.out).mono ?_;rintro e w' ⟨v,rfl,hrow,hbel⟩))
   go_ret
   refine⟨v,l,rfl,?_,HCUT.out,(hx.alloc _).trans hbel⟩
   unfold OwnU ucells
   rw[HE1.out,List.length_map,List.map_map]at hrow
   exact Go.Proofs.ownsRow_base_a hrow (by have:=hx.size;simp;omega)
def leA(a:BitVec 32)(x:BitVec 32):Bool:=decide (uv x<=uv a)
def atN(l:List (BitVec 32))(a:BitVec 32):Nat:=(l.takeWhile (leA a)).length
theorem atN_le(l:List (BitVec 32))(a:BitVec 32):atN l a<=l.length:=(List.takeWhile_sublist _).length_le
theorem atN_lt{l:List (BitVec 32)}{a:BitVec 32}{j:Nat}(h:j<atN l a)(h':j<l.length):uv l[j]<=uv a:=by simpa[leA]using tw_lt (leA a) l j h h'
theorem atN_end{l:List (BitVec 32)}{a:BitVec 32}(h:atN l a<l.length):¬uv l[atN l a]<=uv a:=by
 have:=tw_end (leA a) l h
 simp only[leA,decide_eq_false_iff_not]at this
 exact this
def endV(l:List (BitVec 32))(k:Nat):BitVec 32:=if h:k+1<l.length then l[k+1]-1#32 else 4294967295#32
theorem cutsEnds_any(lv:Value)(l:List (BitVec 32))(k:Nat)(w:World)(hl:UsAt w lv l)(hk:k<l.length):
 Calls Tryz.prog 142 #[lv,I k] w fun e w'=>e=.returned (.tuple #[U l[k],U (endV l k),.bool true])/\w'=w:=by
 obtain⟨ad,cap,rfl,a1,a2,a3⟩:=hl.form
 have A3:=Hd a3
 clear a3
 unfold maxLen at a2
 obtain⟨b0,o0,rfl,p0⟩:=A3.out k l[k] (gE hk)
 by_cases hk1:k+1<l.length
 ·obtain⟨b1,o1,he,p1⟩:=A3.out (k+1) l[k+1] (gE hk1)
  simp only[Option.some.injEq,Addr.mk.injEq,and_true]at he
  obtain⟨rfl,rfl⟩:=he
  have HE:=Hd (show endV l k=l[k+1]-1#32 by unfold endV;rw[dif_pos hk1])
  have hd:decide ((k:Int)<(l.length:Int)-1)=true:=dT (by omega)
  go_enter Tryz.func142,Tryz.ntmps142
  go_wp2_with fail
  go_ret3
  exact⟨by rw[HE.out];rfl,rfl⟩
 ·have HE:=Hd (show endV l k=4294967295#32 by unfold endV;rw[dif_neg hk1])
  have hd:decide ((k:Int)<(l.length:Int)-1)=false:=dF (by omega)
  go_enter Tryz.func142,Tryz.ntmps142
  go_wp2_with fail
  go_ret3
  exact⟨by rw[HE.out];rfl,rfl⟩
def Rising(l:List (BitVec 32)):Prop:=l.Pairwise (fun a b=>uv a<uv b)
theorem Rising.lt{l:List (BitVec 32)}(h:Rising l){i j:Nat}(hij:i<j)(hj:j<l.length):uv l[i]<uv l[j]:=List.pairwise_iff_getElem.1 h i j (by omega) hj hij
theorem Rising.le{l:List (BitVec 32)}(h:Rising l){i j:Nat}(hij:i<=j)(hj:j<l.length):uv l[i]<=uv l[j]:=by
 rcases Nat.lt_or_ge i j with g|g
 ·exact Int.le_of_lt (h.lt g hj)
 ·have:i=j:=by omega
  subst this;exact Int.le_refl _
theorem uv_zero:uv 0#32=0:=rfl
theorem uv_top:uv 4294967295#32=4294967295:=rfl
theorem uv_pred{x:BitVec 32}(h:0<uv x):uv (x-1#32)=uv x-1:=by
 have h1:=uv_bd x
 unfold uv at*
 rw[BitVec.toNat_sub]
 have:=x.isLt
 simp
 omega
theorem atN_pos{l:List (BitVec 32)}(h0:l[0]? =some 0#32)(a:BitVec 32):1<=atN l a:=by
 rcases Nat.lt_or_ge 0 (atN l a)with g|g
 ·exact g
 ·obtain⟨hl,he⟩:=List.getElem?_eq_some_iff.1 h0
  have hz:atN l a=0:=by omega
  have h1:=atN_end (l:=l) (a:=a) (by omega)
  simp only[hz,he]at h1
  exact absurd (by rw[uv_zero];exact(uv_bd a).1) h1
def ivN(l:List (BitVec 32))(a:BitVec 32):Nat:=atN l a-1
theorem ivN_lt{l:List (BitVec 32)}(h0:l[0]? =some 0#32)(a:BitVec 32):ivN l a<l.length:=by
 have:=atN_pos h0 a
 have:=atN_le l a
 unfold ivN;omega
theorem iv_from{l:List (BitVec 32)}(h0:l[0]? =some 0#32)(a:BitVec 32):uv (l[ivN l a]'(ivN_lt h0 a))<=uv a:=
 atN_lt (by have:=atN_pos h0 a;unfold ivN;omega) (ivN_lt h0 a)
theorem end_pos{l:List (BitVec 32)}(hr:Rising l){k:Nat}(hk:k+1<l.length):uv (endV l k)=uv l[k+1]-1:=by
 unfold endV
 rw[dif_pos hk]
 refine uv_pred ?_
 have:=hr.lt (show k<k+1 by omega) hk
 have:=(uv_bd (l[k]'(by omega))).1
 omega
theorem end_top{l:List (BitVec 32)}{k:Nat}(hk:¬k+1<l.length):endV l k=4294967295#32:=by unfold endV;rw[dif_neg hk]
theorem iv_next{l:List (BitVec 32)}(h0:l[0]? =some 0#32)(a:BitVec 32)(h:ivN l a+1<l.length):uv a<uv l[ivN l a+1]:=by
 have hp:=atN_pos h0 a
 have e:ivN l a+1=atN l a:=by unfold ivN;omega
 have h1:=atN_end (l:=l) (a:=a) (by omega)
 simp only[e]
 omega
theorem iv_to{l:List (BitVec 32)}(hr:Rising l)(h0:l[0]? =some 0#32)(a:BitVec 32):uv a<=uv (endV l (ivN l a)):=by
 by_cases h:ivN l a+1<l.length
 ·rw[end_pos hr h]
  have:=iv_next h0 a h
  omega
 ·rw[end_top h,uv_top]
  have:=(uv_bd a).2
  omega
theorem iv_below{l:List (BitVec 32)}(hr:Rising l)(h0:l[0]? =some 0#32)(a:BitVec 32){c:BitVec 32}(hc:c∈l)(h:uv c<=uv a):uv c<=uv (l[ivN l a]'(ivN_lt h0 a)):=by
 obtain⟨j,hj,rfl⟩:=List.getElem_of_mem hc
 rcases Nat.lt_or_ge (ivN l a) j with g|g
 ·have h1:=iv_next h0 a (by omega)
  have h2:=hr.le (show ivN l a+1<=j from g) hj
  omega
 ·exact hr.le g (ivN_lt h0 a)
theorem cuts_zero{l:List (BitVec 32)}(h:Rising l)(hz:0#32∈l):l[0]? =some 0#32:=by
 obtain⟨j,hj,he⟩:=List.getElem_of_mem hz
 rcases Nat.lt_or_ge 0 j with g|g
 ·have:=h.lt g hj
  rw[he,uv_zero]at this
  have:=(uv_bd (l[0]'(by omega))).1
  omega
 ·have:j=0:=by omega
  subst this
  exact List.getElem?_eq_some_iff.2 ⟨hj,he⟩
theorem uv_inc{x:BitVec 32}(h:uv x≠4294967295):uv (x+1#32)=uv x+1:=by
 have h1:=uv_bd x
 unfold uv at*
 rw[BitVec.toNat_add]
 simp
 omega
theorem Cuts.low{rs:List Rul}{l:List (BitVec 32)}(hC:Cuts rs l){r:Rul}(hr:r∈rs):lowV r.pa r.pl∈l:=
 (hC.2 _).2 (List.mem_cons_of_mem _ (List.mem_flatMap.2 ⟨r,hr,by unfold rcut;simp⟩))
theorem Cuts.next{rs:List Rul}{l:List (BitVec 32)}(hC:Cuts rs l){r:Rul}(hr:r∈rs)(h:uv (highV r.pa r.pl)≠4294967295):highV r.pa r.pl+1#32∈l:=
 (hC.2 _).2 (List.mem_cons_of_mem _ (List.mem_flatMap.2 ⟨r,hr,by unfold rcut;rw[if_neg h,uv_inc h];simp⟩))
theorem Cuts.zero{rs:List Rul}{l:List (BitVec 32)}(hC:Cuts rs l):l[0]? =some 0#32:=cuts_zero hC.1 ((hC.2 0#32).2 (by simp[cutI,uv_zero]))
theorem Cuts.rise{rs:List Rul}{l:List (BitVec 32)}(hC:Cuts rs l):Rising l:=hC.1
theorem holds_uv(p b:BitVec 32)(n:Int):holdsV p n b=true↔uv (lowV p n)<=uv b/\uv b<=uv (highV p n):=by
 rw[holds_ends];unfold uv;omega
theorem findL_congr{t:List Rul}{a b:BitVec 32}(h:∀r∈t,holdsV r.pa r.pl a=holdsV r.pa r.pl b):findL t a=findL t b:=by
 unfold findL
 suffices hs:∀o,t.foldl (findStep a) o=t.foldl (findStep b) o from hs none
 induction t with
 |nil=>intro o;rfl
 |cons r t ih=>
  intro o
  rw[List.foldl_cons,List.foldl_cons,show findStep a o r=findStep b o r by unfold findStep better;rw[h r (by simp)]]
  exact ih (fun q hq=>h q (by simp[hq])) _
theorem len_sub:∀(xs ys:List Int),xs.Nodup->(∀x∈xs,x∈ys)->xs.length<=ys.length
 |[],_,_,_=>by simp
 |x::xs,ys,hn,hs=>by
  obtain⟨h1,h2⟩:=List.nodup_cons.1 hn
  have hx:=hs x (by simp)
  have h3:=len_sub xs (ys.erase x) h2 fun y hy=>(List.mem_erase_of_ne (by rintro rfl;exact h1 hy)).2 (hs y (by simp[hy]))
  rw[List.length_erase_of_mem hx]at h3
  have:=List.length_pos_of_mem hx
  rw[List.length_cons];omega
theorem Rising.nodup{l:List (BitVec 32)}(h:Rising l):(l.map uv).Nodup:=by
 rw[List.nodup_iff_pairwise_ne,List.pairwise_map]
 exact h.imp (fun{x y} h e=>by omega)
theorem cutI_len(rs:List Rul):(cutI rs).length<=2*rs.length+1:=by
 unfold cutI
 rw[List.length_cons]
 suffices h:(rs.flatMap rcut).length<=2*rs.length by omega
 induction rs with
 |nil=>simp
 |cons r rs ih=>
  rw[List.flatMap_cons,List.length_append,List.length_cons]
  have:(rcut r).length<=2:=by unfold rcut;split<;>simp
  omega
theorem sizeN_flat(ls:List (List Rul)):ls.flatten.length=sizeN ls:=by unfold sizeN;rw[List.length_flatten]
theorem Cuts.len{rs:List Rul}{l:List (BitVec 32)}(hC:Cuts rs l):l.length<=2*rs.length+1:=by
 refine Nat.le_trans ?_ (cutI_len rs)
 have:=len_sub (l.map uv) (cutI rs) hC.rise.nodup fun x hx=>by
  obtain⟨c,hc,rfl⟩:=List.mem_map.1 hx
  exact(hC.2 c).1 hc
 simpa using this
theorem Cuts.pos{rs:List Rul}{l:List (BitVec 32)}(hC:Cuts rs l):0<l.length:=(List.getElem?_eq_some_iff.1 hC.zero).1
theorem cap_of{ls:List (List Rul)}(h:sizeN ls<=10000000):SortCap (cutI ls.flatten).length:=by
 have h1:=cutI_len ls.flatten
 rw[sizeN_flat]at h1
 exact SortCap.few (by omega)
def ndV(l:List (BitVec 32))(S:List Int):List Value:=l.map fun c=>Value.bool (decide (uv c∈S))
structure JoinFacts(x y z:List (BitVec 32))(a:BitVec 32):Prop where
 mem:∀c,c∈z↔c∈x\/c∈y
 upto:z.length+1<=x.length+y.length
 left:x.length<=z.length
 right:y.length<=z.length
def ltA(a:BitVec 32)(x:BitVec 32):Bool:=decide (uv x<uv a)
def putK(l:List (BitVec 32))(a:BitVec 32):Nat:=(l.takeWhile (ltA a)).length
def putC(l:List (BitVec 32))(a:BitVec 32):List (BitVec 32):=if l[putK l a]? =some a then l else l.take (putK l a)++a::l.drop (putK l a)
def fitC(l:List (BitVec 32)):List (BitVec 32):=(l.take 30).foldl putC [0#32]
theorem putK_le(l:List (BitVec 32))(a:BitVec 32):putK l a<=l.length:=(List.takeWhile_sublist _).length_le
theorem putK_lt{l:List (BitVec 32)}{a:BitVec 32}{j:Nat}(h:j<putK l a)(h':j<l.length):uv l[j]<uv a:=by simpa[ltA]using tw_lt (ltA a) l j h h'
theorem putK_end{l:List (BitVec 32)}{a:BitVec 32}(h:putK l a<l.length):¬uv l[putK l a]<uv a:=by
 have:=tw_end (ltA a) l h
 simp only[ltA,decide_eq_false_iff_not]at this
 exact this
theorem putC_mem(l:List (BitVec 32))(a c:BitVec 32):c∈putC l a↔c∈l\/c=a:=by
 unfold putC
 split
 ·rename_i h
  constructor
  ·exact .inl
  ·rintro(h1|rfl)
   ·exact h1
   ·obtain⟨hl,he⟩:=List.getElem?_eq_some_iff.1 h
    rw[<-he];exact List.getElem_mem hl
 ·rw[List.mem_append,List.mem_cons]
  have:c∈l↔c∈l.take (putK l a)\/c∈l.drop (putK l a):=by rw[<-List.mem_append,List.take_append_drop]
  rw[this]
  constructor
  ·rintro(h|h|h)
   ·exact .inl (.inl h)
   ·exact .inr h
   ·exact .inl (.inr h)
  ·rintro((h|h)|h)
   ·exact .inl h
   ·exact .inr (.inr h)
   ·exact .inr (.inl h)
theorem putC_rising{l:List (BitVec 32)}(hr:Rising l)(a:BitVec 32):Rising (putC l a):=by
 unfold putC
 split
 ·exact hr
 ·rename_i h
  have hk:=putK_le l a
  unfold Rising
  rw[List.pairwise_append,List.pairwise_cons]
  have hlo:∀c∈l.take (putK l a),uv c<uv a:=fun c hc=>by
   obtain⟨j,hj,rfl⟩:=List.getElem_of_mem hc
   rw[List.getElem_take]
   rw[List.length_take]at hj
   exact putK_lt (by omega) (by omega)
  have hhi:∀c∈l.drop (putK l a),uv a<uv c:=fun c hc=>by
   obtain⟨j,hj,rfl⟩:=List.getElem_of_mem hc
   rw[List.length_drop]at hj
   rw[List.getElem_drop]
   have h1:=putK_end (l:=l) (a:=a) (by omega)
   have h2:=hr.le (show putK l a<=putK l a+j by omega) (by omega)
   have h3:uv l[putK l a]≠uv a:=fun e=>h (List.getElem?_eq_some_iff.2 ⟨by omega,uv_inj e⟩)
   omega
  refine⟨hr.sublist (List.take_sublist _ _),⟨hhi,hr.sublist (List.drop_sublist _ _)⟩,fun c hc d hd=>?_⟩
  have h1:=hlo c hc
  rcases List.mem_cons.1 hd with rfl|hd
  ·exact h1
  ·have:=hhi d hd;omega
theorem putC_len(l:List (BitVec 32))(a:BitVec 32):(putC l a).length<=l.length+1:=by
 have:=putK_le l a
 unfold putC
 split
 ·omega
 ·simp;omega
theorem r12Put_any(lv:Value)(l:List (BitVec 32))(a:BitVec 32)(w:World)(hl:UsAt w lv l)(hlen:l.length<=100000000):
 Calls Tryz.prog 155 #[lv,U a] w fun e w'=>∃v,e=.returned v/\UsAt w' v (putC l a)/\Ext w w':=by
 have HL:=Hd hl
 obtain⟨ad,cap,rfl,a1,a2,a3⟩:=hl.form
 have A3:=Hd a3
 clear a3 hl
 unfold maxLen at a2
 have hle:=putK_le l a
 go_enter Tryz.func155,Tryz.ntmps155
 go_wp2_with fail
 go_loopw[5] (fun i wr=>∃k:Nat,k<=putK l a/\i=I k/\wr=w) (fun i _=>l.length-(intOf i).toNat)
 case atStart=>exact⟨0,by omega,rfl,rfl⟩
 case round=>
  obtain⟨k,hk,rfl,rfl⟩:=hrel
  rcases Nat.lt_or_ge k (putK l a)with hkk|hkk
  ·have hlt:k<l.length:=by omega
   obtain⟨b0,o0,rfl,p0⟩:=A3.out k l[k] (gE hlt)
   have hd:decide (uv l[k]<uv a)=true:=dT (putK_lt hkk hlt)
   go_wp2_with fail
   go_roundw
   case rel=>exact⟨k+1,by omega,by go_num,by trivial⟩
   case measure=>simp[intOf];omega
  ·have hke:k=putK l a:=by omega
   subst hke
   by_cases he:l[putK l a]? =some a
   ·obtain⟨hlt,he2⟩:=List.getElem?_eq_some_iff.1 he
    obtain⟨b0,o0,rfl,p0⟩:=A3.out (putK l a) a he
    have HP:=Hd (show putC l a=l by unfold putC;rw[if_pos he])
    have hd:decide (uv a<uv a)=false:=dF (by omega)
    generalize putK l a=k at*
    go_wp2_with fail
    go_ret
    exact⟨_,rfl,by rw[HP.out];exact HL.out,eR _⟩
   ·have HP:=Hd (show putC l a=l.take (putK l a)++a::l.drop (putK l a)by unfold putC;rw[if_neg he])
    have hst:(∃(x:BitVec 32),putK l a<l.length/\l[putK l a]? =some x/\¬uv x<uv a/\x≠a)\/¬putK l a<l.length:=by
     rcases Nat.lt_or_ge (putK l a) l.length with h|h
     ·exact .inl ⟨_,h,gE h,putK_end h,fun e=>he (by rw[gE h,e])⟩
     ·exact .inr (by omega)
    have HPC:=Hd (putK_le l a)
    clear he
    generalize putK l a=k at*
    have hxw:Ext wr wr:=eR _
    rcases hst with⟨x,hlt,hx,hn,hne⟩|hlt
    ·obtain⟨b0,o0,rfl,p0⟩:=A3.out k x hx
     have hd:decide (uv x<uv a)=false:=dF hn
     have hd2:(x==a)=false:=by rw[beq_eq_false_iff_ne];exact hne
     clear hx hn hne
     have ho5:=own_made wr 1 23 1 [U a] rfl (by unfold maxLen;omega)
     have hr5:UsAt (wr.alloc (.cells #[U a] 23)) (slv 1 (.slice (some ⟨b0,o0,none⟩) l.length cap) k l.length) (l.drop k):=by
      have:=(HL.out.piece HPC.out (Nat.le_refl _)).later ((eR wr).alloc (.cells #[U a] 23))
      rwa [List.take_of_length_le (Nat.le_refl _)]at this
     have hld:(l.drop k).length=l.length-k:=List.length_drop
     have hz5:wr.heap.size<=(wr.alloc (.cells #[U a] 23)).heap.size:=((eR wr).alloc _).size
     go_upto_region 7 with(first
      |(refine wpList_of_run rfl (run_slice_from (o:=⟨some 38,_,_,_,_,_⟩) rfl Tryz.underlying70 sizeU32 rfl rfl HPC.out) ?_)
      |(at_builtin;refine wpList_app rfl (.tmp 35) (.tmp 38) 70 rfl wr.heap.size 23 _ 1 4 Tryz.underlying70 infoU32 rfl (by decide) (by decide) _ _ _ rfl ho5 _ _ _ rfl hr5 (ucells_one _) (by rw[hld];have:=HPC.out;omega) hz5 ?_;intro v6 w6 ho6 hg6))
     have hx6:Ext wr w6:=Ext.grown ((eR wr).alloc _) hg6 ho5 (Nat.le_refl _)
     have hr6:UsAt w6 v6 (a::l.drop k):=by
      have:=Reads.of_own ho6
      rwa [show [U a]++ucells (l.drop k)=ucells (a::l.drop k)from rfl,Nat.add_comm]at this
     have hv6:=HL.out.later hx6
     have hq6:UsAt (w6.alloc (.cells #[] 23)) (slv 1 (.slice (some ⟨b0,o0,none⟩) l.length cap) 0 k) (l.take k):=(hv6.piece (Nat.zero_le _) HPC.out).later ((eR _).alloc _)
     have ho7:=own_made w6 1 23 0 [] rfl (by unfold maxLen;omega)
     have hlt6:k<=cap:=by omega
     have HL6:=Hd (show(l.take k).length=k by rw[List.length_take];omega)
     clear ho5 hr5 hz5 ho6 hg6 hv6
     go_wp2_with (first
      |(refine wpList_of_run rfl (run_slice_to (o:=⟨some 43,_,_,_,_,_⟩) rfl Tryz.underlying70 sizeU32 rfl rfl hlt6) ?_)
      |(at_builtin;refine wpList_app rfl (.tmp 40) (.tmp 43) 70 rfl w6.heap.size 23 _ 1 4 Tryz.underlying70 infoU32 rfl (by decide) (by decide) _ _ _ rfl ho7 _ _ _ rfl hq6 (ucells_one _) (by rw[HL6.out];omega) ((eR w6).alloc _).size ?_;intro v7 w7 ho8 hg7
        have hx7:Ext w6 w7:=Ext.grown ((eR w6).alloc _) hg7 ho7 (Nat.le_refl _)
        have hr7:=hr6.later hx7)
      |(at_builtin;refine wpList_app rfl (.tmp 44) (.tmp 45) 70 rfl w6.heap.size 23 _ 1 4 Tryz.underlying70 infoU32 rfl (by decide) (by decide) _ _ _ rfl ho8 _ _ _ rfl hr7 (ucells_one _) (by rw[HL6.out,List.length_cons,hld];omega) hx7.size ?_;intro v8 w8 ho9 hg8))
     go_ret
     have hx8:Ext w6 w8:=Ext.grown hx7 hg8 ho8 (Nat.le_refl _)
     refine⟨v8,rfl,?_,hx6.trans hx8⟩
     have:=Reads.of_own ho9
     unfold UsAt
     rw[HP.out,List.length_append,ucells_app]
     simpa using this
    ·have ho5:=own_made wr 1 23 1 [U a] rfl (by unfold maxLen;omega)
     have hr5:UsAt (wr.alloc (.cells #[U a] 23)) (slv 1 (.slice ad l.length cap) k l.length) (l.drop k):=by
      have:=(HL.out.piece HPC.out (Nat.le_refl _)).later ((eR wr).alloc (.cells #[U a] 23))
      rwa [List.take_of_length_le (Nat.le_refl _)]at this
     have hld:(l.drop k).length=l.length-k:=List.length_drop
     have hz5:wr.heap.size<=(wr.alloc (.cells #[U a] 23)).heap.size:=((eR wr).alloc _).size
     go_upto_region 7 with(first
      |(refine wpList_of_run rfl (run_slice_from (o:=⟨some 38,_,_,_,_,_⟩) rfl Tryz.underlying70 sizeU32 rfl rfl HPC.out) ?_)
      |(at_builtin;refine wpList_app rfl (.tmp 35) (.tmp 38) 70 rfl wr.heap.size 23 _ 1 4 Tryz.underlying70 infoU32 rfl (by decide) (by decide) _ _ _ rfl ho5 _ _ _ rfl hr5 (ucells_one _) (by rw[hld];have:=HPC.out;omega) hz5 ?_;intro v6 w6 ho6 hg6))
     have hx6:Ext wr w6:=Ext.grown ((eR wr).alloc _) hg6 ho5 (Nat.le_refl _)
     have hr6:UsAt w6 v6 (a::l.drop k):=by
      have:=Reads.of_own ho6
      rwa [show [U a]++ucells (l.drop k)=ucells (a::l.drop k)from rfl,Nat.add_comm]at this
     have hv6:=HL.out.later hx6
     have hq6:UsAt (w6.alloc (.cells #[] 23)) (slv 1 (.slice ad l.length cap) 0 k) (l.take k):=(hv6.piece (Nat.zero_le _) HPC.out).later ((eR _).alloc _)
     have ho7:=own_made w6 1 23 0 [] rfl (by unfold maxLen;omega)
     have hlt6:k<=cap:=by omega
     have HL6:=Hd (show(l.take k).length=k by rw[List.length_take];omega)
     clear ho5 hr5 hz5 ho6 hg6 hv6
     go_wp2_with (first
      |(refine wpList_of_run rfl (run_slice_to (o:=⟨some 43,_,_,_,_,_⟩) rfl Tryz.underlying70 sizeU32 rfl rfl hlt6) ?_)
      |(at_builtin;refine wpList_app rfl (.tmp 40) (.tmp 43) 70 rfl w6.heap.size 23 _ 1 4 Tryz.underlying70 infoU32 rfl (by decide) (by decide) _ _ _ rfl ho7 _ _ _ rfl hq6 (ucells_one _) (by rw[HL6.out];omega) ((eR w6).alloc _).size ?_;intro v7 w7 ho8 hg7
        have hx7:Ext w6 w7:=Ext.grown ((eR w6).alloc _) hg7 ho7 (Nat.le_refl _)
        have hr7:=hr6.later hx7)
      |(at_builtin;refine wpList_app rfl (.tmp 44) (.tmp 45) 70 rfl w6.heap.size 23 _ 1 4 Tryz.underlying70 infoU32 rfl (by decide) (by decide) _ _ _ rfl ho8 _ _ _ rfl hr7 (ucells_one _) (by rw[HL6.out,List.length_cons,hld];omega) hx7.size ?_;intro v8 w8 ho9 hg8))
     go_ret
     have hx8:Ext w6 w8:=Ext.grown hx7 hg8 ho8 (Nat.le_refl _)
     refine⟨v8,rfl,?_,hx6.trans hx8⟩
     have:=Reads.of_own ho9
     unfold UsAt
     rw[HP.out,List.length_append,ucells_app]
     simpa using this
end Go.Proofs.YtjflkifodfncmaaGreatDoor
