/- Fit17, CutsNx: these texts in one. Conditions: each theorem names its own. -/
import Derived.Test.YtjflkifodfncmaaGreatDoorGIns
import Derived.Test.YtjflkifodfncmaaGreatDoorGReg
import Derived.Test.YtjflkifodfncmaaGreatDoorGVec
namespace Go.Proofs.YtjflkifodfncmaaGreatDoor
set_option maxHeartbeats 1000000
open Go.RowKit
theorem infoPart:(Tryz.prog.info? 85).map (fun i=>(i.zero,i.size,i.bytes))=some (some (.agg #[.int .u32 0,.int .u32 0,.slice none 0 0]),3,32):=by kernel_rfl
structure PrtV where
 fr:BitVec 32
 up:BitVec 32
 rk:List Int
def OwnPR(w:World)(B:Nat)(v:Value)(qs:List PrtV):Prop:=
 ∃ps:List Prt,w.ownsRow B 85 3 v qs.length (pcells ps)/\ps.length=qs.length/\∀(i:Nat) (q:PrtV),qs[i]? =some q->∃p,ps[i]? =some p/\p.fr=q.fr/\p.up=q.up/\OwnI w B p.rk q.rk
theorem OwnPR.nil(w:World)(B:Nat):OwnPR w B (.slice none 0 0) []:=⟨[],⟨by simp[pcells],.inl ⟨rfl,rfl⟩⟩,rfl,fun i q h=>by cases h⟩
theorem OwnPR.later{w w':World}{B:Nat}{v:Value}{qs:List PrtV}(h:OwnPR w B v qs)(hx:Ext w w'):OwnPR w' B v qs:=
 let⟨ps,h1,h2,h3⟩:=h
 ⟨ps,own_later h1 hx,h2,fun i q hi=>let⟨p,g1,g2,g3,g4⟩:=h3 i q hi;⟨p,g1,g2,g3,g4.later hx⟩⟩
theorem OwnPR.low{w:World}{B B':Nat}{v:Value}{qs:List PrtV}(h:OwnPR w B v qs)(hB:B'<=B):OwnPR w B' v qs:=
 let⟨ps,h1,h2,h3⟩:=h
 ⟨ps,own_low h1 hB,h2,fun i q hi=>let⟨p,g1,g2,g3,g4⟩:=h3 i q hi;⟨p,g1,g2,g3,own_low g4 hB⟩⟩
theorem OwnPR.app{w w':World}{B:Nat}{v v':Value}{qs:List PrtV}{q:PrtV}{p:Prt}{ps:List Prt}(hown:w.ownsRow B 85 3 v qs.length (pcells ps))(hlen:ps.length=qs.length)
 (hqs:∀(i:Nat) (q:PrtV),qs[i]? =some q->∃p,ps[i]? =some p/\p.fr=q.fr/\p.up=q.up/\OwnI w B p.rk q.rk)
 (ho:w'.ownsRow B 85 3 v' (qs.length+1) (pcells ps++p.cells)) (hg:w.grownBy w' v.ownBlock) (hp:p.fr=q.fr/\p.up=q.up/\OwnI w B p.rk q.rk):OwnPR w' B v' (qs++[q]):=by
 have hk:∀{u:Value} {l:List Int},OwnI w B u l->OwnI w' B u l:=fun{u l} h=>own_apart h hown (by decide) hg
 refine⟨ps++[p],by rw[List.length_append,pcells_app];simpa[pcells]using ho,by simp[hlen],fun i r hi=>?_⟩
 rcases snoc_get hi with hi|⟨rfl,rfl⟩
 ·obtain⟨x,g1,g2,g3,g4⟩:=hqs i r hi
  have hil:=(List.getElem?_eq_some_iff.1 hi).1
  exact⟨x,by rw[List.getElem?_append_left (by omega)];exact g1,g2,g3,hk g4⟩
 ·exact⟨p,by rw[List.getElem?_append_right (by omega),hlen];simp,hp.1,hp.2.1,hk hp.2.2⟩
theorem OwnPR.setCell{w:World}{B:Nat}{v:Value}{qs:List PrtV}(h:OwnPR w B v qs){p:Addr}(hp:p.block<B)(x:Value):OwnPR (w.setCell p x) B v qs:=
 let⟨ps,h1,h2,h3⟩:=h
 ⟨ps,own_set h1 hp x,h2,fun i q hi=>let⟨p',g1,g2,g3,g4⟩:=h3 i q hi;⟨p',g1,g2,g3,own_set g4 hp x⟩⟩
theorem OwnPR.parts{w:World}{B:Nat}{v:Value}{qs:List PrtV}(h:OwnPR w B v qs):∃ps:List Prt,OwnP w B v ps/\ps.length=qs.length/\ps.map (fun p=>(p.fr,p.up))=qs.map (fun q=>(q.fr,q.up))/\∀(i:Nat) (q:PrtV),qs[i]? =some q->∃p,ps[i]? =some p/\OwnI w B p.rk q.rk:=by
 obtain⟨ps,h1,h2,h3⟩:=h
 refine⟨ps,by unfold OwnP;rw[h2];exact h1,h2,?_,fun i q hi=>let⟨p,g1,_,_,g4⟩:=h3 i q hi;⟨p,g1,g4⟩⟩
 refine List.ext_getElem (by simp[h2]) fun i hi hj=>?_
 simp only[List.length_map]at hi hj
 obtain⟨p,g1,g2,g3,_⟩:=h3 i _ (gE hj)
 rw[gE hi]at g1
 cases g1
 simp[g2,g3]
def rankN(ranks:List Int)(j:Nat):Int:=if 0<ranks.length then ranks.getD (j%ranks.length) 0 else 0
def fitRk(n:Nat)(x:Int):Int:=(x.tmod n+n).tmod n
def rowRk(n:Nat)(ranks:List Int)(i:Nat):List Int:=(List.range n).map fun k=>fitRk n (rankN ranks (i*n+k))
def partsF(L:List (BitVec 32))(n:Nat)(ranks:List Int):List PrtV:=(List.range L.length).map fun i=>⟨L.getD i 0#32,endV L i,rowRk n ranks i⟩
theorem r12Ends_any(lv:Value)(l:List (BitVec 32))(k:Nat)(w:World)(hl:UsAt w lv l)(hk:k<l.length):
 Calls Tryz.prog 53 #[lv,I k] w fun e w'=>e=.returned (.tuple #[U l[k],U (endV l k),.bool true])/\Ext w w':=by
 obtain⟨ad,cap,rfl,a1,a2,a3⟩:=hl.form
 have A3:=Hd a3
 clear a3
 unfold maxLen at a2
 obtain⟨b0,o0,rfl,p0⟩:=A3.out k l[k] (gE hk)
 by_cases hk1:k+1<l.length
 ·obtain⟨b1,o1,he,p1⟩:=A3.out (k+1) l[k+1] (gE hk1)
  simp only[Option.some.injEq,Addr.mk.injEq,and_true]at he
  obtain⟨rfl,rfl⟩:=he
  have HE:=Hd (show endV l k=l[k+1]-1#32 by unfold endV;rw[dif_pos hk1])
  have hd:((k:Int)==(l.length:Int)-1)=false:=beq_false_of_ne (by omega)
  replace p0:=Ext.keep p0
  replace p1:=Ext.keep p1
  go_enter Tryz.func53,Tryz.ntmps53
  go_wp2_with fail
  refine wp_region_E 12 rfl (by kernel_rfl) (by kernel_rfl) ?_
  refine WEi_at 0 ?_
  iterate 12
   refine WEi_q rfl (by decide) (by kernel_rfl) rfl ?_;apply Exists.intro;refine⟨fun w1 hx1=>?_,?_⟩
   ·have hq1:=hx1.cells;go_simp;try go_bits
    first|with_reducible rfl|(rw[if_pos (by omega)];exact⟨eR _,rfl⟩)
   go_frame;try simp only[Nat.reduceAdd]
  refine WEi_out ?_
  refine WE_done (by kernel_rfl) (fun w2 hx2=>?_)
  (try simp only[List.drop_succ_cons,List.drop_zero])
  go_wp2_with fail
  go_ret3
  exact⟨by rw[HE.out];rfl,hx2⟩
 ·have HE:=Hd (show endV l k=4294967295#32 by unfold endV;rw[dif_neg hk1])
  have hd:((k:Int)==(l.length:Int)-1)=true:=by simp;omega
  go_enter Tryz.func53,Tryz.ntmps53
  go_wp2_with fail
  go_ret3
  exact⟨by rw[HE.out];rfl,by(repeat with_reducible first|exact eR _|assumption|refine eA ?_ _|refine eD ?_|refine eW ?_ _|(refine eS ?_ ?_;focus(first|(simp;done)|(simp;omega)|omega)))⟩
theorem blk_grownT{w w':World}{b:Nat}{cs:List Value}{T e:TypeId}{B s n:Nat}{v:Value}{xs:List Value}(hb:Blk w b cs T)(ho:w.ownsRow B e s v n xs)(hT:T≠e)(hg:w.grownBy w' v.ownBlock):Blk w' b cs T:=by
 have h1:=hg.block b hb.lt (blk_row hb ho hT)
 unfold Blk at*
 rw[h1];exact hb
def ranksF(rs:List (List Int)):List Int:=(rs.take 12).flatten
theorem atN_eq{l:List (BitVec 32)}(hr:Rising l){a:BitVec 32}{m:Nat}(hm:m<l.length)(h1:uv l[m]<=uv a)(h2:∀h:m+1<l.length,uv a<uv l[m+1]):atN l a=m+1:=by
 have hle:=atN_le l a
 rcases Nat.lt_or_ge m (atN l a)with g|g
 ·rcases Nat.lt_or_ge (m+1) (atN l a)with g2|g2
  ·have:=atN_lt g2 (by omega)
   have:=h2 (by omega)
   omega
  ·omega
 ·have h3:=atN_end (l:=l) (a:=a) (by omega)
  have h4:=hr.le g hm
  omega
theorem end_ge{l:List (BitVec 32)}(hr:Rising l){k:Nat}(hk:k<l.length):uv l[k]<=uv (endV l k):=by
 by_cases h:k+1<l.length
 ·rw[end_pos hr h]
  have:=hr.lt (show k<k+1 by omega) h
  omega
 ·rw[end_top h,uv_top]
  have:=(uv_bd l[k]).2
  omega
theorem atN_high{l:List (BitVec 32)}(hr:Rising l){k:Nat}(hk:k<l.length):atN l (endV l k)=k+1:=atN_eq hr hk (end_ge hr hk) (fun h=>by rw[end_pos hr h];omega)
def nxt(l:List (BitVec 32))(k:Nat):Int:=if h:k<l.length then uv l[k]else 4294967296
theorem nxt_at{l:List (BitVec 32)}{k:Nat}(h:k<l.length):nxt l k=uv l[k]:=by unfold nxt;rw[dif_pos h]
theorem nxt_step{l:List (BitVec 32)}(hr:Rising l){k:Nat}:nxt l (k+1)=uv (endV l k)+1:=by
 unfold nxt
 by_cases h:k+1<l.length
 ·rw[dif_pos h,end_pos hr h];omega
 ·rw[dif_neg h,end_top h,uv_top];rfl
end Go.Proofs.YtjflkifodfncmaaGreatDoor
