/- CrtB, CrtR: these texts in one. Conditions: each theorem names its own. -/
import Derived.Test.YtjflkifodfncmaaGreatDoorGByt
import Derived.Test.YtjflkifodfncmaaGreatDoorGAna
namespace Go.Proofs.YtjflkifodfncmaaGreatDoor
open Go.RowKit
abbrev RS:=List Byt × Int
def rFail(s:RS)(e:Int):RS:=if s.2=0 then(s.1,e)else s
def rNum(size:Nat)(s:RS):Nat × RS:=if s.2≠0 then(0,s)else if s.1.length<size then(0,(s.1,2))else(deN (s.1.take size),(s.1.drop size,0))
def rGroup(s:RS):Nat × RS:=if s.2≠0 then(0,s)else if(gtake s.1).2.2≠0 then(0,(s.1,(gtake s.1).2.2))else((gtake s.1).1,(s.1.drop (gtake s.1).2.1,0))
def rCount(most:Nat)(s:RS):Nat × RS:=if most<(rGroup s).1 then(0,rFail (rGroup s).2 12)else rGroup s
def rList{α:Type}(one:RS->α × RS):Nat->List α->RS->List α × RS
 |0,acc,s=>(acc,s)
 |n+1,acc,s=>if(one s).2.2≠0 then([],(one s).2)else rList one n (acc++[(one s).1]) (one s).2
structure PV where
 fr:BitVec 32
 up:BitVec 32
 rk:List Nat
def rPart(nodes:Nat)(s:RS):PV × RS:=
 (⟨BitVec.ofNat 32 (rNum 4 s).1,BitVec.ofNat 32 (rNum 4 (rNum 4 s).2).1,(rList rGroup nodes [] (rNum 4 (rNum 4 s).2).2).1⟩,(rList rGroup nodes [] (rNum 4 (rNum 4 s).2).2).2)
def bare(fr up:BitVec 32):Prt:=⟨fr,up,none,0,0⟩
def intsN(l:List Nat):List Int:=l.map fun(n:Nat)=>(n:Int)
def crtP(ps:List PV):Crt:=⟨1,ps.map fun p=>bare p.fr p.up,ps.map fun p=>intsN p.rk,0#32,[]⟩
def crtL(vd:Nat)(d:BitVec 32)(tr:List Nat):Crt:=⟨vd,[],[],d,intsN tr⟩
def rdVd(l:List Byt):Nat:=(rNum 1 (l,0)).1
def rdS2(l:List Byt):RS:=if rdVd l≠1/\rdVd l≠2 then rFail (rNum 1 (l,0)).2 9 else(rNum 1 (l,0)).2
def rdNodes(l:List Byt):Nat:=(rCount 256 (rdS2 l)).1
def rdS3(l:List Byt):RS:=(rCount 256 (rdS2 l)).2
def rdParts(l:List Byt):List PV × RS:=rList (rPart (rdNodes l)) (rCount 8193 (rdS3 l)).1 [] (rCount 8193 (rdS3 l)).2
def rdTrace(l:List Byt):List Nat × RS:=rList rGroup (rCount 256 (rNum 4 (rdS3 l)).2).1 [] (rCount 256 (rNum 4 (rdS3 l)).2).2
def rdCrt(l:List Byt):Crt:=if rdVd l=1 then crtP (rdParts l).1 else crtL (rdVd l) (BitVec.ofNat 32 (rNum 4 (rdS3 l)).1) (rdTrace l).1
def rdS(l:List Byt):RS:=if rdVd l=1 then(rdParts l).2 else(rdTrace l).2
def rdEnd(l:List Byt):RS:=if 0<(rdS l).1.length then rFail (rdS l) 4 else rdS l
def rdErr(l:List Byt):Int:=if(rdEnd l).2=0 then certMayV (rdNodes l) (rdCrt l)else(rdEnd l).2
def certTake(b:List Byt):Except Int (Crt × Nat):=
 if(ftake magC b).2≠0 then .error (ftake magC b).2 else if rdErr (ftake magC b).1≠0 then .error (rdErr (ftake magC b).1)else .ok (rdCrt (ftake magC b).1,rdNodes (ftake magC b).1)
def groupsB(l:List Int):List Byt:=l.flatMap fun x=>gput x.toNat
def partB(p:Prt × List Int):List Byt:=be4 p.1.fr++(be4 p.1.up++groupsB p.2)
def certB(c:Crt)(nodes:Nat):List Byt:=
 beN 1 c.vd.toNat++(gput nodes++if c.vd=1 then gput c.ps.length++(c.ps.zip c.rks).flatMap partB else be4 c.dest++(gput c.tr.length++groupsB c.tr))
def certPut(c:Crt)(nodes:Nat):List Byt:=fput magC (certB c nodes)
theorem CrtEq.refl(c:Crt):CrtEq c c:=⟨rfl,rfl,rfl,rfl,rfl⟩
theorem CrtEq.symm{c d:Crt}(h:CrtEq c d):CrtEq d c:=⟨h.vd.symm,h.dest.symm,h.tr.symm,h.rks.symm,h.ps.symm⟩
theorem CrtEq.trans{c d e:Crt}(h:CrtEq c d)(k:CrtEq d e):CrtEq c e:=⟨h.vd.trans k.vd,h.dest.trans k.dest,h.tr.trans k.tr,h.rks.trans k.rks,h.ps.trans k.ps⟩
theorem zip_partB:∀{ps qs:List Prt} (rks:List (List Int)),ps.map (fun p=>(p.fr,p.up))=qs.map (fun p=>(p.fr,p.up))->(ps.zip rks).flatMap partB=(qs.zip rks).flatMap partB
 |[],[],_,_=>rfl
 |[],q::qs,_,h=>by simp at h
 |p::ps,[],_,h=>by simp at h
 |p::ps,q::qs,[],_=>rfl
 |p::ps,q::qs,r::rks,h=>by
  simp only[List.map_cons,List.cons.injEq,Prod.mk.injEq]at h
  obtain⟨⟨h1,h2⟩,h3⟩:=h
  rw[List.zip_cons_cons,List.zip_cons_cons,List.flatMap_cons,List.flatMap_cons,zip_partB rks h3]
  unfold partB
  rw[h1,h2]
theorem certB_congr{c d:Crt}(h:CrtEq c d)(n:Nat):certB c n=certB d n:=by
 have hl:c.ps.length=d.ps.length:=by have:=congrArg List.length h.ps;simpa using this
 unfold certB
 rw[h.vd,h.dest,h.tr,h.rks,hl,zip_partB d.rks h.ps]
theorem certPut_congr{c d:Crt}(h:CrtEq c d)(n:Nat):certPut c n=certPut d n:=by unfold certPut;rw[certB_congr h]
theorem certMayV_congr{c d:Crt}(h:CrtEq c d)(n:Int):certMayV n c=certMayV n d:=by
 have hl:c.ps.length=d.ps.length:=by have:=congrArg List.length h.ps;simpa using this
 have hm:meetV c.ps=meetV d.ps:=by
  have key:∀{ps qs:List Prt} {nx:Int},ps.map (fun p=>(p.fr,p.up))=qs.map (fun p=>(p.fr,p.up))->meetG nx ps=meetG nx qs:=by
   intro ps
   induction ps with
   |nil=>intro qs nx h;cases qs with
    |nil=>rfl
    |cons q qs=>simp at h
   |cons p ps ih=>intro qs nx h;cases qs with
    |nil=>simp at h
    |cons q qs=>
     simp only[List.map_cons,List.cons.injEq,Prod.mk.injEq]at h
     obtain⟨⟨h1,h2⟩,h3⟩:=h
     unfold meetG
     rw[h1,h2,ih h3]
  unfold meetV
  rw[key h.ps]
 unfold certMayV freeV loopsV
 rw[h.vd,h.dest,h.tr,h.rks,hl,hm]
theorem rNum_is{k:Nat}{s:RS}(h:(rNum k s).2.2=0):s.2=0/\s.1=beN k (rNum k s).1++(rNum k s).2.1/\(rNum k s).1<256^k:=by
 unfold rNum at*
 by_cases h0:s.2≠0
 ·rw[if_pos h0]at h;exact absurd h h0
 ·rw[if_neg h0]at*
  by_cases h1:s.1.length<k
  ·rw[if_pos h1]at h;cases h
  ·rw[if_neg h1]at*
   have hl:(s.1.take k).length=k:=by rw[List.length_take];omega
   refine⟨Classical.not_not.1 h0,?_,deN_lt k _ hl⟩
   rw[beN_deN k _ hl,List.take_append_drop]
theorem rGroup_is{s:RS}(h:(rGroup s).2.2=0):s.2=0/\s.1=gput (rGroup s).1++(rGroup s).2.1/\(rGroup s).1<268435456:=by
 unfold rGroup at*
 by_cases h0:s.2≠0
 ·rw[if_pos h0]at h;exact absurd h h0
 ·rw[if_neg h0]at*
  by_cases h1:(gtake s.1).2.2≠0
  ·rw[if_pos h1]at h;exact absurd h h1
  ·rw[if_neg h1]at*
   have hg:gtake s.1=((gtake s.1).1,(gtake s.1).2.1,0):=by rw[<-Classical.not_not.1 h1]
   obtain⟨e1,e2,e3,e4⟩:=gput_gtake hg
   refine⟨Classical.not_not.1 h0,?_,e2⟩
   rw[<-e4,List.take_append_drop]
theorem rFail_no{s:RS}{e:Int}(he:e≠0):(rFail s e).2≠0:=by
 unfold rFail
 split
 ·exact he
 ·assumption
theorem rCount_is{most:Nat}{s:RS}(h:(rCount most s).2.2=0):s.2=0/\s.1=gput (rCount most s).1++(rCount most s).2.1/\(rCount most s).1<268435456/\(rCount most s).1<=most:=by
 unfold rCount at*
 by_cases h0:most<(rGroup s).1
 ·rw[if_pos h0]at h;exact absurd h (rFail_no (by decide))
 ·rw[if_neg h0]at*
  obtain⟨h1,h2,h3⟩:=rGroup_is h
  exact⟨h1,h2,h3,by omega⟩
theorem rList_is{α:Type}{one:RS->α × RS}{put:α->List Byt}{P:α->Prop}(ho:∀s,(one s).2.2=0->s.2=0/\s.1=put (one s).1++(one s).2.1/\P (one s).1):∀(n:Nat) (acc:List α) (s:RS),(rList one n acc s).2.2=0->
 s.2=0/\∃l:List α,(rList one n acc s).1=acc++l/\l.length=n/\s.1=l.flatMap put++(rList one n acc s).2.1/\∀x∈l,P x
 |0,acc,s,h=>⟨h,[],by rw[List.append_nil];rfl,rfl,rfl,fun x hx=>by cases hx⟩
 |n+1,acc,s,h=>by
  unfold rList at*
  by_cases h0:(one s).2.2≠0
  ·rw[if_pos h0]at h;exact absurd h h0
  ·rw[if_neg h0]at*
   obtain⟨g1,g2,g3⟩:=ho s (Classical.not_not.1 h0)
   obtain⟨_,l,k2,k3,k4,k5⟩:=rList_is ho n _ _ h
   refine⟨g1,(one s).1::l,by rw[k2,List.append_assoc];rfl,by rw[List.length_cons,k3],?_,fun x hx=>?_⟩
   ·rw[List.flatMap_cons,List.append_assoc,<-k4];exact g2
   ·rcases List.mem_cons.1 hx with rfl|hx
    ·exact g3
    ·exact k5 x hx
def putP(p:PV):List Byt:=be4 p.fr++(be4 p.up++p.rk.flatMap gput)
theorem rPart_is{nodes:Nat}(s:RS)(h:(rPart nodes s).2.2=0):s.2=0/\s.1=putP (rPart nodes s).1++(rPart nodes s).2.1/\((rPart nodes s).1.rk.length=nodes/\∀x∈(rPart nodes s).1.rk,x<268435456):=by
 have h3:(rList rGroup nodes [] (rNum 4 (rNum 4 s).2).2).2.2=0:=h
 obtain⟨g1,l,g2,g3,g4,g5⟩:=rList_is (put:=gput) (P:=fun n=>n<268435456) (fun s hs=>rGroup_is hs) nodes [] _ h3
 obtain⟨k1,k2,k3⟩:=rNum_is g1
 obtain⟨m1,m2,m3⟩:=rNum_is k1
 have hl:(rPart nodes s).1.rk=l:=by show(rList rGroup nodes [] (rNum 4 (rNum 4 s).2).2).1=l;rw[g2];rfl
 refine⟨m1,?_,by rw[hl];exact g3,by rw[hl];exact g5⟩
 have e1:be4 (BitVec.ofNat 32 (rNum 4 s).1)=beN 4 (rNum 4 s).1:=by unfold be4;rw[BitVec.toNat_ofNat,Nat.mod_eq_of_lt (by omega)]
 have e2:be4 (BitVec.ofNat 32 (rNum 4 (rNum 4 s).2).1)=beN 4 (rNum 4 (rNum 4 s).2).1:=by unfold be4;rw[BitVec.toNat_ofNat,Nat.mod_eq_of_lt (by omega)]
 unfold putP
 rw[hl]
 show s.1=be4 (BitVec.ofNat 32 (rNum 4 s).1)++(be4 (BitVec.ofNat 32 (rNum 4 (rNum 4 s).2).1)++l.flatMap gput)++(rList rGroup nodes [] (rNum 4 (rNum 4 s).2).2).2.1
 rw[e1,e2,List.append_assoc,List.append_assoc,<-g4,<-k2,<-m2]
theorem groups_ints(l:List Nat):groupsB (intsN l)=l.flatMap gput:=by
 unfold groupsB intsN
 rw[List.flatMap_map]
 simp
theorem parts_put(ps:List PV):((ps.map fun p=>bare p.fr p.up).zip (ps.map fun p=>intsN p.rk)).flatMap partB=ps.flatMap putP:=by
 induction ps with
 |nil=>rfl
 |cons p ps ih=>
  rw[List.map_cons,List.map_cons,List.zip_cons_cons,List.flatMap_cons,List.flatMap_cons,ih]
  unfold partB putP bare
  rw[groups_ints]
theorem rd_is{l:List Byt}(h:rdErr l=0):l=certB (rdCrt l) (rdNodes l)/\certMayV (rdNodes l) (rdCrt l)=0/\rdNodes l<=256:=by
 have h1:(rdEnd l).2=0:=by
  unfold rdErr at h
  split at h
  ·assumption
  ·exact h
 have hm:certMayV (rdNodes l) (rdCrt l)=0:=by
  unfold rdErr at h
  rw[if_pos h1]at h;exact h
 have h2:¬0<(rdS l).1.length:=fun g=>by
  unfold rdEnd at h1
  rw[if_pos g]at h1
  exact rFail_no (by decide) h1
 have h3:(rdS l).2=0:=by
  unfold rdEnd at h1
  rw[if_neg h2]at h1;exact h1
 have hnil:(rdS l).1=[]:=List.eq_nil_of_length_eq_zero (by omega)
 have hS3:(rdS3 l).2=0->l=beN 1 (rdVd l)++(gput (rdNodes l)++(rdS3 l).1)/\(rdVd l=1\/rdVd l=2)/\rdNodes l<=256:=fun g=>by
  obtain⟨k1,k2,_,k4⟩:=rCount_is g
  have hv:¬(rdVd l≠1/\rdVd l≠2):=fun hv=>by
   unfold rdS2 at k1
   rw[if_pos hv]at k1
   exact rFail_no (by decide) k1
  have e2:rdS2 l=(rNum 1 (l,0)).2:=by unfold rdS2;rw[if_neg hv]
  rw[e2]at k1
  obtain⟨_,m2,_⟩:=rNum_is k1
  refine⟨?_,by omega,k4⟩
  have m2':l=beN 1 (rdVd l)++(rdS2 l).1:=by rw[e2];exact m2
  have k2':(rdS2 l).1=gput (rdNodes l)++(rdS3 l).1:=k2
  rw[<-k2'];exact m2'
 by_cases hv:rdVd l=1
 ·have hs:rdS l=(rdParts l).2:=by unfold rdS;rw[if_pos hv]
  rw[hs]at h3 hnil
  obtain⟨g1,ps,g2,g3,g4,g5⟩:=rList_is (put:=putP) (P:=fun p=>p.rk.length=rdNodes l/\∀x∈p.rk,x<268435456) (fun s hs=>rPart_is s hs) _ [] _ h3
  obtain⟨k1,k2,_,_⟩:=rCount_is g1
  obtain⟨q1,_,q3⟩:=hS3 k1
  have hc:rdCrt l=crtP ps:=by
   unfold rdCrt
   rw[if_pos hv]
   show crtP (rdParts l).1=_
   unfold rdParts
   rw[g2];rfl
  refine⟨?_,hm,q3⟩
  have hn2:(rList (rPart (rdNodes l)) (rCount 8193 (rdS3 l)).1 [] (rCount 8193 (rdS3 l)).2).2.1=[]:=hnil
  rw[hn2,List.append_nil]at g4
  rw[g4]at k2
  rw[hc]
  conv=>lhs;rw[q1,k2,hv]
  unfold certB crtP
  simp only
  rw[if_pos trivial,List.length_map,g3,parts_put]
  rfl
 ·have hs:rdS l=(rdTrace l).2:=by unfold rdS;rw[if_neg hv]
  rw[hs]at h3 hnil
  obtain⟨g1,tr,g2,g3,g4,g5⟩:=rList_is (put:=gput) (P:=fun n=>n<268435456) (fun s hs=>rGroup_is hs) _ [] _ h3
  obtain⟨k1,k2,_,_⟩:=rCount_is g1
  obtain⟨m1,m2,m3⟩:=rNum_is k1
  obtain⟨q1,q2,q3⟩:=hS3 m1
  have hv2:rdVd l=2:=by omega
  have hc:rdCrt l=crtL (rdVd l) (BitVec.ofNat 32 (rNum 4 (rdS3 l)).1) tr:=by
   unfold rdCrt
   rw[if_neg hv]
   show crtL _ _ (rdTrace l).1=_
   unfold rdTrace
   rw[g2];rfl
  refine⟨?_,hm,q3⟩
  have hn2:(rList rGroup (rCount 256 (rNum 4 (rdS3 l)).2).1 [] (rCount 256 (rNum 4 (rdS3 l)).2).2).2.1=[]:=hnil
  rw[hn2,List.append_nil]at g4
  rw[g4]at k2
  rw[k2]at m2
  have e1:be4 (BitVec.ofNat 32 (rNum 4 (rdS3 l)).1)=beN 4 (rNum 4 (rdS3 l)).1:=by unfold be4;rw[BitVec.toNat_ofNat,Nat.mod_eq_of_lt (by omega)]
  rw[hc,hv2]
  conv=>lhs;rw[q1,m2,hv2]
  unfold certB crtL
  simp only
  rw[if_neg (by decide),e1,groups_ints]
  unfold intsN
  rw[List.length_map,g3]
  rfl
theorem certPut_take{b:List Byt}{c:Crt}{n:Nat}(h:certTake b=.ok (c,n)):b=certPut c n/\certMayV n c=0/\n<=256:=by
 unfold certTake at h
 split at h
 ·cases h
 ·rename_i h1
  split at h
  ·cases h
  ·rename_i h2
   cases h
   obtain⟨g1,g2,g3⟩:=rd_is (Classical.not_not.1 h2)
   have hf:ftake magC b=((ftake magC b).1,0):=by rw[<-Classical.not_not.1 h1]
   refine⟨?_,g2,g3⟩
   unfold certPut
   rw[<-g1]
   exact fput_ftake hf
def natsI(l:List Int):List Nat:=l.map Int.toNat
def pvs(c:Crt):List PV:=(c.ps.zip c.rks).map fun q=>⟨q.1.fr,q.1.up,natsI q.2⟩
end Go.Proofs.YtjflkifodfncmaaGreatDoor
