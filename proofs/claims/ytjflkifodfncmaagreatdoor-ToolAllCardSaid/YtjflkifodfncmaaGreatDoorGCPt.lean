/- WriteW, CPutW: these texts in one. Conditions: each theorem names its own. -/
import Derived.Test.YtjflkifodfncmaaGreatDoorGNPt
import Derived.Test.YtjflkifodfncmaaGreatDoorGCrt
namespace Go.Proofs.YtjflkifodfncmaaGreatDoor
set_option maxHeartbeats 8000000
set_option maxRecDepth 100000
open Go Go.RowKit Go.Maps Go.Proofs
structure Wx(wb:Nat)(w w':World):Prop where
 below:Below wb w w'
 size:w.heap.size<=w'.heap.size
 blk:∀(b:Nat) (cs:List Value) (T:TypeId),b≠wb->T≠5->Blk w b cs T->Blk w' b cs T
theorem Wx.ext{wb:Nat}{w w':World}(h:Ext w w')(hb:wb<=w.heap.size):Wx wb w w':=⟨Below.mono h hb,h.size,fun _ _ _ _ _ k=>k.later h⟩
theorem Wx.trans{wb:Nat}{a b c:World}(h:Wx wb a b)(k:Wx wb b c):Wx wb a c:=⟨h.below.trans k.below,Nat.le_trans h.size k.size,fun b cs T h1 h2 h3=>k.blk b cs T h1 h2 (h.blk b cs T h1 h2 h3)⟩
theorem Wx.grown{wb B n:Nat}{w w':World}{v:Value}{xs:List Value}(ho:w.ownsRow B 5 1 v n xs)(hB:wb<=B)(hs:B<=w.heap.size)(hg:w.grownBy w' v.ownBlock):Wx wb w w':=
 ⟨Below.grown (Below.refl _ _) hg (Nat.le_trans hB hs) fun k hk=>Nat.le_trans hB (ho.lt k hk).1,hg.size,fun _ _ _ _ hT k=>blk_grownY k ho hT hg⟩
theorem Wx.set{wb i:Nat}{w:World}(x:Value):Wx wb w (w.setCell ⟨wb,i,none⟩ x):=
 ⟨Below.setCell (p:=⟨wb,i,none⟩) (Below.refl wb w) (Nat.le_refl wb) x,by simp,fun _ _ _ hb _ k=>k.other (Ne.symm hb) x⟩
theorem Wx.outer{wb:Nat}{a w w':World}(h:Wx wb w w')(k:Ext a w)(hb:a.heap.size<=wb):Ext a w':=Below.trans k (Below.mono h.below hb)
theorem writerNum_any(wb B:Nat)(u:Value)(L:List Byt)(k:Nat)(hk:k=1\/k=2\/k=4)(v:Value)(l:List Int)(w:World)(hw:Blk w wb [u,I 0] 89)(ho:OwnY w B u L)(hB:wb<B)(hs:B<=w.heap.size)
 (h:IntsAt w v l) (hb:∀x∈l,0<=x/\x<((256^k:Nat):Int)) (hl:l.length<=1000) (hL:L.length<=1000000000):
 Calls Tryz.prog 44 #[.pointer (some ⟨wb,0,none⟩),I k,v] w fun e w'=>e=.returned (.tuple #[])/\(∃u',Blk w' wb [u',I 0] 89/\OwnY w' B u' (L++rowB k l))/\Wx wb w w':=by
 have HW:=Hd hw
 have HO:=Hd ho
 have HB:=Hd hB
 have HSZ:=Hd hs
 have HR:=Hd (numRow_any k hk v l w h hb hl)
 have HRL:=Hd (show(rowB k l).length<=4000 by rw[rowB_len];rcases hk with rfl|rfl|rfl<;>omega)
 obtain⟨ua,uc,rfl⟩:=ho.form
 obtain⟨va,vc,rfl,-⟩:=h.form
 clear hw ho h hb hk hB hs
 generalize rowB k l=M at*
 have hc:=HW.out.cells
 have hf:=HW.out.frozen
 go_enter Tryz.func44,Tryz.ntmps44
 go_wp2_with (first
  |(go_at_call 104;(with_reducible refine HR.out.mono ?_);rintro e w1 ⟨v1,he,ho,hx⟩;obtain⟨a1,c1,e1⟩:=ho.form;subst e1;subst he;have HY1:=Hd ho.bs;have HO1:=Hd (HO.out.later hx);have HX1:=Hd hx;have HW1:=Hd (HW.out.later hx);clear ho hx hc hf;have hc:=HW1.out.cells;have hf:=HW1.out.frozen)
  |(at_builtin;refine wpList_app rfl _ _ 22 rfl B 5 (.int .u8 0) 1 1 Tryz.underlying22 infoU8' rfl (by decide) (by decide) _ _ _ rfl HO1.out _ _ _ rfl HY1.out (ycells_one _) (by have:=HRL.out;omega) (Nat.le_trans HSZ.out HX1.out.size) ?_
    intro v8 w8 ho8 hg8;have HO8:=Hd (show OwnY w8 B v8 (L++M)by unfold OwnY;rw[ycells_app,List.length_append];exact ho8);have HX8:=Hd ((Wx.ext HX1.out (Nat.le_trans (Nat.le_of_lt HB.out) HSZ.out)).trans (Wx.grown HO1.out (Nat.le_of_lt HB.out) (Nat.le_trans HSZ.out HX1.out.size) hg8));have HW8:=Hd (blk_grownY HW1.out HO1.out (by decide) hg8);clear ho8 hg8 hc hf;obtain⟨a8,c8,e8⟩:=HO8.out.form;rw[List.length_append]at e8;subst e8;have hc:=HW8.out.cells;have hf:=HW8.out.frozen))
 go_end0
 exact⟨rfl,⟨_,(HW8.out.set 0 _).set 1 _,own_set (own_set HO8.out HB.out _) HB.out _⟩,HX8.out.trans ((Wx.set _).trans (Wx.set _))⟩
theorem groupsB_len(l:List Int):(groupsB l).length<=4*l.length:=by
 unfold groupsB
 induction l with
 |nil=>simp
 |cons x l ih=>
  have h1:=gsize_bd x.toNat
  rw[List.flatMap_cons,List.length_append,gput_len,List.length_cons]
  omega
theorem writerGroup_any(wb B:Nat)(u:Value)(L:List Byt)(v:Value)(l:List Int)(w:World)(hw:Blk w wb [u,I 0] 89)(ho:OwnY w B u L)(hB:wb<B)(hs:B<=w.heap.size)
 (h:∀w',Wx wb w w'->IntsAt w' v l) (hb:∀x∈l,0<=x/\x<268435456) (hl:l.length<=1000000) (hL:L.length<=1000000000):
 Calls Tryz.prog 45 #[.pointer (some ⟨wb,0,none⟩),v] w fun e w'=>e=.returned (.tuple #[])/\(∃u',Blk w' wb [u',I 0] 89/\OwnY w' B u' (L++groupsB l))/\Wx wb w w':=by
 have HX0:=Hd (show Wx wb w w from Wx.ext (eR w) (Nat.le_trans (Nat.le_of_lt hB) hs))
 obtain⟨va,vc,rfl,hvc1,hvc2,-⟩:=(h w HX0.out).form
 have HV:=Hd h
 have HW:=Hd hw
 have HO:=Hd ho
 have HB:=Hd hB
 have HSZ:=Hd hs
 have HNB:=Hd hb
 have HLN:=Hd (show∀j,(L++groupsB (l.take j)).length<=1004000000 from fun j=>by
  have:=groupsB_len (l.take j)
  rw[List.length_take]at this
  rw[List.length_append];omega)
 have HE:=Hd (show L++groupsB (l.take l.length)=L++groupsB l by rw[List.take_length])
 clear hw ho h hb hB hs
 unfold maxLen at hvc2
 go_enter Tryz.func45,Tryz.ntmps45
 go_wp2_with fail
 go_loopw[10] (fun i wr=>∃(j:Nat) (u:Value),j<=l.length/\i=I j/\Hid (Blk wr wb [u,I 0] 89)/\Hid (OwnY wr B u (L++groupsB (l.take j)))/\Hid (Wx wb w wr)) (fun i _=>l.length-(intOf i).toNat)
 case atStart=>exact⟨0,_,by omega,rfl,HW,Hd (by simpa[groupsB]using HO.out),HX0⟩
 case round=>
  obtain⟨j,u,hj,rfl,HW,HO,HX⟩:=hrel
  have hc:=HW.out.cells
  have hf:=HW.out.frozen
  by_cases hlt:j<l.length
  ·obtain⟨va',vc',e',-,-,h3⟩:=(HV.out wr HX.out).form
   obtain⟨rfl,rfl⟩:va=va'/\vc=vc':=by simpa using e'
   clear e'
   obtain⟨b0,o0,rfl,p0⟩:=h3 j l[j] (gE hlt)
   clear h3
   have hxb:=HNB.out _ (List.getElem_mem hlt)
   have HR:=Hd (show L++groupsB (l.take (j+1))=(L++groupsB (l.take j))++gput l[j].toNat by rw[List.append_assoc];exact congrArg (L++ ·) (flatB_step hlt))
   have HL:=Hd (HLN.out j)
   generalize l[j]=x at*
   have HP:=Hd (show∀w,Calls Tryz.prog 81 #[I x] w fun e w'=>∃v,e=.returned (.tuple #[v,I 0])/\OwnY w' w.heap.size v (gput x.toNat)/\Ext w w' from fun w=>by
    have h:=groupPut_any x.toNat (by omega) w
    rw[Int.toNat_of_nonneg hxb.1]at h;exact h)
   have HBL:=Hd (show(gput x.toNat).length<=4 by rw[gput_len];exact(gsize_bd _).2)
   clear hxb
   generalize gput x.toNat=M at*
   generalize L++groupsB (l.take j)=K at*
   obtain⟨ua,uc,hue⟩:=HO.out.form
   subst hue
   have HSR:=Hd (Nat.le_trans HSZ.out HX.out.size)
   go_wp2_with (first
    |(go_at_call 81;(with_reducible refine(HP.out _).mono ?_);rintro e w1 ⟨v1,he,ho,hx⟩;obtain⟨a1,c1,e1⟩:=ho.form;subst e1;subst he;have HY1:=Hd ho.bs;have HO1:=Hd (HO.out.later hx);have HX1:=Hd (Wx.ext (wb:=wb) hx (Nat.le_trans (Nat.le_of_lt HB.out) HSR.out));have HW1:=Hd (HW.out.later hx);clear ho hx hc hf;have hc:=HW1.out.cells;have hf:=HW1.out.frozen)
    |(at_builtin;refine wpList_app rfl _ _ 22 rfl B 5 (.int .u8 0) 1 1 Tryz.underlying22 infoU8' rfl (by decide) (by decide) _ _ _ rfl HO1.out _ _ _ rfl HY1.out (ycells_one _) (by have:=HBL.out;have:=HL.out;omega) (Nat.le_trans HSR.out HX1.out.size) ?_
      intro v8 w8 ho8 hg8;have HO8:=Hd (show OwnY w8 B v8 (K++M)by unfold OwnY;rw[ycells_app,List.length_append];exact ho8);have HX8:=Hd (HX1.out.trans (Wx.grown HO1.out (Nat.le_of_lt HB.out) (Nat.le_trans HSR.out HX1.out.size) hg8));have HW8:=Hd (blk_grownY HW1.out HO1.out (by decide) hg8);clear ho8 hg8 hc hf;obtain⟨a8,c8,e8⟩:=HO8.out.form;rw[List.length_append]at e8;subst e8;have hc:=HW8.out.cells;have hf:=HW8.out.frozen))
   go_roundw
   case rel=>exact⟨j+1,_,by omega,by go_num,Hd ((HW8.out.set 0 _).set 1 _),Hd (by rw[HR.out];exact own_set (own_set HO8.out HB.out _) HB.out _),Hd (HX.out.trans (HX8.out.trans ((Wx.set _).trans (Wx.set _))))⟩
   case measure=>simp[intOf];omega
  ·obtain rfl:j=l.length:=by omega
   rw[HE.out]at HO
   go_wp2_with fail
   go_end0
   exact⟨rfl,⟨_,HW.out,HO.out⟩,HX.out⟩
theorem Wx.ints{wb:Nat}{a w w':World}{v:Value}{l:List Int}(h:IntsAt a v l)(k:Ext a w)(hb:a.heap.size<=wb)(hw:Wx wb w w'):IntsAt w' v l:=h.later (hw.outer k hb)
theorem Wx.intsB{wb b:Nat}{w w':World}{l:List Int}(h:Blk w b (icells l) 3)(hne:b≠wb)(hm:l.length<=maxLen)(hw:Wx wb w w'):IntsAt w' (.slice (some ⟨b,0,none⟩) l.length l.length) l:=by
 have h2:=hw.blk b _ _ hne (by decide) h
 refine⟨by simp[icells],_,_,rfl,Nat.le_refl _,hm,fun e=>(by cases e),fun x hx=>?_⟩
 cases hx
 refine⟨.inl rfl,fun j y hj=>?_⟩
 rw[h2.cells,Nat.zero_add];exact hj
theorem may_in64{n:Nat}{c:Crt}(hm:certMayV n c=0)(hn:n<=256):∀x∈c.tr,In64 x:=fun x hx=>by
 by_cases hv:c.vd=1
 ·rw[(free_ok hm hv).tr]at hx;cases hx
 ·have:=(loop_ok hm hv).bd x hx
  unfold In64;omega
structure WrS(w0:World)(wb cb:Nat)(cv:List Value)(w:World)(u:Value)(L:List Byt):Prop where
 wr:Blk w wb [u,I 0] 89
 own:OwnY w (wb+1) u L
 cert:Blk w cb cv 49
 ext:Ext w0 w
 sz:wb+1<=w.heap.size
theorem WrS.step{w0 w w':World}{wb cb:Nat}{cv:List Value}{u u':Value}{L M:List Byt}(h:WrS w0 wb cb cv w u L)(hw0:w0.heap.size<=wb)(hne:cb≠wb)(k:Blk w' wb [u',I 0] 89/\OwnY w' (wb+1) u' M)(hx:Wx wb w w'):WrS w0 wb cb cv w' u' M:=
 ⟨k.1,k.2,hx.blk _ _ _ hne (by decide) h.cert,hx.outer h.ext hw0,Nat.le_trans h.sz hx.size⟩
theorem WrS.later{w0 w w':World}{wb cb:Nat}{cv:List Value}{u:Value}{L:List Byt}(h:WrS w0 wb cb cv w u L)(hx:Ext w w'):WrS w0 wb cb cv w' u L:=
 ⟨h.wr.later hx,h.own.later hx,h.cert.later hx,h.ext.trans hx,Nat.le_trans h.sz hx.size⟩
theorem rowB_one(k:Nat)(x:Int):rowB k [x]=beN k x.toNat:=by simp[rowB]
theorem rowB_two(k:Nat)(x y:Int):rowB k [x,y]=beN k x.toNat++beN k y.toNat:=by simp[rowB]
theorem groupsB_one(x:Int):groupsB [x]=gput x.toNat:=by simp[groupsB]
theorem partsB_len{n:Nat}(hn:n<=256):∀(l:List (Prt × List Int)),(∀q∈l,q.2.length=n)->(l.flatMap partB).length<=l.length*1032
 |[],_=>by simp
 |q::l,h=>by
  have h1:=partsB_len hn l fun x hx=>h x (List.mem_cons_of_mem _ hx)
  have h2:=groupsB_len q.2
  have h3:=h q (List.mem_cons_self ..)
  have h4:(partB q).length=4+(4+(groupsB q.2).length):=by
   unfold partB
   rw[List.length_append,List.length_append,be4_len,be4_len]
  rw[List.flatMap_cons,List.length_append,List.length_cons]
  omega
def WrTo(w0:World)(wb cb:Nat)(cv:List Value)(W:World)(M:List Byt)(e:Ending)(w':World):Prop:=
 e=.returned (.tuple #[])/\(∃u',WrS w0 wb cb cv w' u' M)/\Wx wb W w'
section
variable {w0 W:World} {wb cb:Nat} {cv:List Value} {u:Value} {L:List Byt}
theorem WrS.alloc(hS:WrS w0 wb cb cv W u L)(o:Obj):WrS w0 wb cb cv (W.alloc o) u L:=hS.later ((eR W).alloc o)
theorem WrS.num(hS:WrS w0 wb cb cv W u L)(hw0:w0.heap.size<=wb)(hne:cb≠wb)(k:Nat)(hk:k=1\/k=2\/k=4)(l:List Int)(hb:∀x∈l,0<=x/\x<((256^k:Nat):Int))(hl:l.length<=1000)(hL:L.length<=1000000000):
 Calls Tryz.prog 44 #[.pointer (some ⟨wb,0,none⟩),I k,.slice (some ⟨W.heap.size,0,none⟩) l.length l.length] (W.alloc (.cells (icells l).toArray 3)) (WrTo w0 wb cb cv W (L++rowB k l)):=by
 have hA:=hS.alloc (.cells (icells l).toArray 3)
 refine(writerNum_any wb (wb+1) u L k hk _ l _ hA.wr hA.own (Nat.lt_succ_self _) hA.sz (Reads.made W 1 3 l.length (icells l) (by simp[icells]) (by unfold maxLen;omega)) hb hl hL).mono ?_
 rintro e w' ⟨he,⟨u',h1,h2⟩,hx⟩
 exact⟨he,⟨u',hA.step hw0 hne ⟨h1,h2⟩ hx⟩,(Wx.ext ((eR W).alloc _) (Nat.le_trans (Nat.le_succ _) hS.sz)).trans hx⟩
theorem WrS.group(hS:WrS w0 wb cb cv W u L)(hw0:w0.heap.size<=wb)(hne:cb≠wb)(l:List Int)(hb:∀x∈l,0<=x/\x<268435456)(hl:l.length<=1000000)(hL:L.length<=1000000000):
 Calls Tryz.prog 45 #[.pointer (some ⟨wb,0,none⟩),.slice (some ⟨W.heap.size,0,none⟩) l.length l.length] (W.alloc (.cells (icells l).toArray 3)) (WrTo w0 wb cb cv W (L++groupsB l)):=by
 have hA:=hS.alloc (.cells (icells l).toArray 3)
 have hbk:Blk (W.alloc (.cells (icells l).toArray 3)) W.heap.size (icells l) 3:=Blk.new W (icells l) 3
 refine(writerGroup_any wb (wb+1) u L _ l _ hA.wr hA.own (Nat.lt_succ_self _) hA.sz (fun w' hx=>Wx.intsB hbk (fun e=>by have:=hS.sz;omega) (by unfold maxLen;omega) hx) hb hl hL).mono ?_
 rintro e w' ⟨he,⟨u',h1,h2⟩,hx⟩
 exact⟨he,⟨u',hA.step hw0 hne ⟨h1,h2⟩ hx⟩,(Wx.ext ((eR W).alloc _) (Nat.le_trans (Nat.le_succ _) hS.sz)).trans hx⟩
theorem WrS.groupOld(hS:WrS w0 wb cb cv W u L)(hw0:w0.heap.size<=wb)(hne:cb≠wb)(v:Value)(l:List Int)(h:IntsAt w0 v l)(hb:∀x∈l,0<=x/\x<268435456)(hl:l.length<=1000000)(hL:L.length<=1000000000):
 Calls Tryz.prog 45 #[.pointer (some ⟨wb,0,none⟩),v] W (WrTo w0 wb cb cv W (L++groupsB l)):=by
 refine(writerGroup_any wb (wb+1) u L _ l _ hS.wr hS.own (Nat.lt_succ_self _) hS.sz (fun w' hx=>Wx.ints h hS.ext hw0 hx) hb hl hL).mono ?_
 rintro e w' ⟨he,⟨u',h1,h2⟩,hx⟩
 exact⟨he,⟨u',hS.step hw0 hne ⟨h1,h2⟩ hx⟩,hx⟩
end
theorem certB_few{n:Nat}{c:Crt}(hn:n<=256)(hlen:c.rks.length=c.ps.length)(hm:certMayV n c=0):(certB c n).length<=1000000000:=by
 have h1:=(gsize_bd n).2
 have h2:=(gsize_bd c.ps.length).2
 have h3:=(gsize_bd c.tr.length).2
 unfold certB
 rw[List.length_append,beN_len,List.length_append,gput_len]
 by_cases hv:c.vd=1
 ·have hf:=free_ok hm hv
  have h4:=partsB_len hn (c.ps.zip c.rks) fun q hq=>by
   have:=(rksV_all hf.rks q.2 (List.of_mem_zip hq).2).1
   omega
  have h5:=hf.few
  rw[List.length_zip]at h4
  rw[if_pos hv,List.length_append,gput_len]
  omega
 ·have hL:=loop_ok hm hv
  have h4:=groupsB_len c.tr
  have h5:=hL.few
  rw[if_neg hv,List.length_append,be4_len,List.length_append,gput_len]
  omega
theorem certfilePut_any(pv tv:Value)(c:Crt)(n:Nat)(w:World)(h:CertAt w pv tv c)(hm:certMayV n c=0)(hn:n<=256):
 Calls Tryz.prog 16 #[.agg #[I c.vd,pv,U c.dest,tv],I n] w fun e w'=>∃u,e=.returned (.tuple #[u,I 0])/\OwnY w' w.heap.size u (certPut c n)/\Ext w w':=by
 have HC:=Hd h
 have HM:=Hd hm
 have HI:=Hd (may_in64 hm hn)
 obtain⟨pa,pc,rfl,p1,p2,p3⟩:=h.parts.form
 obtain⟨ta,tc,rfl,t1,t2,-⟩:=h.tr.form
 have hn0:decide ((n:Int)<0)=false:=dF (by omega)
 have hn1:decide ((256:Int)<(n:Int))=false:=dF (by omega)
 clear h hm
 unfold maxLen at p2 t2
 go_enter Tryz.func16,Tryz.ntmps16
 go_upto_region 1 with fail
 refine hBk w [I c.vd,.slice pa c.ps.length pc,U c.dest,.slice ta c.tr.length tc] 49 (fun W1 hW1=>?_)
 obtain⟨hx1,hb1⟩:=hW1
 have HX1:=Hd hx1
 have HB1:=Hd hb1
 have hbc:=hb1.cells
 clear hx1 hb1
 generalize hcb:w.heap.size=cb at*
 go_upto_region 7 with(first
  |(go_at_call 43;(with_reducible refine(certMay_any _ _ c n _ (HC.out.later HX1.out) HI.out).mono ?_);rintro e w2 ⟨he,hx⟩;rw[HM.out]at he;subst he;have HX2:=Hd (HX1.out.trans hx);have HB2:=Hd (HB1.out.later hx);clear hx hbc))
 have HCB:=Hd (show w.heap.size<=cb from Nat.le_of_eq hcb)
 have HCL:=Hd HB2.out.lt
 refine hWp (fun W=>WrS w w2.heap.size cb [I c.vd,.slice pa c.ps.length pc,U c.dest,.slice ta c.tr.length tc] W (.slice none 0 0) [])
  ⟨Blk.new w2 [.slice none 0 0,I 0] 89,OwnY.nil _ _,HB2.out.later ((eR w2).alloc _),HX2.out.alloc _,by simp⟩ (fun W3 hW3=>?_)
 have HS3:=Hd hW3
 have hbc:=hW3.cert.cells
 have HW0:=Hd (show w.heap.size<=w2.heap.size from HX2.out.size)
 have HNE:=Hd (show cb≠w2.heap.size from fun e=>Nat.lt_irrefl _ (e▸HCL.out))
 clear hW3 hcb
 generalize w2.heap.size=wb at*
 have hvd:c.vd=1\/c.vd=2:=by
  by_cases hv:c.vd=1
  ·exact .inl hv
  ·exact .inr (loop_ok HM.out hv).vd
 have H7:=Hd (show∀W u,WrS w wb cb [I c.vd,.slice pa c.ps.length pc,U c.dest,.slice ta c.tr.length tc] W u []->Calls Tryz.prog 44 #[.pointer (some ⟨wb,0,none⟩),.int .i64 1,.slice (some ⟨W.heap.size,0,none⟩) 1 1] (W.alloc (.cells #[I c.vd] 3)) (WrTo w wb cb [I c.vd,.slice pa c.ps.length pc,U c.dest,.slice ta c.tr.length tc] W (beN 1 c.vd.toNat))from fun W u hS=>by
  have h:=hS.num HW0.out HNE.out 1 (by decide) [c.vd] (fun x hx=>by simp only[List.mem_singleton]at hx;subst hx;rcases hvd with h|h<;>rw[h]<;>decide) (by simp) (by simp)
  rw[rowB_one]at h;exact h)
 have H8:=Hd (show∀W u L,L.length<=1000->WrS w wb cb [I c.vd,.slice pa c.ps.length pc,U c.dest,.slice ta c.tr.length tc] W u L->Calls Tryz.prog 45 #[.pointer (some ⟨wb,0,none⟩),.slice (some ⟨W.heap.size,0,none⟩) 1 1] (W.alloc (.cells #[I n] 3)) (WrTo w wb cb [I c.vd,.slice pa c.ps.length pc,U c.dest,.slice ta c.tr.length tc] W (L++gput n))from fun W u L hL hS=>by
  have h:=hS.group HW0.out HNE.out [(n:Int)] (fun x hx=>by simp only[List.mem_singleton]at hx;subst hx;omega) (by simp) (by omega)
  rw[groupsB_one]at h;exact h)
 go_upto_region 8 with(first
  |(go_at_call 44;(with_reducible refine(H7.out _ _ HS3.out).mono ?_);rintro e w4 ⟨he,⟨u4,hs4⟩,hx4⟩;subst he;have HS4:=Hd hs4;clear hx4 hs4 hbc))
 go_upto_region 9 with(first
  |(go_at_call 45;(with_reducible refine(H8.out _ _ _ (by rw[beN_len];decide) HS4.out).mono ?_);rintro e w5 ⟨he,⟨u5,hs5⟩,hx5⟩;subst he;have HS5:=Hd hs5;clear hx5 hs5))
 have hbc:=HS5.out.cert.cells
 have HL5:=Hd (show(beN 1 c.vd.toNat++gput n).length<=5 by have:=(gsize_bd n).2;rw[List.length_append,beN_len,gput_len];omega)
 have HFP:=Hd (show∀(v:Value) (w:World),BsAt w v (certB c n)->Calls Tryz.prog 12 #[.int .u32 1129468977,v] w fun e w'=>∃u,e=.returned u/\OwnY w' w.heap.size u (certPut c n)/\Ext w w' from fun v w h=>framePut_any magC v _ w h (certB_few hn HC.out.len HM.out))
 have P3:=Hd p3
 clear p3
 rcases hvd with hv|hv
 ·have hvb:(c.vd==1)=true:=by rw[hv];rfl
  have HF:=Hd (free_ok HM.out hv)
  have hpl:=HF.out.few
  have HCB:=Hd (show certB c n=((beN 1 c.vd.toNat++gput n)++gput c.ps.length)++(c.ps.zip c.rks).flatMap partB by
   unfold certB;rw[if_pos hv];simp only[List.append_assoc])
  have H10:=Hd (show∀W u L,L.length<=1000->WrS w wb cb [I c.vd,.slice pa c.ps.length pc,U c.dest,.slice ta c.tr.length tc] W u L->Calls Tryz.prog 45 #[.pointer (some ⟨wb,0,none⟩),.slice (some ⟨W.heap.size,0,none⟩) 1 1] (W.alloc (.cells #[I c.ps.length] 3)) (WrTo w wb cb [I c.vd,.slice pa c.ps.length pc,U c.dest,.slice ta c.tr.length tc] W (L++gput c.ps.length))from fun W u L hL hS=>by
   have h:=hS.group HW0.out HNE.out [(c.ps.length:Int)] (fun x hx=>by simp only[List.mem_singleton]at hx;subst hx;omega) (by simp) (by omega)
   rw[groupsB_one]at h;exact h)
  go_upto_region 11 with(first
   |(go_at_call 45;(with_reducible refine(H10.out _ _ _ (by have:=HL5.out;omega) HS5.out).mono ?_);rintro e w6 ⟨he,⟨u6,hs6⟩,hx6⟩;subst he;have HS6:=Hd hs6;clear hx6 hs6 hbc))
  have hbc:=HS6.out.cert.cells
  have HL6:=Hd (show((beN 1 c.vd.toNat++gput n)++gput c.ps.length).length<=9 by have:=(gsize_bd c.ps.length).2;have:=HL5.out;rw[List.length_append,gput_len];omega)
  generalize (beN 1 c.vd.toNat++gput n)++gput c.ps.length=L6 at*
  go_wp2_with fail
  clear hbc
  have HRL:=Hd (show c.rks.length=c.ps.length from HC.out.len)
  have HPB:=Hd (show∀k,(L6++((c.ps.zip c.rks).take k).flatMap partB).length<=100000000 from fun k=>by
   have h4:=partsB_len hn ((c.ps.zip c.rks).take k) fun q hq=>by
    have:=(rksV_all HF.out.rks q.2 (List.of_mem_zip (List.mem_of_mem_take hq)).2).1
    omega
   rw[List.length_take,List.length_zip]at h4
   have:=HL6.out
   rw[List.length_append];omega)
  go_loopw[45] (fun i wr=>∃(k:Nat) (u:Value),k<=c.ps.length/\i=I k/\Hid (WrS w wb cb [I c.vd,.slice pa c.ps.length pc,U c.dest,.slice ta c.tr.length tc] wr u (L6++((c.ps.zip c.rks).take k).flatMap partB))) (fun i _=>c.ps.length-(intOf i).toNat)
  case atStart=>exact⟨0,_,by omega,rfl,Hd (by simpa using HS6.out)⟩
  case round=>
   obtain⟨k,u,hk,rfl,HS⟩:=hrel
   by_cases hlt:k<c.ps.length
   ·have hkr:k<c.rks.length:=by rw[HRL.out];exact hlt
    obtain⟨b0,o0,rfl,p0,p1,p2⟩:=P3.out k c.ps[k] (gE hlt)
    replace p0:=HS.out.ext.cell p0
    replace p1:=HS.out.ext.cell p1
    replace p2:=HS.out.ext.cell p2
    have HIK:=Hd (HC.out.rk k _ _ (gE hlt) (gE hkr))
    have HRB:=Hd (rksV_all HF.out.rks _ (List.getElem_mem hkr))
    have HZ:=Hd (show L6++((c.ps.zip c.rks).take (k+1)).flatMap partB=((L6++((c.ps.zip c.rks).take k).flatMap partB)++(be4 c.ps[k].fr++be4 c.ps[k].up))++groupsB c.rks[k]by
     rw[flatB_step (by rw[List.length_zip];omega),List.getElem_zip]
     unfold partB
     simp only[List.append_assoc])
    have HPK:=Hd (HPB.out k)
    generalize c.ps[k]=p at*
    generalize c.rks[k]=rk at*
    generalize L6++((c.ps.zip c.rks).take k).flatMap partB=K at*
    go_upto_region 14 with fail
    refine hWp (fun W=>WrS w wb cb _ W u K/\Blk W wr.heap.size [U p.fr,U p.up,p.rk] 85)
     ⟨HS.out.alloc _,Blk.new wr [U p.fr,U p.up,p.rk] 85⟩ (fun W5 hW5=>?_)
    obtain⟨hs5',hb5'⟩:=hW5
    have HSP:=Hd hs5'
    have HPP:=Hd hb5'
    have HPN:=Hd (show wr.heap.size≠wb from fun e=>by have:=HS.out.sz;omega)
    clear hs5' hb5' p0 p1 p2
    generalize wr.heap.size=pb at*
    have hpc:=HPP.out.cells
    have H14:=Hd (show Calls Tryz.prog 44 #[.pointer (some ⟨wb,0,none⟩),.int .i64 4,.slice (some ⟨W5.heap.size,0,none⟩) 2 2] (W5.alloc (.cells #[.int .i64 (uv p.fr),.int .i64 (uv p.up)] 3)) (WrTo w wb cb _ W5 (K++(be4 p.fr++be4 p.up)))from by
     have h:=HSP.out.num HW0.out HNE.out 4 (by decide) [uv p.fr,uv p.up] (fun x hx=>by
      simp only[List.mem_cons,List.not_mem_nil,or_false]at hx
      rcases hx with rfl|rfl
      ·exact uv_bd p.fr
      ·exact uv_bd p.up) (by simp) (by have:=HPK.out;omega)
     rw[rowB_two]at h;exact h)
    have HKL:=Hd (show(K++(be4 p.fr++be4 p.up)).length<=200000000 by rw[List.length_append,List.length_append,be4_len,be4_len];have:=HPK.out;omega)
    go_upto_region 15 with(first
     |(go_at_call 44;(with_reducible refine H14.out.mono ?_);rintro e w6 ⟨he,⟨u6',hs6'⟩,hx6'⟩;subst he;have HS7:=Hd hs6';have HP7:=Hd (hx6'.blk _ _ _ HPN.out (by decide) HPP.out);clear hx6' hs6' hpc))
    have hpc:=HP7.out.cells
    have H15:=Hd (show Calls Tryz.prog 45 #[.pointer (some ⟨wb,0,none⟩),.slice p.ra p.rn p.rc] w6 (WrTo w wb cb _ w6 ((K++(be4 p.fr++be4 p.up))++groupsB rk))from
     HS7.out.groupOld HW0.out HNE.out p.rk rk HIK.out (fun x hx=>by have:=HRB.out.2 x hx;omega) (by have:=HRB.out.1;omega) (by have:=HKL.out;omega))
    go_wp2_with (first
     |(go_at_call 45;(with_reducible refine H15.out.mono ?_);rintro e w8 ⟨he,⟨u8',hs8'⟩,hx8'⟩;subst he;have HS8:=Hd hs8';clear hx8' hs8'))
    go_roundw
    case rel=>exact⟨k+1,_,by omega,by go_num,Hd (by rw[HZ.out];exact HS8.out)⟩
    case measure=>simp[intOf];omega
   ·obtain rfl:k=c.ps.length:=by omega
    have HCE:=Hd (show certB c n=L6++((c.ps.zip c.rks).take c.ps.length).flatMap partB by rw[HCB.out,List.take_of_length_le (by rw[List.length_zip];omega)])
    have hwc:=HS.out.wr.cells
    have HY9:=Hd (show BsAt _ _ (certB c n)from by have h:=HS.out.own.bs;rw[<-HCE.out]at h;exact h)
    have HX8:=Hd HS.out.ext
    obtain⟨ub,uc,hub,-⟩:=HY9.out.form
    subst hub
    go_wp2_with (first
     |(go_at_call 12;(with_reducible refine(HFP.out _ _ HY9.out).mono ?_);rintro e w9 ⟨u9,he,ho,hx⟩;subst he;have HO9:=Hd (ho.low HX8.out.size);have HX9:=Hd (HX8.out.trans hx);clear ho hx))
    go_ret2
    exact⟨_,rfl,HO9.out,HX9.out⟩
 ·have hvb:(c.vd==1)=false:=by rw[hv];rfl
  have hv1:¬c.vd=1:=by rw[hv];decide
  have HL:=Hd (loop_ok HM.out hv1)
  have htl:=HL.out.few
  have HCB:=Hd (show certB c n=(((beN 1 c.vd.toNat++gput n)++be4 c.dest)++gput c.tr.length)++groupsB c.tr by
   unfold certB;rw[if_neg hv1];simp only[List.append_assoc])
  clear hv hv1
  generalize beN 1 c.vd.toNat++gput n=L5 at*
  have H17:=Hd (show∀W u,WrS w wb cb [I c.vd,.slice pa c.ps.length pc,U c.dest,.slice ta c.tr.length tc] W u L5->Calls Tryz.prog 44 #[.pointer (some ⟨wb,0,none⟩),.int .i64 4,.slice (some ⟨W.heap.size,0,none⟩) 1 1] (W.alloc (.cells #[.int .i64 (uv c.dest)] 3)) (WrTo w wb cb [I c.vd,.slice pa c.ps.length pc,U c.dest,.slice ta c.tr.length tc] W (L5++be4 c.dest))from fun W u hS=>by
   have h:=hS.num HW0.out HNE.out 4 (by decide) [uv c.dest] (fun x hx=>by simp only[List.mem_singleton]at hx;subst hx;exact uv_bd c.dest) (by simp) (by have:=HL5.out;omega)
   rw[rowB_one]at h;exact h)
  have HL7:=Hd (show(L5++be4 c.dest).length<=9 by rw[List.length_append,be4_len];have:=HL5.out;omega)
  generalize L5++be4 c.dest=L7 at*
  have H18:=Hd (show∀W u,WrS w wb cb [I c.vd,.slice pa c.ps.length pc,U c.dest,.slice ta c.tr.length tc] W u L7->Calls Tryz.prog 45 #[.pointer (some ⟨wb,0,none⟩),.slice (some ⟨W.heap.size,0,none⟩) 1 1] (W.alloc (.cells #[I c.tr.length] 3)) (WrTo w wb cb [I c.vd,.slice pa c.ps.length pc,U c.dest,.slice ta c.tr.length tc] W (L7++gput c.tr.length))from fun W u hS=>by
   have h:=hS.group HW0.out HNE.out [(c.tr.length:Int)] (fun x hx=>by simp only[List.mem_singleton]at hx;subst hx;omega) (by simp) (by have:=HL7.out;omega)
   rw[groupsB_one]at h;exact h)
  have HL8:=Hd (show(L7++gput c.tr.length).length<=13 by rw[List.length_append,gput_len];have:=HL7.out;have:=(gsize_bd c.tr.length).2;omega)
  generalize L7++gput c.tr.length=L8 at*
  have H19:=Hd (show∀W u,WrS w wb cb [I c.vd,.slice pa c.ps.length pc,U c.dest,.slice ta c.tr.length tc] W u L8->Calls Tryz.prog 45 #[.pointer (some ⟨wb,0,none⟩),.slice ta c.tr.length tc] W (WrTo w wb cb [I c.vd,.slice pa c.ps.length pc,U c.dest,.slice ta c.tr.length tc] W (L8++groupsB c.tr))from fun W u hS=>
   hS.groupOld HW0.out HNE.out _ c.tr HC.out.tr (fun x hx=>by have:=HL.out.bd x hx;omega) (by omega) (by have:=HL8.out;omega))
  go_upto_region 18 with(first
   |(go_at_call 44;(with_reducible refine(H17.out _ _ HS5.out).mono ?_);rintro e w6 ⟨he,⟨u6,hs6⟩,hx6⟩;subst he;have HS6:=Hd hs6;clear hx6 hs6 hbc))
  have hbc:=HS6.out.cert.cells
  go_upto_region 19 with(first
   |(go_at_call 45;(with_reducible refine(H18.out _ _ HS6.out).mono ?_);rintro e w7 ⟨he,⟨u7,hs7⟩,hx7⟩;subst he;have HS7:=Hd hs7;clear hx7 hs7 hbc))
  have hbc:=HS7.out.cert.cells
  go_upto_region 20 with(first
   |(go_at_call 45;(with_reducible refine(H19.out _ _ HS7.out).mono ?_);rintro e w8 ⟨he,⟨u8,hs8⟩,hx8⟩;subst he;have HS8:=Hd hs8;clear hx8 hs8 hbc))
  have hwc:=HS8.out.wr.cells
  have HY9:=Hd (show BsAt _ _ (certB c n)from by have h:=HS8.out.own.bs;rw[<-HCB.out]at h;exact h)
  have HX8:=Hd HS8.out.ext
  obtain⟨ub,uc,hub,-⟩:=HY9.out.form
  subst hub
  go_wp2_with (first
   |(go_at_call 12;(with_reducible refine(HFP.out _ _ HY9.out).mono ?_);rintro e w9 ⟨u9,he,ho,hx⟩;subst he;have HO9:=Hd (ho.low HX8.out.size);have HX9:=Hd (HX8.out.trans hx);clear ho hx))
  go_ret2
  exact⟨_,rfl,HO9.out,HX9.out⟩
end Go.Proofs.YtjflkifodfncmaaGreatDoor
