/- Region4, Region5: these texts in one. Conditions: each theorem names its own. -/
import Derived.Test.YtjflkifodfncmaaGreatDoorGRule
import Derived.Maps.AppendAt
namespace Go.Proofs.YtjflkifodfncmaaGreatDoor
open Go.RowKit
section
end
def ForkRow(B:Nat)(e:TypeId)(w0:World)(row:Option (Value × Nat × List Value))(b:Bool)(x c:Value)(w:World):Prop:=
 Ext w0 w/\B<=w.heap.size/\(∀v n xs,row=some (v,n,xs)->w.ownsRow B e 1 v n xs)/\
  (b=true->∃g,x=.slice (some ⟨g,0,none⟩) 1 1/\w.cell? ⟨g,0,none⟩=some c/\g<w.heap.size/\∀v n xs,row=some (v,n,xs)->v.ownBlock≠some g)
theorem ForkRow.made{B:Nat}{e:TypeId}{w0:World}{b:Bool}{x c:Value}{w:World}(h:ForkRow B e w0 none b x c w)(hB:B<=w.heap.size):
 ForkRow B e w0 (some (.slice (some ⟨w.heap.size,0,none⟩) 0 0,0,[])) b x c (w.alloc (.cells #[] e)):=by
 obtain⟨h1,h2,h3,h4⟩:=h
 have hx:Ext w (w.alloc (.cells #[] e)):=(eR w).alloc _
 refine⟨h1.alloc _,Nat.le_trans h2 hx.size,fun v n xs hv=>?_,fun hb=>?_⟩
 ·cases hv
  exact own_low (own_made w 1 e 0 [] rfl (by unfold maxLen;omega)) hB
 ·obtain⟨g,g1,g2,g3,g4⟩:=h4 hb
  refine⟨g,g1,hx.cell g2,Nat.lt_of_lt_of_le g3 hx.size,fun v n xs hv=>?_⟩
  cases hv
  intro hg
  simp[Value.ownBlock]at hg
  omega
theorem ForkRow.cell{B:Nat}{e:TypeId}{w0:World}{row:Option (Value × Nat × List Value)}{x0 c:Value}{w:World}(h:ForkRow B e w0 row false x0 c w):
 ForkRow B e w0 row true (.slice (some ⟨w.heap.size,0,none⟩) 1 1) c (w.alloc (.cells #[c] e)):=by
 obtain⟨h1,h2,h3,_⟩:=h
 have hx:Ext w (w.alloc (.cells #[c] e)):=(eR w).alloc _
 refine⟨h1.alloc _,Nat.le_trans h2 hx.size,fun v n xs hv=>own_later (h3 v n xs hv) hx,fun _=>⟨w.heap.size,rfl,?_,by simp,fun v n xs hv hg=>?_⟩⟩
 ·exact(Blk.new w [c] e).cells 0
 ·have:=((h3 v n xs hv).lt _ hg).2
  omega
theorem ForkRow.alloc{B:Nat}{e:TypeId}{w0:World}{row:Option (Value × Nat × List Value)}{b:Bool}{x c:Value}{w:World}(h:ForkRow B e w0 row b x c w)(ob:Obj):ForkRow B e w0 row b x c (w.alloc ob):=by
 obtain⟨h1,h2,h3,h4⟩:=h
 have hx:Ext w (w.alloc ob):=(eR w).alloc _
 refine⟨h1.alloc _,Nat.le_trans h2 hx.size,fun v n xs hv=>own_later (h3 v n xs hv) hx,fun hb=>?_⟩
 obtain⟨g,g1,g2,g3,g4⟩:=h4 hb
 exact⟨g,g1,hx.cell g2,Nat.lt_of_lt_of_le g3 hx.size,g4⟩
theorem ForkRow.grown{B:Nat}{e:TypeId}{w0:World}{v:Value}{n:Nat}{xs:List Value}{b:Bool}{x c:Value}{w:World}(h:ForkRow B e w0 (some (v,n,xs)) b x c w)(hB:w0.heap.size<=B)
 {v':Value} {n':Nat} {xs':List Value} {w':World} (ho:w'.ownsRow B e 1 v' n' xs') (hg:w.grownBy w' v.ownBlock) (hloc:v'.ownBlock=v.ownBlock\/v'.ownBlock=some w.heap.size):ForkRow B e w0 (some (v',n',xs')) b x c w':=by
 obtain⟨h1,h2,h3,h4⟩:=h
 have hown:=h3 v n xs rfl
 have hx:=Ext.grown h1 hg hown hB
 have hsz:w.heap.size<=w'.heap.size:=(Below.grown (Below.refl 0 w) hg (Nat.zero_le _) (fun _ _=>Nat.zero_le _)).size
 refine⟨hx,Nat.le_trans h2 hsz,fun v1 n1 xs1 hv=>(by cases hv;exact ho),fun hb=>?_⟩
 obtain⟨g,g1,g2,g3,g4⟩:=h4 hb
 have g5:=g4 v n xs rfl
 refine⟨g,g1,?_,Nat.lt_of_lt_of_le g3 hsz,fun v1 n1 xs1 hv hgg=>?_⟩
 ·rw[<-g2]
  exact World.cell?_of_block (hg.block _ g3 fun e=>g5 e.symm)
 ·cases hv
  rcases hloc with hl|hl
  ·exact g5 (hl▸hgg)
  ·rw[hl]at hgg
   cases hgg
   omega
section
variable {P:Program} {w:World} {ops:Array Oper} {rest:List Oper} {o:Oper} {a:Act} {Q:Exit->Act->World->Prop}
theorem wpList_app_at(hgd:o.guard=none)(s x:Operand)(t:TypeId)
 (ho:o.op=.call {callee:=.builtin .append,args:=#[s,x],argTypes:=#[t,t]})
 (base:Nat) (e:TypeId) (z:Value) (size bytes:Nat) (ht:P.underlying t=some (.slice e)) (hi:(P.info? e).map (fun i=>(i.zero,i.size,i.bytes))=some (some z,size,bytes))
 (hzs:z.cells.size=size) (hsz:0<size) (hby:0<bytes)
 (v:Value) (n:Nat) (xs:List Value) (hs:a.eval s=v) (hown:w.ownsRow base e size v n xs)
 (sv:Value) (m:Nat) (news:List Value) (hx:a.eval x=sv) (hsrc:Reads w size sv m news) (h1:∀u∈news,u.oneCell'=true)
 (hbytes:(n+m)*bytes<=140737488355328) (hbase:base<=w.heap.size)
 (h:∀v' w',w'.ownsRow base e size v' (n+m) (xs++news)->w.grownBy w' v.ownBlock->(v'.ownBlock=v.ownBlock\/v'.ownBlock=some w.heap.size)->wpList P ops Q rest (a.put o.dst v') w'):wpList P ops Q (o::rest) a w:=by
 obtain⟨i,hi0,hi1,hi2,hi3⟩:=info_parts hi
 obtain⟨h0,ao,cap,rfl,h2,h3,h4,h5⟩:=hsrc
 cases ao with
 |none=>
  obtain⟨rfl,rfl⟩:=h4 rfl
  have hn:news=[]:=List.eq_nil_of_length_eq_zero (by simpa using h0)
  subst hn
  refine wpList_append_own_none hgd s x t ho base e i size ht hi0 v n xs hs hown hx ?_
  exact h v w (by simpa using hown) ⟨rfl,rfl,rfl,Nat.le_refl _,fun _ _ _=>rfl⟩ (.inl rfl)
 |some b=>
  obtain⟨e1,e2⟩:=h5 b rfl
  refine wpList_append_own_at w hgd s x t ho base e i z size bytes ht hi0 hi1 hi2 hi3 hzs hsz v n xs hs hown b m cap news hx h0 (fun j u hj=>?_) h1 ?_ hbytes hbase (fun v' w' g1 g2 _ g4=>h v' w' g1 g2 g4)
  ·have e3:b.spot=none:=by
    rcases e1 with e1|e1
    ·exact e1
    ·rw[e1]at hj;cases hj
   have:b.add j=⟨b.block,b.off+j,none⟩:=by
    unfold Addr.add
    split
    ·rename_i h0;rw[h0];cases b;simp_all
    ·rfl
   rw[this];exact e2 j u hj
  ·unfold maxLen
   have:(n+m)*1<=(n+m)*bytes:=Nat.mul_le_mul_left _ hby
   omega
end
section
variable {P:Program} {R:World->World->Prop} {l:List Oper} {n:Nat} {Q:Exit->Act->World->Prop}
def backB(l:List Oper):Bool:=(List.range l.length).all fun j=>((l[j]?).map fun o=>o.after.all fun e=>!Region.binds .any e||decide (e.on<j)).getD true
def upd(b:Nat->Bool)(i:Nat):Nat->Bool:=fun j=>if j=i then true else b j
def flags(listed:Array Bool):Nat->Bool:=fun j=>listed.getD j false
def left(b:Nat->Bool):Nat->Nat
 |0=>0
 |k+1=>left b k+(if b k then 0 else 1)
def doneA(n m:Nat):Array Bool:=(List.range m).map (fun i=>decide (i<n)) |>.toArray
end
end Go.Proofs.YtjflkifodfncmaaGreatDoor
