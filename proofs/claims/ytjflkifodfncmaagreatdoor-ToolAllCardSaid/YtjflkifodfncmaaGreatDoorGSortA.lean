/- KeysU, SeqU, SortU, SortB, SortC: these texts in one. Conditions: each theorem names its own. -/
import Derived.Test.YtjflkifodfncmaaGreatDoorGNet
import Derived.Shelf.SlIterI.Sorted
import Derived.RangeFuncGives
import Derived.RangeFuncBound
import Derived.RangeFuncSeq
import Derived.Sort.MapsRangeIn
import Derived.WalkKit
import Derived.OwnWalkIn
import Derived.TacticsInMore
import Derived.RegionIn
import Derived.LoopNIn
import Derived.LoopIn
import Derived.Maps.AppendAt
import Derived.Sort.WalkA
import Derived.Sort.LotA
import Derived.Sort.LotD5
import Derived.Sort.AssemblyPlain
namespace Go.Proofs.YtjflkifodfncmaaGreatDoor
set_option maxHeartbeats 2000000
set_option maxRecDepth 100000
open Go Go.RowKit Go.Maps Go.Sort Go.Proofs
abbrev encU:Int->Value:=Value.int .u32
def numOf:Lit->Int
 | .int _ a=>a
 |_=>0
def u32Keys{H:Type}:DataW H->List Int
 | .map es=>es.map fun p=>numOf p.1
 |_=>[]
theorem encU_inj{x y:Int}(h:encU x=encU y):x=y:=by simpa[encU]using h
theorem keyOf_u32{P:Program}{k:TypeId}(hk:P.underlying k=some (.int .u32)){key:Value}{kl:Lit}(h:keyOf P k key=some kl):
 ∃x:Int,key=encU x/\kl=.int .u32 x/\(Lit.int .u32 x).wf=true:=by
 cases key<;>simp[keyOf,hk,mapKey]at h
 rename_i q a
 obtain⟨⟨rfl,hw⟩,rfl⟩:=h
 exact⟨a,rfl,rfl,hw⟩
def CollectedU{H:Type}(D0:DataW H)(left:Lit->Bool)(ss:List Int):Prop:=ss.Nodup/\∀x,x∈ss↔(has D0 (.int .u32 x)=true/\left (.int .u32 x)=false)
section
variable {H:Type} {D0:DataW H} {left:Lit->Bool} {ss:List Int}
theorem CollectedU.start(D0:DataW H):CollectedU D0 (has D0) []:=⟨List.nodup_nil,fun x=>by cases has D0 (.int .u32 x)<;>simp⟩
theorem CollectedU.step(h:CollectedU D0 left ss){x:Int}{y:DataW H}(hlk:left (.int .u32 x)=true)(hat:∀zd,D0.atKey (.int .u32 x) zd=y):CollectedU D0 (fun z=>left z&&!z.sameKey (.int .u32 x)) (ss++[x]):=by
 have hhas:has D0 (.int .u32 x)=true:=has_true_of_atKey hat
 have hnew:x∉ss:=fun hx=>by
  have hf:=((h.2 x).1 hx).2
  rw[hlk]at hf;exact Bool.noConfusion hf
 constructor
 ·rw[List.nodup_append]
  refine⟨h.1,by simp,fun a ha c hc=>?_⟩
  rw[List.mem_singleton]at hc
  subst hc
  exact fun e=>hnew (e▸ha)
 ·intro y
  by_cases hy:y=x
  ·subst hy;simp[hhas,Lit.sameKey]
  ·simp[h.2 y,hy,Lit.sameKey]
theorem nodup_keysU{es:List (Lit × DataW H)}(hp:es.Pairwise (fun p q=>p.1≠q.1))(hk:∀p∈es,∃x,p.1=.int .u32 x):(u32Keys (DataW.map es)).Nodup:=by
 unfold u32Keys List.Nodup
 rw[List.pairwise_map]
 refine hp.imp_of_mem (fun{p q} hp' hq' hne e=>hne ?_)
 obtain⟨x,hx⟩:=hk p hp'
 obtain⟨y,hy⟩:=hk q hq'
 rw[hx,hy]at e ⊢
 exact congrArg (Lit.int .u32) e
theorem mem_keysU{es:List (Lit × DataW H)}(hk:∀p∈es,∃x,p.1=.int .u32 x)(x:Int):x∈u32Keys (DataW.map es)↔has (DataW.map es) (.int .u32 x)=true:=by
 rw[has_eq,List.any_eq_true]
 show x∈es.map (fun p=>numOf p.1)↔_
 rw[List.mem_map]
 constructor
 ·rintro⟨p,hp,rfl⟩
  obtain⟨y,hy⟩:=hk p hp
  refine⟨p,hp,?_⟩
  rw[hy];simp[Lit.sameKey,numOf]
 ·rintro⟨p,hp,hs⟩
  obtain⟨y,hy⟩:=hk p hp
  refine⟨p,hp,?_⟩
  rw[hy]at hs ⊢
  simpa[Lit.sameKey,numOf]using hs
variable {P:Program} {k:TypeId} {R:Value->Option (DataW H × List MemPlace)} {w:World} {b n:Nat}
theorem CollectedU.perm(h:CollectedU D0 left ss)(hown:w.ownsMap P k R b n D0)(K:Keyed P k)(hk:P.underlying k=some (.int .u32))(hl:∀kl,left kl=false):ss.Perm (u32Keys D0):=by
 obtain⟨es,hD,hpw,_⟩:=hown.entries K
 obtain⟨es',hD',hko⟩:=hown.keysOf
 obtain rfl:es=es':=by rw[hD]at hD';simpa using hD'
 subst hD
 have hk':∀p∈es,∃x,p.1=.int .u32 x:=fun p hp=>by
  obtain⟨v,hv⟩:=hko p hp
  obtain⟨x,_,hx,_⟩:=keyOf_u32 hk hv
  exact⟨x,hx⟩
 rw[List.perm_ext_iff_of_nodup h.1 (nodup_keysU hpw hk')]
 intro x
 rw[h.2 x,mem_keysU hk',hl]
 simp
end
open Go.Shelf
theorem lawU:Keyed Tryz.prog 23:=int_keyed Tryz.underlying23
theorem infoUI:(Tryz.prog.info? 23).map (fun i=>(i.zero,i.size,i.bytes))=some (some (.int .u32 0),1,4):=by kernel_rfl
theorem keys_in(F:Fence)(n:Nat)(h7:F.fn 140)(hro:F.round=none)(mb:Option Nat)(w:World):
 CallsIn F n Tryz.prog 140 #[.map mb] w fun e w'=>e=.returned (.func (.func 185) #[] #[.pointer (some ⟨w.heap.size,0,none⟩)])/\w'=w.alloc (.cells #[.map mb] 196):=by
 refine callsIn_of_wp Tryz.func140 rfl h7 ?_ hro
 simp only[Tryz.ntmps140,List.size_toArray,List.length_cons,List.length_nil,Nat.reduceAdd,Nat.reduceSub,Array.replicate_succ,Array.replicate_zero,List.push_toArray,List.append_toArray,List.nil_append,List.cons_append]
 gi_wp2
 go_ret
 exact⟨rfl,rfl⟩
theorem keys1N_in{H:Type}(F:Fence)(n:Nat)(h10:F.fn 185)(hro:F.round=none)(hn:1<=n)(l Bm b nn:Nat)(D0:DataW H){R:Value->Option (DataW H × List MemPlace)}(J:List Int->World->Prop)
 (hY:∀pre x W,J pre W->pre.length<Maps.size D0->YieldAt F (n-1) Tryz.prog l #[encU x] W fun e W'=>e=.returned (.bool true)/\J (pre++[x]) W'/\KeepsWalks W W')
 (W:World) (hJ:AbidesFrom W.heap.size J) (hm:W.cell? ⟨Bm,0,none⟩=some (.map (some b))) (hown:W.ownsMap Tryz.prog 23 R b nn D0) (h0:J [] W):
 CallsIn F n Tryz.prog 185 #[.func (.yield l) #[] #[],.pointer (some ⟨Bm,0,none⟩)] W fun e W'=>(∃v,e=.returned v)/\∃ss:List Int,ss.Perm (u32Keys D0)/\J ss W':=by
 refine callsIn_of_wp Tryz.func185 rfl h10 ?_ hro
 simp only[Tryz.ntmps185,List.size_toArray,List.length_cons,List.length_nil,Nat.reduceAdd,Nat.reduceSub,Array.replicate_succ,Array.replicate_zero,List.push_toArray,List.append_toArray,List.nil_append,List.cons_append]
 gi_wp2_with (first
  |(gi_at_range;refine wpListIn_range_own _ rfl _ 196 rfl 23 4 lawU Tryz.underlying196 _ b nn _ rfl hown ?_;intro w0 hrg0 hg0 hs0)
  |gi_in)
 go_frame
 gi_loopw[3] (fun _ wr=>∃(left:Lit->Bool) (cnt:Nat) (ss:List Int),wr.ranges Tryz.prog 23 R b W.heap.size nn D0 left cnt/\ss.length+cnt<=Maps.size D0/\CollectedU D0 left ss/\J ss wr)
  (fun _ wr=>wr.rangeLeft b W.heap.size)
 case atStart=>
  exact⟨_,_,[],hrg0,by simp,CollectedU.start D0,hJ [] W w0 none h0 hg0 (fun r e=>by cases e)⟩
 case round=>
  obtain⟨left,cnt,ss,hrg,hcs,hC,hJs⟩:=hrel
  gi_wp2_with (first
   |(gi_at_next;refine wpListIn_next_ranges _ rfl _ rfl 23 lawU R encU id (fun key kl hk=>by obtain⟨x,hx,_⟩:=keyOf_u32 Tryz.underlying23 hk;exact⟨x,hx⟩) (fun v _ _=>⟨v,rfl⟩) b W.heap.size nn _ _ _ rfl hrg ?_ ?_)
   |gi_in)
  ·
   intro hc0 hl0
   gi_wp2
   go_end0
   exact⟨⟨_,rfl⟩,ss,hC.perm hown lawU Tryz.underlying23 hl0,hJs⟩
  ·
   intro x c kl yd yp w2 cnt2 hkey hlk hv hat hrg2 hlt hg2 hs2 hen
   obtain⟨x',ex,rfl,_⟩:=keyOf_u32 Tryz.underlying23 hkey
   obtain rfl:x=x':=encU_inj ex
   have hJ2:J ss w2:=hJ ss wr w2 (some W.heap.size) hJs hg2 (fun r e=>by cases e;exact⟨Nat.le_refl _,hrg.iter_walk⟩)
   obtain⟨fn,tmps,assign,body,hy,hR⟩:=hY ss x w2 hJ2 (by omega)
   clear hs2
   gi_wp2
   refine hR.mono ?_
   rintro e W3 ⟨rfl,hJ3,hk3⟩
   gi_wp2
   have hrg3:=hrg2.of_walks hk3
   go_roundw
   case rel=>exact⟨_,cnt2,ss++[x],hrg3,by simp;omega,hC.step hlk hat,hJ3⟩
   case measure=>rw[hrg3.left_eq,hrg.left_eq];exact hlt
theorem keys_gives{H:Type}(F:Fence)(n:Nat)(h10:F.fn 185)(hro:F.round=none)(hn:1<=n)(Bm b nn:Nat)(D0:DataW H){R:Value->Option (DataW H × List MemPlace)}(w:World)(hBm:Bm<w.heap.size)
 (hm:w.cell? ⟨Bm,0,none⟩=some (.map (some b))) (hown:w.ownsMap Tryz.prog 23 R b nn D0):
 SeqGives F n Tryz.prog 185 #[.pointer (some ⟨Bm,0,none⟩)] encU (fun ss=>ss.Perm (u32Keys D0)) (Maps.size D0) w:=fun l J W hW hJ hY h0=>by
 have hown':W.ownsMap Tryz.prog 23 R b nn D0:=by
  have hbl:=hown.lt
  obtain⟨es,clock,hb,Ft,hs,hD⟩:=hown
  exact⟨es,clock,(hW.block b hbl).trans hb,Ft,hs,hD⟩
 exact keys1N_in F n h10 hro hn l Bm b nn D0 J hY W hJ ((hW.cell (p:=⟨Bm,0,none⟩) hBm).trans hm) hown' h0
def apAssign : Code := (Code.region 2 #[{ dst := some 5, op := Op.assign (Operand.tmp 7), type := 23, pos := "iter.go:51", after := #[], guard := none }] false)
def apBody : Code := (Code.block 1 (Code.region 3 #[{ dst := some 8, op := Op.load 70 (Operand.tmp 2), type := 70, pos := "iter.go:52", after := #[], guard := none }, { dst := some 9, op := Op.move (Operand.tmp 5), type := 23, pos := "iter.go:52", after := #[], guard := none }, { dst := some 10, op := Op.buildSlice 70 1 #[(0, Operand.tmp 9)], type := 70, pos := "iter.go:52", after := #[{ on := 1, ground := Ground.data }], guard := none }, { dst := some 11, op := Op.call { callee := Callee.builtin Builtin.append, args := #[Operand.tmp 8, Operand.tmp 10], argTypes := #[70, 70] }, type := 70, pos := "iter.go:52", after := #[{ on := 0, ground := Ground.data }, { on := 2, ground := Ground.data }], guard := none }, { dst := none, op := Op.store 70 (Operand.tmp 2) (Operand.tmp 11), type := 0, pos := "iter.go:52", after := #[{ on := 3, ground := Ground.data }, { on := 3, ground := Ground.chain }, { on := 0, ground := Ground.phase }, { on := 1, ground := Ground.phase }, { on := 2, ground := Ground.phase }, { on := 3, ground := Ground.phase }], guard := none }] false))
def apRec(fn:FuncId)(sv:Value)(Bs D:Nat)(st:LoopState)(pend:Option Code):Loop:=
 {state:=st,pending:=pend,fn,tmps:=#[.slice none 0 0,sv,.pointer (some ⟨Bs,0,none⟩),undef,.slice none 0 0,undef,sv,undef,undef,undef,undef,undef,undef],params:=#[7],assign:=apAssign,body:=apBody,defers:=D}
structure ApAt(w0:World)(fn:FuncId)(sv:Value)(Bs l D:Nat)(ss:List Int)(W:World):Prop where
 box:∃v,W.heap[Bs]? =some (.cells #[v] 70 (0,0))/\W.ownsRow w0.heap.size 23 1 v ss.length (ss.map encU)/\(v=.slice none 0 0↔ss=[])
 L:W.heap[l]? =some (.loop (apRec fn sv Bs D .ready none))
 K:W.heap[D]? =some (.deferred (some []))
 below:Below w0.heap.size w0 W
theorem ap_abides(w0:World)(fn:FuncId)(sv:Value)(Bs l D B:Nat)(hB:w0.heap.size<=B):AbidesFrom B (ApAt w0 fn sv Bs l D):=fun s W W' row h hg hrow=>by
 have hrow':∀r,row=some r->∃o:Obj,W.heap[r]? =some o/\o.isWalk=true:=fun r e=>(hrow r e).2
 obtain⟨v,hv,hr,hn⟩:=h.box
 exact⟨⟨v,(grownBy_keeps hg hrow' hv rfl).trans hv,ownsRow_abides_a hr hg hrow',hn⟩,(grownBy_keeps hg hrow' h.L rfl).trans h.L,(grownBy_keeps hg hrow' h.K rfl).trans h.K,
  h.below.grown hg h.below.size (fun k e=>Nat.le_trans hB (hrow k e).1)⟩
theorem apYield(F:Fence)(m:Nat)(w0:World)(fn:FuncId)(hfn:F.fn fn)(sv:Value)(Bs l D:Nat)(hBl:Bs≠l)(hDl:D≠l)(hDB:D≠Bs)(h0B:w0.heap.size<=Bs)(h0l:w0.heap.size<=l)
 (N:Nat) (hN:N<=maxLen) (hNb:N*4<=140737488355328) (ss:List Int) (x:Int) (W:World) (h:ApAt w0 fn sv Bs l D ss W) (hlen:ss.length<N):
 YieldAt F m Tryz.prog l #[encU x] W fun e W'=>e=.returned (.bool true)/\ApAt w0 fn sv Bs l D (ss++[x]) W'/\KeepsWalks W W':=by
 obtain⟨i0,hi,hz0,hz1,hz2⟩:=info_parts infoUI
 obtain⟨v,hv,hrow,_⟩:=h.box
 refine⟨fn,#[.slice none 0 0,sv,.pointer (some ⟨Bs,0,none⟩),undef,.slice none 0 0,undef,sv,encU x,undef,undef,undef,undef,undef],apAssign,apBody,by simpa[apRec]using run_yield (P:=Tryz.prog) (args:=#[encU x]) h.L rfl,roundIn_of_wpIn hfn ?_⟩
 have hl:l<W.heap.size:=(Array.getElem?_eq_some_iff.1 h.L).1
 have hbr:=run_beginRound (P:=Tryz.prog) h.L rfl
 obtain⟨W2,hW2⟩:∃W2,W.putObj l (.loop {apRec fn sv Bs D .ready none with state:=.busy})=W2:=⟨_,rfl⟩
 rw[hW2]at hbr
 have hg2:W.grownBy W2 (some l):=by rw[<-hW2];exact grownBy_putObj_a _ _ _
 have hk2:KeepsWalks W W2:=by rw[<-hW2];exact KeepsWalks.putObj _ h.L rfl
 have hv2:W2.heap[Bs]? =some (.cells #[v] 70 (0,0)):=by rw[<-hW2];exact(World.putObj_heap_other hBl).trans hv
 have hK2:W2.heap[D]? =some (.deferred (some [])):=by rw[<-hW2];exact(World.putObj_heap_other hDl).trans h.K
 have hL2:W2.heap[l]? =some (.loop {apRec fn sv Bs D .ready none with state:=.busy}):=by rw[<-hW2];exact World.putObj_heap_same hl
 have hrow2:W2.ownsRow w0.heap.size 23 1 v ss.length (ss.map encU):=hrow.kept hg2 (ownsRow_ne_a hrow h.L (fun cur e=>by cases e))
 have hb2:Below w0.heap.size w0 W2:=h.below.grown hg2 h.below.size (fun k e=>by cases e;exact h0l)
 obtain⟨hc2,hf2⟩:=cell_of_box_a hv2
 have hBlt:Bs<W2.heap.size:=(Array.getElem?_eq_some_iff.1 hv2).1
 have hl2:l<W2.heap.size:=(Array.getElem?_eq_some_iff.1 hL2).1
 have hDlt:D<W2.heap.size:=(Array.getElem?_eq_some_iff.1 hK2).1
 have ne_of:∀{j:Nat} {o:Obj},W2.heap[j]? =some o->(∀cur,o≠ .cells cur 23 (0,0))->some j≠v.ownBlock:=fun hj hno=>by
  rcases ownsRow_ne_a hrow2 hj hno with e|e
  ·rw[e];simp
  ·exact fun e'=>e e'.symm
 clear hW2
 unfold apAssign
 gi_wp2_with gi_round_op_a
 unfold apBody
 gi_wp2_with (first
  |(gi_at_builtin;refine wpListIn_append_own _ rfl _ _ 70 rfl w0.heap.size 23 i0 (.int .u32 0) 1 4 Tryz.underlying70 hi hz0 hz1 hz2 rfl (by decide) _ _ _ rfl (hrow2.alloc _) ⟨W2.heap.size,0,none⟩ 1 1 [encU x] rfl rfl (cell_one_new _ _ _) (by simp[Value.oneCell',encU]) (by omega) (by omega) (by have:=hb2.size;simp;omega) ?_;intro v' w3 hown' hg3 hnil3
    have hv3:w3.heap[Bs]? =some (.cells #[v] 70 (0,0)):=(hg3.block Bs (by simp;omega) (ne_of hv2 (fun cur e=>by cases e))).trans ((Below.heap_alloc _ _ Bs hBlt).trans hv2)
    obtain⟨hc3,hf3⟩:=cell_of_box_a hv3
    obtain⟨g',cap',cur',rfl,hbase',hgb',hr1,hr2,hr3,hr4⟩:∃g' cap' cur',v'=.slice (some ⟨g',0,none⟩) (ss.length+1) cap'/\w0.heap.size<=g'/\w3.heap[g']? =some (.cells cur' 23 (0,0))/\ss.length+1<=cap'/\cap'<=maxLen/\cur'.size=cap'*1/\cur'.toList.take ((ss.length+1)*1)=ss.map encU++[encU x]:=by
     rcases hown'.2 with⟨_,h0⟩|h'
     ·exact absurd h0 (by omega)
     ·exact h'
    go_frame)
  |gi_round_op_a)
 have hg3':(W2.alloc (.cells #[encU x] 23)).grownBy w3 v.ownBlock:=hg3
 have hL3:w3.heap[l]? =some (.loop {apRec fn sv Bs D .ready none with state:=.busy}):=(hg3'.block l (by simp;omega) (ne_of hL2 (fun cur e=>by cases e))).trans ((Below.heap_alloc _ _ l hl2).trans hL2)
 have hK3:w3.heap[D]? =some (.deferred (some [])):=(hg3'.block D (by simp;omega) (ne_of hK2 (fun cur e=>by cases e))).trans ((Below.heap_alloc _ _ D hDlt).trans hK2)
 obtain⟨w4,hw4⟩:∃w4,w3.setCell ⟨Bs,0,none⟩ (.slice (some ⟨g',0,none⟩) (ss.length+1) cap')=w4:=⟨_,rfl⟩
 rw[hw4]
 have hg4:w3.grownBy w4 (some Bs):=by rw[<-hw4];exact grownBy_setCell0_a _ _ _
 have hv4:w4.heap[Bs]? =some (.cells #[.slice (some ⟨g',0,none⟩) (ss.length+1) cap'] 70 (0,0)):=by rw[<-hw4];exact heap_setCell_box_a _ hv3
 have hL4:w4.heap[l]? =some (.loop {apRec fn sv Bs D .ready none with state:=.busy}):=(hg4.block l (Array.getElem?_eq_some_iff.1 hL3).1 (fun e=>hBl (by cases e;rfl))).trans hL3
 have hK4:w4.heap[D]? =some (.deferred (some [])):=(hg4.block D (Array.getElem?_eq_some_iff.1 hK3).1 (fun e=>hDB (by cases e;rfl))).trans hK3
 have hrow4:=hown'.kept hg4 (ownsRow_ne_a hown' hv3 (fun cur e=>by cases e))
 have hl4:l<w4.heap.size:=(Array.getElem?_eq_some_iff.1 hL4).1
 have hb3:Below w0.heap.size w0 w3:=(hb2.alloc hb2.size _).grown hg3' (by have:=hb2.size;simp;omega) (fun k e=>(hrow2.lt k e).1)
 have hb4:Below w0.heap.size w0 w4:=hb3.grown hg4 hb3.size (fun k e=>by cases e;exact h0B)
 have hk4:KeepsWalks W w4:=((hk2.trans (KeepsWalks.alloc _ _)).trans (KeepsWalks.of_grownBy hg3' (ownsRow_not_walk_a (hrow2.alloc _)))).trans (by rw[<-hw4];exact KeepsWalks.setCell _ _ _)
 clear hw4
 refine⟨_,_,run_endRound none hL4,rfl,⟨⟨_,(World.putObj_heap_other hBl).trans hv4,?_,by simp⟩,World.putObj_heap_same hl4,(World.putObj_heap_other hDl).trans hK4,hb4.grown (grownBy_putObj_a _ _ _) hb4.size (fun k e=>by cases e;exact h0l)⟩,hk4.trans (KeepsWalks.putObj _ hL4 rfl)⟩
 have:=hrow4.kept (grownBy_putObj_a w4 l (.loop {{apRec fn sv Bs D .ready none with state:=.busy}with state:=if(none:Option Code).isNone then .ready else .done,pending:=none})) (ownsRow_ne_a hrow4 hL4 (fun cur e=>by cases e))
 simpa using this
theorem appendSeq_in(F:Fence)(n:Nat)(h11:F.fn 203)(hro:F.round=none)(hn:2<=n)(g:Nat)(lb:Array Value)(hFg:F.fn g)(eg:∀args w,(callFunc g args).run Tryz.prog w=.ok (.enter g args) w)
 (S:List Int->Prop) (N:Nat) (hN:N<=maxLen) (hNb:N*4<=140737488355328) (w:World) (hseq:SeqGives F (n-1) Tryz.prog g lb encU S N w):
 CallsIn F n Tryz.prog 203 #[.slice none 0 0,.func (.func g) #[] lb] w fun e w'=>∃(v:Value) (ss:List Int),e=.returned v/\S ss/\w'.ownsRow w.heap.size 23 1 v ss.length (ss.map encU)/\(v=.slice none 0 0↔ss=[])/\Below w.heap.size w w':=by
 have h1:1<=n:=by omega
 refine callsIn_of_wp_marks Tryz.func203 rfl h11 ?_ hro
 simp only[Tryz.ntmps203,List.size_toArray,List.length_cons,List.length_nil,Nat.reduceAdd,Nat.reduceSub,Array.replicate_succ,Array.replicate_zero,List.push_toArray,List.append_toArray,List.nil_append,List.cons_append]
 gi_wp2
 refine wpIn_rangeFunc ?_
 intro fn hfn
 rw[hro]
 obtain⟨W0,hW0⟩:∃W0,w.alloc (.cells #[.slice none 0 0] 70)=W0:=⟨_,rfl⟩
 have hs0:W0.heap.size=w.heap.size+1:=by rw[<-hW0];simp
 have hv0:W0.heap[w.heap.size]? =some (.cells #[.slice none 0 0] 70 (0,0)):=by rw[<-hW0];exact World.alloc_heap_new w _
 have hb0:Below w.heap.size w W0:=by rw[<-hW0];exact(Below.refl _ w).alloc (Nat.le_refl _) _
 rw[hW0]
 obtain⟨W1,hW1⟩:∃W1,(W0.alloc (.deferred (some []))).alloc (.loop (apRec fn (.func (.func g) #[] lb) w.heap.size W0.heap.size .ready none))=W1:=⟨_,rfl⟩
 have hold:∀k,k<W0.heap.size->W1.heap[k]? =W0.heap[k]?:=fun k hk=>by
  rw[<-hW1];exact(Below.heap_alloc _ _ k (by simp;omega)).trans (Below.heap_alloc _ _ k hk)
 have hb1:Below w.heap.size w W1:=by rw[<-hW1];exact(hb0.alloc hb0.size _).alloc (by have:=hb0.size;simp;omega) _
 have hs1:W1.heap.size=W0.heap.size+2:=by rw[<-hW1];simp
 have hM:ApAt w fn (.func (.func g) #[] lb) w.heap.size (W0.heap.size+1) W0.heap.size [] W1:=
  ⟨⟨_,(hold w.heap.size (by omega)).trans hv0,⟨rfl,.inl ⟨rfl,rfl⟩⟩,by simp⟩,
   by rw[<-hW1];have:=World.alloc_heap_new (W0.alloc (.deferred (some []))) (.loop (apRec fn (.func (.func g) #[] lb) w.heap.size W0.heap.size .ready none));rwa [World.size_alloc]at this,
   by rw[<-hW1];exact(Below.heap_alloc _ _ _ (by simp)).trans (World.alloc_heap_new W0 _),hb1⟩
 refine⟨W0.heap.size+1,[{target:=.collected W0.heap.size,args:=#[]}],W1,{target:=.fn (.func g) lb,args:=#[.func (.yield (W0.heap.size+1)) #[] #[]]},W1,g,
  #[.func (.yield (W0.heap.size+1)) #[] #[]]++lb,W1,?_,?_,?_,?_,fun _=>h1,?_⟩
 ·rw[<-hW1];exact run_enterLoop_outer _ _ _ _ _
 ·simp[resolve,go_sem]
 ·intro f' hf';simp[Target.leads]at hf';subst hf';exact hFg
 ·simp[invoke,go_sem,eg]
 ·refine(hseq (W0.heap.size+1) (ApAt w fn (.func (.func g) #[] lb) w.heap.size (W0.heap.size+1) W0.heap.size) W1 hb1 (ap_abides _ _ _ _ _ _ _ hb1.size)
   (fun pre x W hJ hl=>apYield F (n-1-1) w fn hfn _ w.heap.size (W0.heap.size+1) W0.heap.size (by omega) (by omega) (by omega) (Nat.le_refl _) (by omega) N hN hNb pre x W hJ hl) hM).mono ?_
  rintro e W2 ⟨⟨v0,rfl⟩,ss,hS,h2⟩
  obtain⟨v,hv,hrow,hnil⟩:=h2.box
  have hend:=run_endLoop (P:=Tryz.prog) h2.L (by simp[apRec])
  obtain⟨W3,hW3⟩:∃W3,W2.putObj (W0.heap.size+1) (.loop {apRec fn (.func (.func g) #[] lb) w.heap.size W0.heap.size .ready none with state:=.exhausted})=W3:=⟨_,rfl⟩
  rw[hW3]at hend
  have hg3:W2.grownBy W3 (some (W0.heap.size+1)):=by rw[<-hW3];exact grownBy_putObj_a _ _ _
  have hv3:W3.heap[w.heap.size]? =some (.cells #[v] 70 (0,0)):=by rw[<-hW3];exact(World.putObj_heap_other (by omega)).trans hv
  have hK3:W3.heap[W0.heap.size]? =some (.deferred (some [])):=by rw[<-hW3];exact(World.putObj_heap_other (by omega)).trans h2.K
  have hrow3:=hrow.kept hg3 (ownsRow_ne_a hrow h2.L (fun cur e=>by cases e))
  have hb3:Below w.heap.size w W3:=h2.below.grown hg3 h2.below.size (fun k e=>by cases e;omega)
  obtain⟨hc3,hf3⟩:=cell_of_box_a hv3
  clear hW3
  refine⟨none,W3,hend,?_⟩
  gi_wp2
  rw[<-hs0]
  refine⟨by simp,.inl ⟨_,_,rfl,run_takeDeferred hK3,?_⟩⟩
  exact⟨_,results_tmp rfl _ _ _,v,ss,rfl,hS,hrow3.kept (grownBy_putObj_a _ _ _) (ownsRow_ne_a hrow3 hK3 (fun cur e=>by cases e)),hnil,hb3.grown (grownBy_putObj_a _ _ _) hb3.size (fun k e=>by cases e;omega)⟩
theorem collect_in(F:Fence)(n:Nat)(h8:F.fn 183)(h11:F.fn 203)(hro:F.round=none)(hn:3<=n)(g:Nat)(lb:Array Value)(hFg:F.fn g)(eg:∀args w,(callFunc g args).run Tryz.prog w=.ok (.enter g args) w)
 (S:List Int->Prop) (N:Nat) (hN:N<=maxLen) (hNb:N*4<=140737488355328) (w:World) (hseq:SeqGives F (n-1-1) Tryz.prog g lb encU S N w):
 CallsIn F n Tryz.prog 183 #[.func (.func g) #[] lb] w fun e w'=>∃(v:Value) (ss:List Int),e=.returned v/\S ss/\w'.ownsRow w.heap.size 23 1 v ss.length (ss.map encU)/\(v=.slice none 0 0↔ss=[])/\Below w.heap.size w w':=by
 have h1:1<=n:=by omega
 refine callsIn_of_wp Tryz.func183 rfl h8 ?_ hro
 simp only[Tryz.ntmps183,List.size_toArray,List.length_cons,List.length_nil,Nat.reduceAdd,Nat.reduceSub,Array.replicate_succ,Array.replicate_zero,List.push_toArray,List.append_toArray,List.nil_append,List.cons_append]
 gi_wp2_with (gi_at_call 203;refine(appendSeq_in F (n-1) h11 hro (by omega) g lb hFg eg S N hN hNb _ hseq).mono ?_;rintro e w' ⟨v,ss,rfl,hS,hrow,hnil,hb⟩)
 go_ret
 exact⟨v,ss,rfl,hS,hrow,hnil,hb⟩
structure Srt(w0:World)(blk off N:Nat)(d:Array Int)(w:World):Prop where
 grown:w0.grownBy w (some blk)
 row:∃c,w.heap[blk]? =some (.cells c 23 (0,0))/\c.size=N/\∀j,j<d.size->c[off+j]? =some (encU d[j]!)
theorem Srt.lt{w0 w:World}{blk off N:Nat}{d:Array Int}(h:Srt w0 blk off N d w):blk<w.heap.size:=by
 obtain⟨c,h1,_⟩:=h.row
 exact(Array.getElem?_eq_some_iff.1 h1).1
theorem Srt.cell{w0 w:World}{blk off N:Nat}{d:Array Int}(h:Srt w0 blk off N d w){j:Nat}(hj:j<d.size):w.cell? ⟨blk,off+j,none⟩=some (encU d[j]!):=by
 obtain⟨c,h1,_,h3⟩:=h.row
 simp only[World.cell?,h1]
 simpa using h3 j hj
theorem Srt.frozen{w0 w:World}{blk off N:Nat}{d:Array Int}(h:Srt w0 blk off N d w)(k:Nat):w.frozen? ⟨blk,k,none⟩=false:=by
 obtain⟨c,h1,_⟩:=h.row
 simp[World.frozen?,h1]
theorem grown_refl(w:World)(r:Option Nat):w.grownBy w r:=⟨rfl,rfl,rfl,Nat.le_refl _,fun _ _ _=>rfl⟩
theorem Srt.start{w0 w:World}{blk off N:Nat}{d:Array Int}(h:Srt w0 blk off N d w):Srt w blk off N d w:=⟨grown_refl _ _,h.row⟩
theorem Srt.drewN{w0 w:World}{blk off N:Nat}{d:Array Int}(h:Srt w0 blk off N d w)(q:Nat):Srt w0 blk off N d (w.drewN q):=⟨⟨h.grown.os,h.grown.tape,h.grown.output,h.grown.size,h.grown.block⟩,h.row⟩
theorem Srt.trans{w0 w1 w2:World}{blk off N:Nat}{d d':Array Int}(h:Srt w0 blk off N d w1)(k:Srt w1 blk off N d' w2):Srt w0 blk off N d' w2:=⟨World.grownBy.trans h.grown k.grown,k.row⟩
theorem Srt.put{w0 w:World}{blk off N:Nat}{d:Array Int}(h:Srt w0 blk off N d w){i:Nat}(hi:i<d.size)(x:Int):Srt w0 blk off N (d.setIfInBounds i x) (w.setCell ⟨blk,off+i,none⟩ (encU x)):=by
 refine⟨World.grownBy.trans h.grown ⟨rfl,rfl,rfl,(KeepsWalks.setCell w _ _).size,fun k _ hk=>Below.heap_setCell _ _ _ k (fun e=>hk (by rw[e]))⟩,?_⟩
 obtain⟨c,h1,h2,h3⟩:=h.row
 refine⟨c.setIfInBounds (off+i) (encU x),?_,by rw[Array.size_setIfInBounds];exact h2,fun j hj=>?_⟩
 ·rw[setCell_eq]
  unfold mapBlock
  simp only[Array.getElem?_modify,h1,if_true,Option.map_some,onCells]
 ·rw[Array.size_setIfInBounds]at hj
  rw[Array.getElem?_setIfInBounds]
  by_cases hji:i=j
  ·subst hji
   rw[if_pos rfl,getElem!_set_same d i x hi,if_pos]
   exact(Array.getElem?_eq_some_iff.1 (h3 i hi)).1
  ·rw[if_neg (by omega),getElem!_set_other d i j x (fun e=>hji e.symm)]
   exact h3 j hj
theorem Srt.swp{w0 w:World}{blk off N:Nat}{d:Array Int}(h:Srt w0 blk off N d w){i j:Nat}(hi:i<d.size)(hj:j<d.size):
 Srt w0 blk off N (swp d i j) ((w.setCell ⟨blk,off+i,none⟩ (encU d[j]!)).setCell ⟨blk,off+j,none⟩ (encU d[i]!)):=
 (h.put hi _).put (by rw[Array.size_setIfInBounds];exact hj) _
theorem isNaN_any(x:Int)(w:World):Calls Tryz.prog 208 #[encU x] w fun e w'=>e=.returned (.bool false)/\w'=w:=by
 go_enter Tryz.func208,Tryz.ntmps208
 go_wp2
 go_ret
 exact⟨by simp,rfl⟩
theorem lessU_any(x y:Int)(w:World):Calls Tryz.prog 217 #[encU x,encU y] w fun e w'=>e=.returned (.bool (ltInt x y))/\w'=w:=by
 go_enter Tryz.func217,Tryz.ntmps217
 go_wp2_with (go_at_call 208;refine(isNaN_any _ _).mono ?_;rintro e w' ⟨rfl,rfl⟩)
 go_ret
 exact⟨rfl,rfl⟩
def natOf:Value->Nat
 | .int _ q=>q.toNat
 |_=>0
def Fits(d:Array Int):Prop:=∀j,j<d.size->0<=d[j]!/\d[j]!<4294967296
theorem insSort_any(blk off cap N a b:Nat)(d:Array Int)(w:World)(hS:Srt w blk off N d w)(hab:a<=b)(hb:b<=d.size)(hsz:d.size<4611686018427387904):
 Calls Tryz.prog 211 #[.slice (some ⟨blk,off,none⟩) d.size cap,.int .i64 a,.int .i64 b] w fun e w'=>
  e=.returned (.tuple #[])/\Srt w blk off N (insertionSort ltInt d a b) w':=by
 go_enter Tryz.func211,Tryz.ntmps211
 go_wp2
 go_loopw[6] (fun vi wr=>∃(i:Nat) (dk:Array Int),vi=.int .i64 i/\a<i/\i<=b+1/\dk.size=d.size/\Srt w blk off N dk wr/\
  Hid (insOuter ltInt a b i dk=insertionSort ltInt d a b)) (fun vi _=>b+1-natOf vi)
 case atStart=>exact⟨a+1,d,by go_num,by omega,by omega,rfl,hS,Hd rfl⟩
 case round=>
  obtain⟨i,dk,rfl,hai,hib,hsk,hSk,HO⟩:=hrel
  go_wp2
  ·have hlt:i<b:=by assumption
   go_loopw[7] (fun vj wr2=>∃(j:Nat) (dj:Array Int),vj=.int .i64 j/\a<=j/\j<=i/\dj.size=d.size/\Srt w blk off N dj wr2/\
    Hid (insInner ltInt a j dj=insInner ltInt a i dk)) (fun vj _=>natOf vj)
   case atStart=>exact⟨i,dk,rfl,by omega,Nat.le_refl _,hsk,hSk,Hd rfl⟩
   case round=>
    obtain⟨j,dj,rfl,haj,hji,hsj,hSj,HI⟩:=hrel
    obtain⟨G,hG⟩:∃G:Nat->Int,∀t,G t=dj[t]!:=⟨fun t=>dj[t]!,fun _=>rfl⟩
    have hcw:∀t,t<d.size->wr.cell? ⟨blk,off+t,none⟩=some (.int .u32 (G t)):=fun t ht=>by rw[hG];exact hSj.cell (by omega)
    have hfw:∀t,t<d.size->wr.frozen? ⟨blk,off+t,none⟩=false:=fun t ht=>hSj.frozen _
    have HG:=Hd hG
    clear hG
    have OUT:=Hd (show(j<=a\/ltInt dj[j]! dj[j-1]! =false)->∃(i':Nat) (dk':Array Int),Value.int .i64 ((i:Int)+1)=.int .i64 (i':Nat)/\a<i'/\i'<=b+1/\dk'.size=d.size/\
     Hid (dk'=dj)/\Hid (insOuter ltInt a b i' dk'=insertionSort ltInt d a b)from fun hs=>
     ⟨i+1,dj,by go_num,by omega,by omega,hsj,Hd rfl,Hd (by rw[<-HO.out,insOuter_go _ _ _ _ _ hlt,<-HI.out,insInner_stop _ _ _ _ hs])⟩)
    go_wp2
    by_cases hja:a<j
    ·go_quiet (first|(go_at_call 217;refine Calls.quiet_of_same (lessU_any _ _ _)))
     go_wp2
     ·have hl:ltInt (G j) (G (j-1))=true:=by assumption
      go_region
      all_goals go_wp2
      go_roundw
      case rel=>
       refine⟨j-1,swp dj j (j-1),by congr 1;omega,by omega,by omega,by rw[size_swp];exact hsj,?_,Hd ?_⟩
       ·rw[HG.out,HG.out]
        exact(hSj.drewN _).swp (by omega) (by omega)
       ·rw[<-HI.out,insInner_go ltInt a j dj hja (by rw[<-HG.out,<-HG.out];exact hl)]
      case measure=>simp[natOf];omega
     ·have hl:ltInt (G j) (G (j-1))=false:=by assumption
      obtain⟨i',dk',e1,e2,e3,e4,e5,e6⟩:=OUT.out (Or.inr (by rw[<-HG.out,<-HG.out];exact hl))
      go_roundw
      case rel=>exact⟨i',dk',e1,e2,e3,e4,by rw[e5.out];exact hSj.drewN _,e6⟩
      case measure=>simp[natOf];omega
    ·go_quiet (first|(go_at_call 217;refine Calls.quiet_of_same (lessU_any _ _ _)))
     go_wp2
     obtain⟨i',dk',e1,e2,e3,e4,e5,e6⟩:=OUT.out (Or.inl (by omega))
     go_roundw
     case rel=>exact⟨i',dk',e1,e2,e3,e4,by rw[e5.out];exact hSj.drewN _,e6⟩
     case measure=>simp[natOf];omega
  ·have hge:¬i<b:=by assumption
   go_end0
   refine⟨rfl,?_⟩
   rw[<-HO.out,insOuter_stop _ _ _ _ _ hge]
   exact hSk
section
variable (lt:Int->Int->Bool)
theorem rev_go(i j:Nat)(d:Array Int)(h:i<j):reverseLoop i j d=reverseLoop (i+1) (j-1) (swp d i j):=by rw[reverseLoop,if_pos h]
theorem rev_stop(i j:Nat)(d:Array Int)(h:¬i<j):reverseLoop i j d=d:=by rw[reverseLoop,if_neg h]
theorem sift_end(hi first r:Nat)(d:Array Int)(h:hi<=2*r+1):siftDown lt hi first r d=d:=by rw[siftDown,dif_pos h]
theorem sift_right(hi first r:Nat)(d:Array Int)(h:2*r+2<hi)(hl:lt d[first+(2*r+1)]! d[first+(2*r+1)+1]! =true):
 siftDown lt hi first r d=if lt d[first+r]! d[first+(2*r+2)]! =true then siftDown lt hi first (2*r+2) (swp d (first+r) (first+(2*r+2)))else d:=by
 rw[siftDown,dif_neg (by omega),if_pos (by rw[hl,Bool.and_true];exact dT (by omega))]
 cases hq:lt d[first+r]! d[first+(2*r+2)]!
 ·simp
 ·simp[h]
theorem sift_left(hi first r:Nat)(d:Array Int)(h:2*r+1<hi)(hl:¬2*r+2<hi\/lt d[first+(2*r+1)]! d[first+(2*r+1)+1]! =false):
 siftDown lt hi first r d=if lt d[first+r]! d[first+(2*r+1)]! =true then siftDown lt hi first (2*r+1) (swp d (first+r) (first+(2*r+1)))else d:=by
 rw[siftDown,dif_neg (by omega),if_neg]
 ·cases hq:lt d[first+r]! d[first+(2*r+1)]!
  ·simp
  ·simp
 ·rcases hl with hl|hl
  ·simp;intro h;omega
  ·simp[hl]
end
theorem Srt.cells{w0 w:World}{blk off N n:Nat}{d:Array Int}{G:Nat->Int}(h:Srt w0 blk off N d w)(hG:∀t,G t=d[t]!)(hs:d.size=n):∀t,t<n->w.cell? ⟨blk,off+t,none⟩=some (.int .u32 (G t)):=
 fun t ht=>by rw[hG];exact h.cell (by omega)
theorem Srt.frozens{w0 w:World}{blk off N:Nat}{d:Array Int}(h:Srt w0 blk off N d w)(n:Nat):∀t,t<n->w.frozen? ⟨blk,off+t,none⟩=false:=fun _ _=>h.frozen _
theorem reverse_any(blk off cap N n a b:Nat)(d:Array Int)(w:World)(hS:Srt w blk off N d w)(hn:d.size=n)(hab:a<b)(hb:b<=n)(hsz:n<4611686018427387904):
 Calls Tryz.prog 215 #[.slice (some ⟨blk,off,none⟩) n cap,.int .i64 a,.int .i64 b] w fun e w'=>
  e=.returned (.tuple #[])/\Srt w blk off N (reverseRange d a b) w':=by
 go_enter Tryz.func215,Tryz.ntmps215
 go_wp2
 go_loopw[6,7] (fun vi vj wr=>∃(i j:Nat) (dk:Array Int),vi=.int .i64 i/\vj=.int .i64 j/\i<=b/\j<b/\dk.size=n/\Srt w blk off N dk wr/\
  Hid (reverseLoop i j dk=reverseRange d a b)) (fun vi vj _=>natOf vj-natOf vi)
 case atStart=>exact⟨a,b-1,d,rfl,by congr 1;omega,by omega,by omega,hn,hS,Hd rfl⟩
 case round=>
  obtain⟨i,j,dk,rfl,rfl,hi,hj,hsk,hSk,HO⟩:=hrel
  obtain⟨G,hG⟩:∃G:Nat->Int,∀t,G t=dk[t]!:=⟨fun t=>dk[t]!,fun _=>rfl⟩
  have hcw:∀t,t<n->wr.cell? ⟨blk,off+t,none⟩=some (.int .u32 (G t)):=fun t ht=>by rw[hG];exact hSk.cell (by omega)
  have hfw:∀t,t<n->wr.frozen? ⟨blk,off+t,none⟩=false:=fun t ht=>hSk.frozen _
  have HG:=Hd hG
  clear hG
  by_cases hij:i<j
  ·go_wp2
   go_region
   all_goals go_wp2
   go_roundw
   case rel=>
    refine⟨i+1,j-1,swp dk i j,by go_num,by congr 1;omega,by omega,by omega,by rw[size_swp];exact hsk,?_,Hd ?_⟩
    ·rw[HG.out,HG.out]
     exact(hSk.drewN _).swp (by omega) (by omega)
    ·rw[<-HO.out,rev_go _ _ _ hij]
   case measure=>simp[natOf];omega
  ·go_wp2
   go_end0
   refine⟨rfl,?_⟩
   rw[<-HO.out,rev_stop _ _ _ hij]
   exact hSk
theorem sift_any(blk off cap N n lo hi first:Nat)(d:Array Int)(w:World)(hS:Srt w blk off N d w)(hn:d.size=n)(hlo:lo<=hi)(hb:first+hi<=n)(hsz:n<1152921504606846976):
 Calls Tryz.prog 222 #[.slice (some ⟨blk,off,none⟩) n cap,.int .i64 lo,.int .i64 hi,.int .i64 first] w fun e w'=>
  e=.returned (.tuple #[])/\Srt w blk off N (siftDown ltInt hi first lo d) w':=by
 go_enter Tryz.func222,Tryz.ntmps222
 go_wp2
 go_loopw[8] (fun vr wr=>∃(r:Nat) (dk:Array Int),vr=.int .i64 r/\r<=hi/\dk.size=n/\Srt w blk off N dk wr/\
  Hid (siftDown ltInt hi first r dk=siftDown ltInt hi first lo d)) (fun vr _=>hi-natOf vr)
 case atStart=>exact⟨lo,d,rfl,hlo,hn,hS,Hd rfl⟩
 case round=>
  obtain⟨r,dk,rfl,hr,hsk,hSk,HO⟩:=hrel
  obtain⟨G,hG⟩:∃G:Nat->Int,∀t,G t=dk[t]!:=⟨fun t=>dk[t]!,fun _=>rfl⟩
  have hcw:∀t,t<n->wr.cell? ⟨blk,off+t,none⟩=some (.int .u32 (G t)):=fun t ht=>by rw[hG];exact hSk.cell (by omega)
  have hfw:∀t,t<n->wr.frozen? ⟨blk,off+t,none⟩=false:=fun t ht=>hSk.frozen _
  have HG:=Hd hG
  clear hG
  by_cases hc:2*r+1<hi
  ·have h0z:¬((hi:Int)<=2*(r:Int)+1):=by omega
   by_cases hc2:2*r+2<hi
   ·have h1z:2*(r:Int)+1+1<(hi:Int):=by omega
    go_wp2_with fail
    go_big_quiet (first|(go_at_call 217;refine Calls.quiet_of_same (lessU_any _ _ _)))
    go_wp2_with fail
    ·have hA:ltInt (G (first+2*r+1)) (G (first+2*r+2))=true:=by assumption
     have HL:=Hd (sift_right ltInt hi first r dk hc2 (by rw[<-HG.out,<-HG.out,show first+(2*r+1)=first+2*r+1 from by omega];exact hA))
     revert nq;intro nq1
     have hS2:=hSk.drewN nq1
     clear hcw hfw
     generalize wr.drewN nq1=wr2 at hS2 ⊢
     have hcw:=hS2.cells HG.out hsk
     have hfw:=hS2.frozens n
     go_big_quiet (first|(go_at_call 217;refine Calls.quiet_of_same (lessU_any _ _ _)))
     go_wp2_with fail
     ·have hB:ltInt (G (first+r)) (G (first+2*r+2))=false:=by
       have:(!ltInt (G (first+r)) (G (first+2*r+2)))=true:=by assumption
       simpa using this
      (try simp only[Exit.inBlock,Exit.then]);refine bodyPost_ret (results_none rfl _ _ _) rfl ?_
      refine⟨rfl,?_⟩
      rw[<-HO.out,HL.out,if_neg (by rw[<-HG.out,<-HG.out,show first+(2*r+2)=first+2*r+2 from by omega,hB];exact Bool.noConfusion)]
      exact hS2.drewN _
     ·have hB:ltInt (G (first+r)) (G (first+2*r+2))=true:=by
       have:(!ltInt (G (first+r)) (G (first+2*r+2)))=false:=by assumption
       simpa using this
      revert nq;intro nq2
      have hS3:=hS2.drewN nq2
      clear hcw hfw
      generalize wr2.drewN nq2=wr3 at hS3 ⊢
      have hcw:=hS3.cells HG.out hsk
      have hfw:=hS3.frozens n
      go_region
      go_wp2
      go_roundw
      case rel=>
       refine⟨2*r+2,swp dk (first+r) (first+(2*r+2)),by first|rfl|(congr 1;omega),by omega,by rw[size_swp];exact hsk,?_,Hd ?_⟩
       ·have h5:=(hS3.drewN 1).swp (i:=first+r) (j:=first+(2*r+2)) (by omega) (by omega)
        rw[<-HG.out,<-HG.out,show first+(2*r+2)=first+2*r+2 from by omega]at h5
        rw[show first+(2*r+2)=first+2*r+2 from by omega]
        exact h5
       ·rw[<-HO.out,HL.out,if_pos (by rw[<-HG.out,<-HG.out,show first+(2*r+2)=first+2*r+2 from by omega];exact hB)]
      case measure=>simp[natOf];omega
    ·have hA:ltInt (G (first+2*r+1)) (G (first+2*r+2))=false:=by assumption
     have HL:=Hd (sift_left ltInt hi first r dk hc (.inr (by rw[<-HG.out,<-HG.out,show first+(2*r+1)=first+2*r+1 from by omega];exact hA)))
     revert nq;intro nq1
     have hS2:=hSk.drewN nq1
     clear hcw hfw
     generalize wr.drewN nq1=wr2 at hS2 ⊢
     have hcw:=hS2.cells HG.out hsk
     have hfw:=hS2.frozens n
     go_big_quiet (first|(go_at_call 217;refine Calls.quiet_of_same (lessU_any _ _ _)))
     go_wp2_with fail
     ·have hB:ltInt (G (first+r)) (G (first+2*r+1))=false:=by
       have:(!ltInt (G (first+r)) (G (first+2*r+1)))=true:=by assumption
       simpa using this
      (try simp only[Exit.inBlock,Exit.then]);refine bodyPost_ret (results_none rfl _ _ _) rfl ?_
      refine⟨rfl,?_⟩
      rw[<-HO.out,HL.out,if_neg (by rw[<-HG.out,<-HG.out,show first+(2*r+1)=first+2*r+1 from by omega,hB];exact Bool.noConfusion)]
      exact hS2.drewN _
     ·have hB:ltInt (G (first+r)) (G (first+2*r+1))=true:=by
       have:(!ltInt (G (first+r)) (G (first+2*r+1)))=false:=by assumption
       simpa using this
      revert nq;intro nq2
      have hS3:=hS2.drewN nq2
      clear hcw hfw
      generalize wr2.drewN nq2=wr3 at hS3 ⊢
      have hcw:=hS3.cells HG.out hsk
      have hfw:=hS3.frozens n
      go_region
      go_wp2
      go_roundw
      case rel=>
       refine⟨2*r+1,swp dk (first+r) (first+(2*r+1)),by first|rfl|(congr 1;omega),by omega,by rw[size_swp];exact hsk,?_,Hd ?_⟩
       ·have h5:=(hS3.drewN 1).swp (i:=first+r) (j:=first+(2*r+1)) (by omega) (by omega)
        rw[<-HG.out,<-HG.out,show first+(2*r+1)=first+2*r+1 from by omega]at h5
        rw[show first+(2*r+1)=first+2*r+1 from by omega]
        exact h5
       ·rw[<-HO.out,HL.out,if_pos (by rw[<-HG.out,<-HG.out,show first+(2*r+1)=first+2*r+1 from by omega];exact hB)]
      case measure=>simp[natOf];omega
   ·have h1z:decide (2*(r:Int)+1+1<(hi:Int))=false:=dF (by omega)
    have HL:=Hd (sift_left ltInt hi first r dk hc (.inl hc2))
    go_wp2_with fail
    go_big_quiet (first|(go_at_call 217;refine Calls.quiet_of_same (lessU_any _ _ _)))
    go_wp2_with fail
    revert nq;intro nq1
    have hS2:=hSk.drewN nq1
    clear hcw hfw
    generalize wr.drewN nq1=wr2 at hS2 ⊢
    have hcw:=hS2.cells HG.out hsk
    have hfw:=hS2.frozens n
    go_big_quiet (first|(go_at_call 217;refine Calls.quiet_of_same (lessU_any _ _ _)))
    go_wp2_with fail
    ·have hB:ltInt (G (first+r)) (G (first+2*r+1))=false:=by
      have:(!ltInt (G (first+r)) (G (first+2*r+1)))=true:=by assumption
      simpa using this
     (try simp only[Exit.inBlock,Exit.then]);refine bodyPost_ret (results_none rfl _ _ _) rfl ?_
     refine⟨rfl,?_⟩
     rw[<-HO.out,HL.out,if_neg (by rw[<-HG.out,<-HG.out,show first+(2*r+1)=first+2*r+1 from by omega,hB];exact Bool.noConfusion)]
     exact hS2.drewN _
    ·have hB:ltInt (G (first+r)) (G (first+2*r+1))=true:=by
      have:(!ltInt (G (first+r)) (G (first+2*r+1)))=false:=by assumption
      simpa using this
     revert nq;intro nq2
     have hS3:=hS2.drewN nq2
     clear hcw hfw
     generalize wr2.drewN nq2=wr3 at hS3 ⊢
     have hcw:=hS3.cells HG.out hsk
     have hfw:=hS3.frozens n
     go_region
     go_wp2
     go_roundw
     case rel=>
      refine⟨2*r+1,swp dk (first+r) (first+(2*r+1)),by first|rfl|(congr 1;omega),by omega,by rw[size_swp];exact hsk,?_,Hd ?_⟩
      ·have h5:=(hS3.drewN 1).swp (i:=first+r) (j:=first+(2*r+1)) (by omega) (by omega)
       rw[<-HG.out,<-HG.out,show first+(2*r+1)=first+2*r+1 from by omega]at h5
       rw[show first+(2*r+1)=first+2*r+1 from by omega]
       exact h5
      ·rw[<-HO.out,HL.out,if_pos (by rw[<-HG.out,<-HG.out,show first+(2*r+1)=first+2*r+1 from by omega];exact hB)]
     case measure=>simp[natOf];omega
  ·have hcd:decide ((hi:Int)<=2*(r:Int)+1)=true:=dT (by omega)
   have hcn:decide (hi<=2*r+1)=true:=dT (by omega)
   go_wp2
   go_end0
   refine⟨rfl,?_⟩
   rw[<-HO.out,sift_end ltInt hi first r dk (by omega)]
   exact hSk
theorem Srt.swpG{w0 w:World}{blk off N:Nat}{d:Array Int}{G:Nat->Int}(h:Srt w0 blk off N d w)(hG:∀t,G t=d[t]!){i j:Nat}(hi:i<d.size)(hj:j<d.size):
 Srt w0 blk off N (Go.Sort.swp d i j) ((w.setCell ⟨blk,off+i,none⟩ (.int .u32 (G j))).setCell ⟨blk,off+j,none⟩ (.int .u32 (G i))):=by
 rw[hG,hG]
 exact h.swp hi hj
theorem siftL_size(hi first r:Nat)(d:Array Int):(siftDown ltInt hi first r d).size=d.size:=by
 fun_induction siftDown ltInt hi first r d<;>simp_all [size_swp]
theorem heapSort_any(blk off cap N n a b:Nat)(d:Array Int)(w:World)(hS:Srt w blk off N d w)(hn:d.size=n)(hab:a<b)(hb:b<=n)(hsz:n<1152921504606846976):
 Calls Tryz.prog 212 #[.slice (some ⟨blk,off,none⟩) n cap,.int .i64 a,.int .i64 b] w fun e w'=>
  e=.returned (.tuple #[])/\Srt w blk off N (heapSort ltInt d a b) w':=by
 obtain⟨hi,hhi⟩:∃hi:Nat,b-a=hi:=⟨_,rfl⟩
 have hh1:1<=hi:=by omega
 have HSO:=Hd (show heapSort ltInt d a b=heapPop ltInt a hi (heapBuild ltInt hi a ((hi-1)/2+1) d)by unfold heapSort;rw[hhi])
 have hfa:a+hi<=n:=by omega
 go_enter Tryz.func212,Tryz.ntmps212
 go_wp2
 rw[show(b:Int)-(a:Int)=(hi:Int)by omega]
 go_loopw[9] (fun v wr=>∃(k:Nat) (dk:Array Int),v=.int .i64 ((k:Int)-1)/\k<=(hi-1)/2+1/\dk.size=n/\Srt w blk off N dk wr/\
  Hid (heapBuild ltInt hi a k dk=heapBuild ltInt hi a ((hi-1)/2+1) d)) (fun v _=>natOf (match v with| .int q x=>.int q (x+1)|v=>v))
 case atStart=>exact⟨(hi-1)/2+1,d,by congr 1;omega,Nat.le_refl _,hn,hS,Hd rfl⟩
 case round=>
  obtain⟨k,dk,rfl,hk,hsk,hSk,HO⟩:=hrel
  rcases k with _|i
  ·rw[show((0:Nat):Int)-1= -1 from rfl]
   have HO':=Hd (show dk=heapBuild ltInt hi a ((hi-1)/2+1) d from HO.out)
   clear HO
   go_wp2
   go_loopw[10] (fun v wq=>∃(k:Nat) (dq:Array Int),v=.int .i64 ((k:Int)-1)/\k<=hi/\dq.size=n/\Srt w blk off N dq wq/\
    Hid (heapPop ltInt a k dq=heapPop ltInt a hi dk)) (fun v _=>natOf (match v with| .int q x=>.int q (x+1)|v=>v))
   case atStart=>exact⟨hi,dk,rfl,Nat.le_refl _,hsk,hSk,Hd rfl⟩
   case round=>
    obtain⟨k,dq,rfl,hk2,hsq,hSq,HP⟩:=hrel
    rcases k with _|i
    ·rw[show((0:Nat):Int)-1= -1 from rfl]
     go_wp2
     go_end0
     refine⟨rfl,?_⟩
     rw[HSO.out,<-HO'.out,<-HP.out]
     exact hSq
    ·rw[show((i+1:Nat):Int)-1=i by omega]
     obtain⟨G,hG⟩:∃G:Nat->Int,∀t,G t=dq[t]!:=⟨fun t=>dq[t]!,fun _=>rfl⟩
     have HG:=Hd hG
     clear hG
     have hcw:=hSq.cells HG.out hsq
     have hfw:=hSq.frozens n
     have hi0:¬((i:Int)<0):=by omega
     rcases Nat.eq_zero_or_pos i with hz|hz
     ·subst hz
      go_wp2
      go_region
      all_goals
       refine hideW (Φ:=fun W=>Exit.then _ _ _ _ W) (fun W=>Srt w blk off N (swp dq a (a+0)) W) ((hSq.swpG HG.out (i:=a) (j:=a+0) (by omega) (by omega)).drewN 1) (fun w2 hS2=>?_)
       clear hcw hfw hSq
       have hs2:(swp dq a (a+0)).size=n:=by rw[size_swp];exact hsq
       go_wp2_with (go_at_call 222;refine(sift_any blk off cap N n 0 0 a (swp dq a (a+0)) _ hS2.start hs2 (Nat.zero_le _) (by omega) hsz).mono ?_;rintro e w3 ⟨rfl,hS3⟩)
       go_roundw
       case rel=>exact⟨0,siftDown ltInt 0 a 0 (swp dq a (a+0)),by first|rfl|(congr 1;omega),by omega,by rw[siftL_size];exact hs2,hS2.trans hS3,Hd (by rw[<-HP.out];rfl)⟩
       case measure=>simp[natOf]
     ·go_wp2
      go_region
      all_goals
       refine hideW (Φ:=fun W=>Exit.then _ _ _ _ W) (fun W=>Srt w blk off N (swp dq a (a+i)) W) ((hSq.swpG HG.out (i:=a) (j:=a+i) (by omega) (by omega)).drewN 1) (fun w2 hS2=>?_)
       clear hcw hfw hSq
       have hs2:(swp dq a (a+i)).size=n:=by rw[size_swp];exact hsq
       go_wp2_with (go_at_call 222;refine(sift_any blk off cap N n 0 i a (swp dq a (a+i)) _ hS2.start hs2 (Nat.zero_le _) (by omega) hsz).mono ?_;rintro e w3 ⟨rfl,hS3⟩)
       go_roundw
       case rel=>exact⟨i,siftDown ltInt i a 0 (swp dq a (a+i)),by first|rfl|(congr 1;omega),by omega,by rw[siftL_size];exact hs2,hS2.trans hS3,Hd (by rw[<-HP.out];rfl)⟩
       case measure=>simp[natOf]
  ·rw[show((i+1:Nat):Int)-1=i by omega]
   go_wp2_with (go_at_call 222;refine(sift_any blk off cap N n i hi a dk _ hSk.start hsk (by omega) hfa hsz).mono ?_;rintro e w1 ⟨rfl,hS1⟩)
   go_roundw
   case rel=>exact⟨i,siftDown ltInt hi a i dk,by first|rfl|(congr 1;omega),by omega,by rw[siftL_size];exact hsk,hSk.trans hS1,Hd (by rw[<-HO.out];rfl)⟩
   case measure=>simp[natOf]
end Go.Proofs.YtjflkifodfncmaaGreatDoor
