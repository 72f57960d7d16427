/- The statement of ToolAll. Conditions: none. -/
import Derived.Test.YtjflkifodfncmaaGreatDoorTie
import Derived.Test.YtjflkifodfncmaaGreatDoorCards
import Derived.Test.YtjflkifodfncmaaGreatDoorGLaid
import Derived.Test.YtjflkifodfncmaaGreatDoorFactA
import Derived.Test.YtjflkifodfncmaaGreatDoorToolAll
import Derived.SevenTiedAt
namespace Go.Proofs.YtjflkifodfncmaaGreatDoor
set_option maxRecDepth 100000
open Go Go.ChangeShapes Go.WideShapes Go.ChangeAt Go.RowKit
theorem toolAll_lifted(os:Os)(started:os.Started)(H:Type)(enc:TypeId × Value->H):
 ReturnsInHanded {} Tryz.checked os 3 .any (fun w args=>(Rows.toolAllSpec.pre enc Tryz.prog Tryz.f3 [] false w args/\laidMetH Tryz.prog laidL w)/\sizedMet enc Tryz.prog Tryz.f3 (OpenSpec.ofChange Rows.toolAllSpec) false w args)
  (Rows.toolAllSpec.post enc Tryz.prog Tryz.f3 false true false false):=by
 refine returnsInHanded_of_change_and (C:=Tryz.checked) (X:=fun w _=>laidMetH Tryz.prog laidL w) (fun _ _ _ hh h=>h.of_heap hh) ownTry started (by kernel_rfl) Tryz.func3
  (ChangeSpec.witness_shaped (enc:=enc) (C:=Tryz.checked) (os:=os) (X:=fun w _=>laidMetH Tryz.prog laidL w) false (World.doorLaid Tryz.prog 24 os) #[.slice none 0 0,.slice none 0 0,.int .u32 0] 8 rfl (World.shaped_of_RefB (by kernel_rfl) (by kernel_rfl)) (by kernel_rfl) (by kernel_rfl) (by kernel_rfl) (door_met os _)) ?_
 intro W base args ds gs before hval0 hW _ hsz hL _
 have hval:∀(j:Nat) t v,Tryz.f3.params[j]? =some t->args[j]? =some v->Value.okWide Tryz.prog W .any base t v:=hval0
 have hW':=hW
 obtain⟨p,q,hA0,hV,rfl,_,_⟩:=hW
 have hA:DataW.TrodAll enc Tryz.prog W 0 (fun _=>true) true Tryz.f3.params.toList args.toList ds p:=hA0
 rw[Tryz.params3]at hA hval
 obtain⟨v0,v1,v2,d0,d1,d2,p0,p1,p2,rfl,rfl,rfl,r0,r1,r2⟩:=trodAll_three hA
 obtain⟨rfl,rfl⟩:=trodVars_none hV
 have hT:=tab_of_laid hL
 have hWd:=words_of_laid hL
 simp only[List.append_nil]at hW'
 have hlt0:∀x∈p0,x.block<W.heap.size:=fun x hx=>hW'.lt x (by simp[hx])
 have hlt1:∀x∈p1,x.block<W.heap.size:=fun x hx=>hW'.lt x (by simp[hx])
 have hlt2:∀x∈p2,x.block<W.heap.size:=fun x hx=>hW'.lt x (by simp[hx])
 obtain⟨l0,hY0⟩:=open_bytes (hval 0 22 v0 rfl rfl) r0
 obtain⟨l1,hY1⟩:=open_bytes (hval 1 22 v1 rfl rfl) r1
 have q2:=r2
 obtain⟨m2,hm2,_,_,wm2⟩:=open_int Tryz.underlying23 (hval 2 23 v2 rfl rfl) q2
 obtain⟨a2,rfl⟩:=u32_inw wm2
 subst hm2
 clear hA0 hval0
 refine(toolAll_any v0 v1 l0 l1 a2 W hY0 hY1 hT hWd).mono fun e W' ⟨he,hx⟩=>?_
 subst he
 have hargs0:=Below.trod (W':=W') laidTry (by kernel_rfl) (of_decide_eq_true (by kernel_rfl)) r0 hx hlt0
 have hargs1:=Below.trod (W':=W') laidTry (by kernel_rfl) (of_decide_eq_true (by kernel_rfl)) r1 hx hlt1
 have hargs2:=Below.trod (W':=W') laidTry (by kernel_rfl) (of_decide_eq_true (by kernel_rfl)) r2 hx hlt2
 refine⟨_,rfl,_,_,_,[],p0++(p1++(p2)),[],hW',?_,?_,rfl,Below.frame hx _,fun h=>(by cases h)⟩
 ·exact trodAll_mk1 shutTrue
 ·exact trodAll_mk3 hargs0 hargs1 hargs2
theorem toolAll_closed:joinedFacts Tryz.prog 3 Tryz.f3 Rows.toolAllSpec Rows.toolAllRow=true:=by
 unfold joinedFacts
 rw[fact_mayEnter,show(Rows.toolAllRow.lifted==Tryz.prog.liftsFinal)=true from fact_lifts,show(Tryz.prog.make==some Rows.toolAllRow.make)=true from fact_make]
 kernel_rfl
theorem toolAll_row:Rows.ToolAllSaid:=
 OpenClaim.holds_of_wide 3 Tryz.f3 rfl rfl rfl rfl rfl rfl rfl ⟨rfl,rfl,rfl,rfl,rfl⟩ rfl rfl rfl rfl rfl (by kernel_rfl) Tryz.func3 toolAll_closed
  (of_decide_eq_true (by kernel_rfl)) (by unfold Func.isWrapper;first|(rw[if_pos (by decide+kernel)];kernel_rfl)|(rw[if_neg (by decide+kernel)];exact⟨rfl,rfl⟩))
  (fun os started H enc _=>toolAll_lifted os started H enc)
theorem toolAll_holds:Rows.ToolAllCardSaid:=
 Claim7.holds_tied_plain_at .later [] [.data, .data, .data, .data] true (true, "fb2c02d6b13f8c2e5ff913b1894f94f431d0d6941aeaebeab05692428750c819") false
   toolAll_row (fun _ h=>by cases h) (by kernel_rfl) (fun _ h=>by cases h) toolAll_row_tie rfl ⟨rfl,rfl⟩ (by kernel_rfl) rfl
   (fun f fn hf hfn=>by
     obtain rfl : f = 3 := Option.some.inj ((show Tryz.prog.funcNamed "theseus/theseuslaw22.ToolAll" = some 3 by kernel_rfl).symm.trans hf) |>.symm
     obtain rfl:fn=Tryz.f3:=(Option.some.inj (Tryz.func3.symm.trans hfn)).symm
     exact⟨by kernel_rfl,fun j t ht=>by
      rw[Tryz.params3]at ht
      have hm:t∈[22,22,23]:=by simpa using Array.mem_of_getElem? ht
      have hall:([22,22,23].all fun u=>!Tryz.prog.wantsStandIn u)=true:=by kernel_rfl
      exact(show Tryz.prog.wantsStandIn t=false by simpa using List.all_eq_true.1 hall t hm)⟩)
   (by kernel_rfl)
end Go.Proofs.YtjflkifodfncmaaGreatDoor
