/- RulW, RulPutW, RulTakeW, OpenW: these texts in one. Conditions: each theorem names its own. -/
import Derived.Test.YtjflkifodfncmaaGreatDoorGFTk
import Derived.Test.YtjflkifodfncmaaGreatDoorGVec
import Derived.Laws.EntriesVeiled
import Derived.Laws.ResultCell
namespace Go.Proofs.YtjflkifodfncmaaGreatDoor
set_option maxHeartbeats 4000000
set_option maxRecDepth 100000
open Go Go.RowKit Go.Maps Go.Proofs
abbrev fnV(f:Nat):Value:=.func (.func f) #[] #[]
def fldC:List Value:=[I 4,fnV 172,fnV 173,I 1,fnV 174,fnV 175,I 1,fnV 176,fnV 177,I 2,fnV 178,fnV 179]
theorem fields_any(w:World):Calls Tryz.prog 134 #[] w fun e w'=>e=.returned (.slice (some ⟨w.heap.size,0,none⟩) 4 4)/\Blk w' w.heap.size fldC 188/\Ext w w':=by
 go_enter Tryz.func134,Tryz.ntmps134
 go_wp2_with fail
 go_ret
 exact⟨rfl,Blk.new w fldC 188,by(repeat with_reducible first|exact eR _|assumption|refine eA ?_ _|refine eD ?_|refine eW ?_ _|(refine eS ?_ ?_;focus(first|(simp;done)|(simp;omega)|omega)))⟩
theorem get1_any(r:Rul)(w:World):Calls Tryz.prog 172 #[r.val] w fun e w'=>e=.returned (.int .i64 (uv r.pa))/\Ext w w':=by
 go_enter Tryz.func172,Tryz.ntmps172
 go_upto_region 1 with fail
 refine hBk w [U r.pa,I r.pl,I r.act,I r.nx] 39 (fun W1 hW1=>?_)
 obtain⟨hx1,hb1⟩:=hW1
 have HX:=Hd hx1
 have hc:=hb1.cells
 clear hx1 hb1
 generalize w.heap.size=rb at*
 go_wp2_with fail
 go_ret
 exact⟨rfl,HX.out⟩
theorem get3_any(r:Rul)(w:World):Calls Tryz.prog 174 #[r.val] w fun e w'=>e=.returned (I r.pl)/\Ext w w':=by
 go_enter Tryz.func174,Tryz.ntmps174
 go_upto_region 1 with fail
 refine hBk w [U r.pa,I r.pl,I r.act,I r.nx] 39 (fun W1 hW1=>?_)
 obtain⟨hx1,hb1⟩:=hW1
 have HX:=Hd hx1
 have hc:=hb1.cells
 clear hx1 hb1
 generalize w.heap.size=rb at*
 go_wp2_with fail
 go_ret
 exact⟨rfl,HX.out⟩
theorem get5_any(r:Rul)(w:World):Calls Tryz.prog 176 #[r.val] w fun e w'=>e=.returned (I r.act)/\Ext w w':=by
 go_enter Tryz.func176,Tryz.ntmps176
 go_upto_region 1 with fail
 refine hBk w [U r.pa,I r.pl,I r.act,I r.nx] 39 (fun W1 hW1=>?_)
 obtain⟨hx1,hb1⟩:=hW1
 have HX:=Hd hx1
 have hc:=hb1.cells
 clear hx1 hb1
 generalize w.heap.size=rb at*
 go_wp2_with fail
 go_ret
 exact⟨rfl,HX.out⟩
theorem get7_any(r:Rul)(w:World):Calls Tryz.prog 178 #[r.val] w fun e w'=>e=.returned (I r.nx)/\Ext w w':=by
 go_enter Tryz.func178,Tryz.ntmps178
 go_upto_region 1 with fail
 refine hBk w [U r.pa,I r.pl,I r.act,I r.nx] 39 (fun W1 hW1=>?_)
 obtain⟨hx1,hb1⟩:=hW1
 have HX:=Hd hx1
 have hc:=hb1.cells
 clear hx1 hb1
 generalize w.heap.size=rb at*
 go_wp2_with fail
 go_ret
 exact⟨rfl,HX.out⟩
def rulPre(r:Rul):Nat->List Byt
 |0=>[]
 |1=>be4 r.pa
 |2=>be4 r.pa++beN 1 r.pl.toNat
 |3=>be4 r.pa++beN 1 r.pl.toNat++beN 1 r.act.toNat
 |_=>be4 r.pa++beN 1 r.pl.toNat++beN 1 r.act.toNat++beN 2 r.nx.toNat
theorem rulPre_len(r:Rul)(k:Nat):(rulPre r k).length<=8:=by
 unfold rulPre
 split<;>simp[be4_len,beN_len]
theorem rulPre_all(r:Rul):rulPre r 4=ruleB r:=by unfold rulPre ruleB;simp
theorem blk_grownY{w w':World}{b:Nat}{cs:List Value}{T e:TypeId}{B s n:Nat}{v:Value}{xs:List Value}(hb:Blk w b cs T)(ho:w.ownsRow B e s v n xs)(hT:T≠e)(hg:w.grownBy w' v.ownBlock):Blk w' b cs T:=by
 have h1:=hg.block b hb.lt (blk_row hb ho hT)
 unfold Blk at*
 rw[h1];exact hb
theorem rulePut_any(r:Rul)(hr:RulB r)(w:World):Calls Tryz.prog 83 #[r.val] w fun e w'=>∃v,e=.returned (.tuple #[v,I 0])/\OwnY w' w.heap.size v (ruleB r)/\Ext w w':=by
 obtain⟨i8,hi8,hz8,hs8,hb8⟩:=info_parts infoU8'
 have HI8:=Hd hi8
 have HZ8:=Hd hz8
 have HS8:=Hd hs8
 clear hi8 hz8 hs8
 have HA:=Hd (rulPre_all r)
 have HLN:=Hd (rulPre_len r)
 have HP0:=Hd (show∀w,Calls Tryz.prog 77 #[.int .i64 (uv r.pa),.int .i64 4] w fun e w'=>∃v,e=.returned (.tuple #[v,I 0])/\OwnY w' w.heap.size v (beN 4 r.pa.toNat)/\Ext w w' from fun w=>
  numPut_any 4 (by decide) r.pa.toNat (by have:=r.pa.isLt;omega) w)
 have HP1:=Hd (show∀w,Calls Tryz.prog 77 #[I r.pl,.int .i64 1] w fun e w'=>∃v,e=.returned (.tuple #[v,I 0])/\OwnY w' w.heap.size v (beN 1 r.pl.toNat)/\Ext w w' from fun w=>by
  have h:=numPut_any 1 (by decide) r.pl.toNat (by have:=hr.pl;omega) w
  rw[Int.toNat_of_nonneg hr.pl.1]at h;exact h)
 have HP2:=Hd (show∀w,Calls Tryz.prog 77 #[I r.act,.int .i64 1] w fun e w'=>∃v,e=.returned (.tuple #[v,I 0])/\OwnY w' w.heap.size v (beN 1 r.act.toNat)/\Ext w w' from fun w=>by
  have h:=numPut_any 1 (by decide) r.act.toNat (by have:=hr.act;omega) w
  rw[Int.toNat_of_nonneg hr.act.1]at h;exact h)
 have HP3:=Hd (show∀w,Calls Tryz.prog 77 #[I r.nx,.int .i64 2] w fun e w'=>∃v,e=.returned (.tuple #[v,I 0])/\OwnY w' w.heap.size v (beN 2 r.nx.toNat)/\Ext w w' from fun w=>by
  have h:=numPut_any 2 (by decide) r.nx.toNat (by have:=hr.nx;omega) w
  rw[Int.toNat_of_nonneg hr.nx.1]at h;exact h)
 clear hr
 go_enter Tryz.func83,Tryz.ntmps83
 go_upto_region 1 with fail
 refine hBk w [U r.pa,I r.pl,I r.act,I r.nx] 39 (fun W1 hW1=>?_)
 obtain⟨hx1,hb1⟩:=hW1
 have HX1:=Hd hx1
 have HB1:=Hd hb1
 clear hx1 hb1
 generalize w.heap.size=rb at*
 go_upto_region 2 with(first
  |(at_make;refine wpList_make_own _ rfl _ _ 22 rfl W1.heap.size 5 i8 (.int .u8 0) 1 Tryz.underlying22 HI8.out HZ8.out HS8.out .i64 .i64 _ 8 rfl rfl (by omega) (by rw[hb8];omega) (by unfold maxLen;omega) (Nat.le_refl _) ?_
    intro w2 ho2 hg2;have HO2:=Hd (show OwnY w2 W1.heap.size _ []from ho2);have HX2:=Hd (show Ext W1 w2 from Below.grown (Below.refl _ _) hg2 (Nat.le_refl _) (fun k hk=>by cases hk));clear ho2 hg2))
 go_upto_region 3 with(first
  |(go_at_call 134;(with_reducible refine(fields_any _).mono ?_);rintro e w3 ⟨he,hf,hx⟩;subst he;have HF3:=Hd hf;have HX3:=Hd (HX2.out.trans hx);have HO3:=Hd (HO2.out.later hx);clear hf hx))
 generalize w2.heap.size=fb at*
 go_wp2_with fail
 have HLM:=Hd (show(8:Nat)<=8 from Nat.le_refl _)
 go_loopw[4,12] (fun v i wr=>∃k:Nat,k<=4/\i=I k/\Hid (OwnY wr W1.heap.size v (rulPre r k))/\Hid (Ext W1 wr)/\Hid (Blk wr fb fldC 188)) (fun _ i _=>4-(intOf i).toNat)
 case atStart=>exact⟨0,by omega,rfl,Hd HO3.out,HX3,HF3⟩
 case round=>
  obtain⟨k,hk,rfl,HO,HX,HF⟩:=hrel
  obtain⟨va,vc,hve⟩:=HO.out.form
  subst hve
  by_cases hlt:k<4
  ·have hfc:=HF.out.cells
   unfold fldC at hfc
   rcases(show k=0\/k=1\/k=2\/k=3 by omega)with rfl|rfl|rfl|rfl
   ·go_upto_region 5 with fail
    refine hBk wr [I 4,fnV 172,fnV 173] 188 (fun W5 hW5=>?_)
    obtain⟨hx5,hb5⟩:=hW5
    have HX5:=Hd (HX.out.trans hx5)
    have HB5:=Hd hb5
    have HO5:=Hd (HO.out.later hx5)
    have HF5:=Hd (HF.out.later hx5)
    clear hx5 hb5 hfc
    generalize wr.heap.size=gb at*
    have HR5:=Hd (HB1.out.later HX5.out)
    refine wp_region_R (RB (W5.heap.size)) 11 rfl (by kernel_rfl) (by kernel_rfl) (fun w0 hx0=>?_)
    have HX0:=Hd hx0
    have q0:=RB.keep hx0.size HB5.out.lt ((HB5.out.later hx0).cells 0)
    have q1:=RB.keep hx0.size HB5.out.lt ((HB5.out.later hx0).cells 1)
    have r0:=RB.keep hx0.size HR5.out.lt ((HR5.out.later hx0).cells 0)
    have r1:=RB.keep hx0.size HR5.out.lt ((HR5.out.later hx0).cells 1)
    have r2:=RB.keep hx0.size HR5.out.lt ((HR5.out.later hx0).cells 2)
    have r3:=RB.keep hx0.size HR5.out.lt ((HR5.out.later hx0).cells 3)
    clear hx0
    refine WRi_at 0 ?_
    iterate 3
     refine WRi_q (preRB _) rfl (by decide) (by kernel_rfl) rfl ?_;apply Exists.intro;refine⟨fun w1 hx1=>?_,?_⟩
     ·go_simp;try go_bits
      first|with_reducible rfl|rfl
     go_frame;try simp only[Nat.reduceAdd]
    refine WRi_out ?_
    refine WRi_at 4 ?_
    iterate 2
     refine WRi_q (preRB _) rfl (by decide) (by kernel_rfl) rfl ?_;apply Exists.intro;refine⟨fun w1 hx1=>?_,?_⟩
     ·go_simp;try go_bits
      first|with_reducible rfl|rfl
     go_frame;try simp only[Nat.reduceAdd]
    refine WRi_out ?_
    clear q0 q1 r0 r1 r2 r3
    refine WR_one 3 rfl (by decide) (by kernel_rfl) rfl (fun K hK=>?_)
    go_simp
    refine(get1_any r _).mono ?_
    rintro e w6 ⟨he,hx6⟩
    subst he
    refine hK _ _ (RB.ext hx6) ?_
    have HX6:=Hd (HX0.out.trans hx6)
    clear hK K hx6
    refine WR_one 6 rfl (by decide) (by kernel_rfl) rfl (fun K hK=>?_)
    go_simp
    refine(HP0.out _).mono ?_
    rintro e w7 ⟨v7,he,ho7,hx7⟩
    subst he
    refine hK _ _ (RB.ext hx7) ?_
    have HX7:=Hd (HX5.out.trans (HX6.out.trans hx7))
    have HY7:=Hd ho7.bs
    have HO7:=Hd (HO5.out.later (HX6.out.trans hx7))
    have HF7:=Hd (HF5.out.later (HX6.out.trans hx7))
    clear hK K hx7 ho7
    obtain⟨a7,c7,e7,-⟩:=HY7.out.form
    subst e7
    have HL7:=Hd (show(rulPre r 0).length+(beN 4 r.pa.toNat).length<=1000 by have:=HLN.out 0;have:=HLM.out;rw[beN_len];omega)
    have HE7:=Hd (show rulPre r 1=rulPre r 0++beN 4 r.pa.toNat from rfl)
    refine WRi_at 7 ?_
    iterate 4
     refine WRi_q (preRB _) rfl (by decide) (by kernel_rfl) rfl ?_;apply Exists.intro;refine⟨fun w1 hx1=>?_,?_⟩
     ·go_simp;try go_bits
      first|with_reducible rfl|rfl
     go_frame;try simp only[Nat.reduceAdd]
    refine WRi_out ?_
    refine WR_done (by kernel_rfl) ?_
    (try simp only[List.drop_succ_cons,List.drop_zero])
    generalize rulPre r 0=L at*
    generalize beN 4 r.pa.toNat=M at*
    go_wp2_with (first
     |(at_builtin;refine wpList_app rfl _ _ 22 rfl W1.heap.size 5 (.int .u8 0) 1 1 Tryz.underlying22 infoU8' rfl (by decide) (by decide) _ _ _ rfl HO7.out _ _ _ rfl HY7.out (ycells_one _) (by have:=HL7.out;omega) HX7.out.size ?_
       intro v8 w8 ho8 hg8;have HO8:=Hd (show OwnY w8 W1.heap.size v8 (rulPre r 1)by rw[HE7.out];unfold OwnY;rw[ycells_app,List.length_append];exact ho8);have HX8:=Hd (Ext.grown HX7.out hg8 HO7.out (Nat.le_refl _));have HF8:=Hd (blk_grownY HF7.out HO7.out (by decide) hg8);clear ho8 hg8))
    go_roundw
    case rel=>exact⟨1,by omega,rfl,HO8,HX8,HF8⟩
    case measure=>simp[intOf]
   ·go_upto_region 5 with fail
    refine hBk wr [I 1,fnV 174,fnV 175] 188 (fun W5 hW5=>?_)
    obtain⟨hx5,hb5⟩:=hW5
    have HX5:=Hd (HX.out.trans hx5)
    have HB5:=Hd hb5
    have HO5:=Hd (HO.out.later hx5)
    have HF5:=Hd (HF.out.later hx5)
    clear hx5 hb5 hfc
    generalize wr.heap.size=gb at*
    have HR5:=Hd (HB1.out.later HX5.out)
    refine wp_region_R (RB (W5.heap.size)) 11 rfl (by kernel_rfl) (by kernel_rfl) (fun w0 hx0=>?_)
    have HX0:=Hd hx0
    have q0:=RB.keep hx0.size HB5.out.lt ((HB5.out.later hx0).cells 0)
    have q1:=RB.keep hx0.size HB5.out.lt ((HB5.out.later hx0).cells 1)
    have r0:=RB.keep hx0.size HR5.out.lt ((HR5.out.later hx0).cells 0)
    have r1:=RB.keep hx0.size HR5.out.lt ((HR5.out.later hx0).cells 1)
    have r2:=RB.keep hx0.size HR5.out.lt ((HR5.out.later hx0).cells 2)
    have r3:=RB.keep hx0.size HR5.out.lt ((HR5.out.later hx0).cells 3)
    clear hx0
    refine WRi_at 0 ?_
    iterate 3
     refine WRi_q (preRB _) rfl (by decide) (by kernel_rfl) rfl ?_;apply Exists.intro;refine⟨fun w1 hx1=>?_,?_⟩
     ·go_simp;try go_bits
      first|with_reducible rfl|rfl
     go_frame;try simp only[Nat.reduceAdd]
    refine WRi_out ?_
    refine WRi_at 4 ?_
    iterate 2
     refine WRi_q (preRB _) rfl (by decide) (by kernel_rfl) rfl ?_;apply Exists.intro;refine⟨fun w1 hx1=>?_,?_⟩
     ·go_simp;try go_bits
      first|with_reducible rfl|rfl
     go_frame;try simp only[Nat.reduceAdd]
    refine WRi_out ?_
    clear q0 q1 r0 r1 r2 r3
    refine WR_one 3 rfl (by decide) (by kernel_rfl) rfl (fun K hK=>?_)
    go_simp
    refine(get3_any r _).mono ?_
    rintro e w6 ⟨he,hx6⟩
    subst he
    refine hK _ _ (RB.ext hx6) ?_
    have HX6:=Hd (HX0.out.trans hx6)
    clear hK K hx6
    refine WR_one 6 rfl (by decide) (by kernel_rfl) rfl (fun K hK=>?_)
    go_simp
    refine(HP1.out _).mono ?_
    rintro e w7 ⟨v7,he,ho7,hx7⟩
    subst he
    refine hK _ _ (RB.ext hx7) ?_
    have HX7:=Hd (HX5.out.trans (HX6.out.trans hx7))
    have HY7:=Hd ho7.bs
    have HO7:=Hd (HO5.out.later (HX6.out.trans hx7))
    have HF7:=Hd (HF5.out.later (HX6.out.trans hx7))
    clear hK K hx7 ho7
    obtain⟨a7,c7,e7,-⟩:=HY7.out.form
    subst e7
    have HL7:=Hd (show(rulPre r 1).length+(beN 1 r.pl.toNat).length<=1000 by have:=HLN.out 1;have:=HLM.out;rw[beN_len];omega)
    have HE7:=Hd (show rulPre r 2=rulPre r 1++beN 1 r.pl.toNat from rfl)
    refine WRi_at 7 ?_
    iterate 4
     refine WRi_q (preRB _) rfl (by decide) (by kernel_rfl) rfl ?_;apply Exists.intro;refine⟨fun w1 hx1=>?_,?_⟩
     ·go_simp;try go_bits
      first|with_reducible rfl|rfl
     go_frame;try simp only[Nat.reduceAdd]
    refine WRi_out ?_
    refine WR_done (by kernel_rfl) ?_
    (try simp only[List.drop_succ_cons,List.drop_zero])
    generalize rulPre r 1=L at*
    generalize beN 1 r.pl.toNat=M at*
    go_wp2_with (first
     |(at_builtin;refine wpList_app rfl _ _ 22 rfl W1.heap.size 5 (.int .u8 0) 1 1 Tryz.underlying22 infoU8' rfl (by decide) (by decide) _ _ _ rfl HO7.out _ _ _ rfl HY7.out (ycells_one _) (by have:=HL7.out;omega) HX7.out.size ?_
       intro v8 w8 ho8 hg8;have HO8:=Hd (show OwnY w8 W1.heap.size v8 (rulPre r 2)by rw[HE7.out];unfold OwnY;rw[ycells_app,List.length_append];exact ho8);have HX8:=Hd (Ext.grown HX7.out hg8 HO7.out (Nat.le_refl _));have HF8:=Hd (blk_grownY HF7.out HO7.out (by decide) hg8);clear ho8 hg8))
    go_roundw
    case rel=>exact⟨2,by omega,rfl,HO8,HX8,HF8⟩
    case measure=>simp[intOf]
   ·go_upto_region 5 with fail
    refine hBk wr [I 1,fnV 176,fnV 177] 188 (fun W5 hW5=>?_)
    obtain⟨hx5,hb5⟩:=hW5
    have HX5:=Hd (HX.out.trans hx5)
    have HB5:=Hd hb5
    have HO5:=Hd (HO.out.later hx5)
    have HF5:=Hd (HF.out.later hx5)
    clear hx5 hb5 hfc
    generalize wr.heap.size=gb at*
    have HR5:=Hd (HB1.out.later HX5.out)
    refine wp_region_R (RB (W5.heap.size)) 11 rfl (by kernel_rfl) (by kernel_rfl) (fun w0 hx0=>?_)
    have HX0:=Hd hx0
    have q0:=RB.keep hx0.size HB5.out.lt ((HB5.out.later hx0).cells 0)
    have q1:=RB.keep hx0.size HB5.out.lt ((HB5.out.later hx0).cells 1)
    have r0:=RB.keep hx0.size HR5.out.lt ((HR5.out.later hx0).cells 0)
    have r1:=RB.keep hx0.size HR5.out.lt ((HR5.out.later hx0).cells 1)
    have r2:=RB.keep hx0.size HR5.out.lt ((HR5.out.later hx0).cells 2)
    have r3:=RB.keep hx0.size HR5.out.lt ((HR5.out.later hx0).cells 3)
    clear hx0
    refine WRi_at 0 ?_
    iterate 3
     refine WRi_q (preRB _) rfl (by decide) (by kernel_rfl) rfl ?_;apply Exists.intro;refine⟨fun w1 hx1=>?_,?_⟩
     ·go_simp;try go_bits
      first|with_reducible rfl|rfl
     go_frame;try simp only[Nat.reduceAdd]
    refine WRi_out ?_
    refine WRi_at 4 ?_
    iterate 2
     refine WRi_q (preRB _) rfl (by decide) (by kernel_rfl) rfl ?_;apply Exists.intro;refine⟨fun w1 hx1=>?_,?_⟩
     ·go_simp;try go_bits
      first|with_reducible rfl|rfl
     go_frame;try simp only[Nat.reduceAdd]
    refine WRi_out ?_
    clear q0 q1 r0 r1 r2 r3
    refine WR_one 3 rfl (by decide) (by kernel_rfl) rfl (fun K hK=>?_)
    go_simp
    refine(get5_any r _).mono ?_
    rintro e w6 ⟨he,hx6⟩
    subst he
    refine hK _ _ (RB.ext hx6) ?_
    have HX6:=Hd (HX0.out.trans hx6)
    clear hK K hx6
    refine WR_one 6 rfl (by decide) (by kernel_rfl) rfl (fun K hK=>?_)
    go_simp
    refine(HP2.out _).mono ?_
    rintro e w7 ⟨v7,he,ho7,hx7⟩
    subst he
    refine hK _ _ (RB.ext hx7) ?_
    have HX7:=Hd (HX5.out.trans (HX6.out.trans hx7))
    have HY7:=Hd ho7.bs
    have HO7:=Hd (HO5.out.later (HX6.out.trans hx7))
    have HF7:=Hd (HF5.out.later (HX6.out.trans hx7))
    clear hK K hx7 ho7
    obtain⟨a7,c7,e7,-⟩:=HY7.out.form
    subst e7
    have HL7:=Hd (show(rulPre r 2).length+(beN 1 r.act.toNat).length<=1000 by have:=HLN.out 2;have:=HLM.out;rw[beN_len];omega)
    have HE7:=Hd (show rulPre r 3=rulPre r 2++beN 1 r.act.toNat from rfl)
    refine WRi_at 7 ?_
    iterate 4
     refine WRi_q (preRB _) rfl (by decide) (by kernel_rfl) rfl ?_;apply Exists.intro;refine⟨fun w1 hx1=>?_,?_⟩
     ·go_simp;try go_bits
      first|with_reducible rfl|rfl
     go_frame;try simp only[Nat.reduceAdd]
    refine WRi_out ?_
    refine WR_done (by kernel_rfl) ?_
    (try simp only[List.drop_succ_cons,List.drop_zero])
    generalize rulPre r 2=L at*
    generalize beN 1 r.act.toNat=M at*
    go_wp2_with (first
     |(at_builtin;refine wpList_app rfl _ _ 22 rfl W1.heap.size 5 (.int .u8 0) 1 1 Tryz.underlying22 infoU8' rfl (by decide) (by decide) _ _ _ rfl HO7.out _ _ _ rfl HY7.out (ycells_one _) (by have:=HL7.out;omega) HX7.out.size ?_
       intro v8 w8 ho8 hg8;have HO8:=Hd (show OwnY w8 W1.heap.size v8 (rulPre r 3)by rw[HE7.out];unfold OwnY;rw[ycells_app,List.length_append];exact ho8);have HX8:=Hd (Ext.grown HX7.out hg8 HO7.out (Nat.le_refl _));have HF8:=Hd (blk_grownY HF7.out HO7.out (by decide) hg8);clear ho8 hg8))
    go_roundw
    case rel=>exact⟨3,by omega,rfl,HO8,HX8,HF8⟩
    case measure=>simp[intOf]
   ·go_upto_region 5 with fail
    refine hBk wr [I 2,fnV 178,fnV 179] 188 (fun W5 hW5=>?_)
    obtain⟨hx5,hb5⟩:=hW5
    have HX5:=Hd (HX.out.trans hx5)
    have HB5:=Hd hb5
    have HO5:=Hd (HO.out.later hx5)
    have HF5:=Hd (HF.out.later hx5)
    clear hx5 hb5 hfc
    generalize wr.heap.size=gb at*
    have HR5:=Hd (HB1.out.later HX5.out)
    refine wp_region_R (RB (W5.heap.size)) 11 rfl (by kernel_rfl) (by kernel_rfl) (fun w0 hx0=>?_)
    have HX0:=Hd hx0
    have q0:=RB.keep hx0.size HB5.out.lt ((HB5.out.later hx0).cells 0)
    have q1:=RB.keep hx0.size HB5.out.lt ((HB5.out.later hx0).cells 1)
    have r0:=RB.keep hx0.size HR5.out.lt ((HR5.out.later hx0).cells 0)
    have r1:=RB.keep hx0.size HR5.out.lt ((HR5.out.later hx0).cells 1)
    have r2:=RB.keep hx0.size HR5.out.lt ((HR5.out.later hx0).cells 2)
    have r3:=RB.keep hx0.size HR5.out.lt ((HR5.out.later hx0).cells 3)
    clear hx0
    refine WRi_at 0 ?_
    iterate 3
     refine WRi_q (preRB _) rfl (by decide) (by kernel_rfl) rfl ?_;apply Exists.intro;refine⟨fun w1 hx1=>?_,?_⟩
     ·go_simp;try go_bits
      first|with_reducible rfl|rfl
     go_frame;try simp only[Nat.reduceAdd]
    refine WRi_out ?_
    refine WRi_at 4 ?_
    iterate 2
     refine WRi_q (preRB _) rfl (by decide) (by kernel_rfl) rfl ?_;apply Exists.intro;refine⟨fun w1 hx1=>?_,?_⟩
     ·go_simp;try go_bits
      first|with_reducible rfl|rfl
     go_frame;try simp only[Nat.reduceAdd]
    refine WRi_out ?_
    clear q0 q1 r0 r1 r2 r3
    refine WR_one 3 rfl (by decide) (by kernel_rfl) rfl (fun K hK=>?_)
    go_simp
    refine(get7_any r _).mono ?_
    rintro e w6 ⟨he,hx6⟩
    subst he
    refine hK _ _ (RB.ext hx6) ?_
    have HX6:=Hd (HX0.out.trans hx6)
    clear hK K hx6
    refine WR_one 6 rfl (by decide) (by kernel_rfl) rfl (fun K hK=>?_)
    go_simp
    refine(HP3.out _).mono ?_
    rintro e w7 ⟨v7,he,ho7,hx7⟩
    subst he
    refine hK _ _ (RB.ext hx7) ?_
    have HX7:=Hd (HX5.out.trans (HX6.out.trans hx7))
    have HY7:=Hd ho7.bs
    have HO7:=Hd (HO5.out.later (HX6.out.trans hx7))
    have HF7:=Hd (HF5.out.later (HX6.out.trans hx7))
    clear hK K hx7 ho7
    obtain⟨a7,c7,e7,-⟩:=HY7.out.form
    subst e7
    have HL7:=Hd (show(rulPre r 3).length+(beN 2 r.nx.toNat).length<=1000 by have:=HLN.out 3;have:=HLM.out;rw[beN_len];omega)
    have HE7:=Hd (show rulPre r 4=rulPre r 3++beN 2 r.nx.toNat from rfl)
    refine WRi_at 7 ?_
    iterate 4
     refine WRi_q (preRB _) rfl (by decide) (by kernel_rfl) rfl ?_;apply Exists.intro;refine⟨fun w1 hx1=>?_,?_⟩
     ·go_simp;try go_bits
      first|with_reducible rfl|rfl
     go_frame;try simp only[Nat.reduceAdd]
    refine WRi_out ?_
    refine WR_done (by kernel_rfl) ?_
    (try simp only[List.drop_succ_cons,List.drop_zero])
    generalize rulPre r 3=L at*
    generalize beN 2 r.nx.toNat=M at*
    go_wp2_with (first
     |(at_builtin;refine wpList_app rfl _ _ 22 rfl W1.heap.size 5 (.int .u8 0) 1 1 Tryz.underlying22 infoU8' rfl (by decide) (by decide) _ _ _ rfl HO7.out _ _ _ rfl HY7.out (ycells_one _) (by have:=HL7.out;omega) HX7.out.size ?_
       intro v8 w8 ho8 hg8;have HO8:=Hd (show OwnY w8 W1.heap.size v8 (rulPre r 4)by rw[HE7.out];unfold OwnY;rw[ycells_app,List.length_append];exact ho8);have HX8:=Hd (Ext.grown HX7.out hg8 HO7.out (Nat.le_refl _));have HF8:=Hd (blk_grownY HF7.out HO7.out (by decide) hg8);clear ho8 hg8))
    go_roundw
    case rel=>exact⟨4,by omega,rfl,HO8,HX8,HF8⟩
    case measure=>simp[intOf]
  ·obtain rfl:k=4:=by omega
   rw[HA.out]at HO
   go_wp2_with fail
   go_ret2
   exact⟨_,rfl,HO.out.low HX1.out.size,HX1.out.trans HX.out⟩
theorem BsAt.caps{w:World}{a:Option Addr}{n cap:Nat}{l:List Byt}(h:BsAt w (.slice a n cap) l):n=l.length/\n<=cap/\cap<=9223372036854775807:=by
 obtain⟨a',cap',e,q1,q2,_⟩:=h.form
 unfold maxLen at q2
 injection e with e1 e2 e3
 omega
theorem BsAt.dropN{w:World}{a:Option Addr}{n cap j:Nat}{l:List Byt}(h:BsAt w (.slice a n cap) l)(hj:j<=n):BsAt w (sliced a j n cap 1) (l.drop j):=by
 obtain⟨rfl,_,_⟩:=h.caps
 have h1:=h.piece (j:=j) (k:=l.length) hj (Nat.le_refl _)
 rw[List.take_length]at h1
 exact h1
theorem set2_any(rb:Nat)(cs:List Value)(n:Nat)(hn:n<4294967296)(w:World)(hb:Blk w rb cs 39)(hl:cs.length=4):Calls Tryz.prog 173 #[.pointer (some ⟨rb,0,none⟩),I n] w fun e w'=>e=.returned (.tuple #[])/\w'=w.setCell ⟨rb,0,none⟩ (U (BitVec.ofNat 32 n)):=by
 have hc:=hb.cells
 have hf:=hb.frozen
 match cs,hl with
 |[c0,c1,c2,c3],_=>
 go_enter Tryz.func173,Tryz.ntmps173
 go_wp2_with fail
 go_end0
 exact⟨rfl,by rw[show U (BitVec.ofNat 32 n)=Value.int .u32 (n:Int)from by show Value.int .u32 (uv _)=_;unfold uv;rw[BitVec.toNat_ofNat,Nat.mod_eq_of_lt hn]]⟩
theorem set4_any(rb:Nat)(cs:List Value)(n:Nat)(w:World)(hb:Blk w rb cs 39)(hl:cs.length=4):Calls Tryz.prog 175 #[.pointer (some ⟨rb,0,none⟩),I n] w fun e w'=>e=.returned (.tuple #[])/\w'=w.setCell ⟨rb,1,none⟩ (I n):=by
 have hc:=hb.cells
 have hf:=hb.frozen
 match cs,hl with
 |[c0,c1,c2,c3],_=>
 go_enter Tryz.func175,Tryz.ntmps175
 go_wp2_with fail
 go_end0
 exact⟨rfl,rfl⟩
theorem set6_any(rb:Nat)(cs:List Value)(n:Nat)(w:World)(hb:Blk w rb cs 39)(hl:cs.length=4):Calls Tryz.prog 177 #[.pointer (some ⟨rb,0,none⟩),I n] w fun e w'=>e=.returned (.tuple #[])/\w'=w.setCell ⟨rb,2,none⟩ (I n):=by
 have hc:=hb.cells
 have hf:=hb.frozen
 match cs,hl with
 |[c0,c1,c2,c3],_=>
 go_enter Tryz.func177,Tryz.ntmps177
 go_wp2_with fail
 go_end0
 exact⟨rfl,rfl⟩
theorem set8_any(rb:Nat)(cs:List Value)(n:Nat)(w:World)(hb:Blk w rb cs 39)(hl:cs.length=4):Calls Tryz.prog 179 #[.pointer (some ⟨rb,0,none⟩),I n] w fun e w'=>e=.returned (.tuple #[])/\w'=w.setCell ⟨rb,3,none⟩ (I n):=by
 have hc:=hb.cells
 have hf:=hb.frozen
 match cs,hl with
 |[c0,c1,c2,c3],_=>
 go_enter Tryz.func179,Tryz.ntmps179
 go_wp2_with fail
 go_end0
 exact⟨rfl,rfl⟩
def rulPart(l:List Byt):Nat->List Value
 |0=>[U 0#32,I 0,I 0,I 0]
 |1=>[U (rulOf l).pa,I 0,I 0,I 0]
 |2=>[U (rulOf l).pa,I (rulOf l).pl,I 0,I 0]
 |3=>[U (rulOf l).pa,I (rulOf l).pl,I (rulOf l).act,I 0]
 |_=>(rulOf l).cells
def fldAt:Nat->Nat
 |0=>0
 |1=>4
 |2=>5
 |3=>6
 |_=>8
def resR2(l:List Byt):Rul:=if l.length<8 then⟨0#32,0,0,0⟩else rulOf l
def resE2(l:List Byt):Int:=if l.length<8 then 2 else 0
theorem ruleTake_any(v:Value)(l:List Byt)(w:World)(h:BsAt w v l):Calls Tryz.prog 135 #[v] w fun e w'=>e=.returned (.tuple #[(resR2 l).val,I (resE2 l)])/\Ext w w':=by
 have HC:=Hd h
 obtain⟨a,cap,rfl,c1,c2,-⟩:=h.form
 clear h
 unfold maxLen at c2
 by_cases h8:l.length<8
 ·have hd:decide ((l.length:Int)<8)=true:=dT (by omega)
  have HR:=Hd (show resR2 l=⟨0#32,0,0,0⟩/\resE2 l=2 by unfold resR2 resE2;rw[if_pos h8,if_pos h8];exact⟨rfl,rfl⟩)
  go_enter Tryz.func135,Tryz.ntmps135
  go_wp2_with fail
  refine hideW (Φ:=fun W=>bodyPost _ _ _ _ _ W) (fun W=>Ext w W/\Blk W w.heap.size [U 0#32,I 0,I 0,I 0] 39) ⟨by(repeat with_reducible first|exact eR _|assumption|refine eA ?_ _|refine eD ?_|refine eW ?_ _|(refine eS ?_ ?_;focus(first|(simp;done)|(simp;omega)|omega))),Blk.new w [U 0#32,I 0,I 0,I 0] 39⟩ (fun W1 hW1=>?_)
  obtain⟨hx1,hb1⟩:=hW1
  have hrc:=hb1.cells
  refine bodyPost_ret (v:=.tuple #[.agg #[U 0#32,I 0,I 0,I 0],I 2]) (by rw[results_cell_tmp rfl];go_simp) rfl ?_
  exact⟨by rw[HR.out.1,HR.out.2],hx1⟩
 ·have hd:decide ((l.length:Int)<8)=false:=dF (by omega)
  have HR:=Hd (show resR2 l=rulOf l/\resE2 l=0 by unfold resR2 resE2;rw[if_neg h8,if_neg h8];exact⟨rfl,rfl⟩)
  have H8:=Hd (show 8<=l.length by omega)
  clear h8
  go_enter Tryz.func135,Tryz.ntmps135
  go_upto_region 3 with fail
  refine hBk w [U 0#32,I 0,I 0,I 0] 39 (fun W1 hW1=>?_)
  obtain⟨hx1,hb1⟩:=hW1
  have HX1:=Hd hx1
  have HB1:=Hd hb1
  clear hx1 hb1
  go_upto_region 4 with(first
   |(go_at_call 134;(with_reducible refine(fields_any _).mono ?_);rintro e w3 ⟨he,hf,hx⟩;subst he;have HF3:=Hd hf;have HX3:=Hd (HX1.out.trans hx);have HB3:=Hd (HB1.out.later hx);clear hf hx))
  have HNEB:=Hd (show W1.heap.size≠w.heap.size from fun e=>Nat.lt_irrefl _ (e▸HB1.out.lt))
  generalize W1.heap.size=fb at*
  generalize hrb:w.heap.size=rb at*
  go_wp2_with fail
  go_loopw[0,14] (fun v i wr=>∃(k vc n:Nat) (va:Option Addr),k<=4/\i=I k/\v=.slice va n vc/\n+fldAt k=l.length/\Hid (BsAt w (.slice va n vc) (l.drop (fldAt k)))/\Hid (Ext w wr)/\Hid (Blk wr fb fldC 188)/\Hid (Blk wr rb (rulPart l k) 39)) (fun _ i _=>4-(intOf i).toNat)
  case atStart=>exact⟨0,_,_,_,by omega,rfl,rfl,rfl,HC,HX3,HF3,HB3⟩
  case round=>
   obtain⟨k,vc,n,va,hk,rfl,rfl,hn,HV,HX,HF,HB⟩:=hrel
   by_cases hlt:k<4
   ·have hfc:=HF.out.cells
    unfold fldC at hfc
    rcases(show k=0\/k=1\/k=2\/k=3 by omega)with rfl|rfl|rfl|rfl
    ·replace hn:n+0=l.length:=hn
     have hn8:(4:Int)<=(n:Int):=by have:=H8.out;omega
     go_upto_region 6 with fail
     refine hBk wr [I 4,fnV 172,fnV 173] 188 (fun W5 hW5=>?_)
     obtain⟨hx5,hb5⟩:=hW5
     have HX5:=Hd (HX.out.trans hx5)
     have HB5:=Hd hb5
     have HR5:=Hd (HB.out.later hx5)
     have HF5:=Hd (HF.out.later hx5)
     have HNE:=Hd (show wr.heap.size≠rb from fun e=>Nat.lt_irrefl _ (e▸HB.out.lt))
     clear hx5 hb5 hfc
     generalize wr.heap.size=gb at*
     have hgc:=HB5.out.cells
     have HV5:=Hd (HV.out.later HX5.out)
     obtain⟨D,hD⟩:∃D,D=deN ((l.drop 0).take 4):=⟨_,rfl⟩
     have HD:=Hd hD
     have HTK:=Hd (show numTake (l.drop 0) ((4:Nat):Int)=((D:Int),0)from by unfold numTake;rw[if_neg (by omega),if_neg (by rw[List.length_drop];have:=H8.out;omega),Int.toNat_natCast,hD])
     have HNT:=Hd (show∀w',BsAt w' (.slice va n vc) (l.drop 0)->Calls Tryz.prog 123 #[.slice va n vc,.int .i64 4] w' fun e w''=>e=.returned (.tuple #[I (D:Int),I 0])/\Ext w' w'' from fun w' hv=>by have h:=numTake_any _ _ 4 (by decide) w' hv;rw[HTK.out]at h;exact h)
     have HLT:=Hd (show D<256^4 from hD▸deN_lt _ _ (by rw[List.length_take,List.length_drop];have:=H8.out;omega))
     clear hD
     go_upto_region 9 with(first
      |(go_at_call 123;(with_reducible refine(HNT.out _ HV5.out).mono ?_);rintro e w6 ⟨he,hx⟩;subst he;have HX6:=Hd (HX5.out.trans hx);have HR6:=Hd (HR5.out.later hx);have HF6:=Hd (HF5.out.later hx);have HG6:=Hd (HB5.out.later hx);clear hx hgc))
     have hgd:=HG6.out.cells
     have HRC:=Hd (show U (rulOf l).pa=U (BitVec.ofNat 32 D)from by rw[HD.out];rfl)
     go_upto_region 10 with(first
      |(go_at_call 173;(with_reducible refine(set2_any rb _ D HLT.out _ HR6.out rfl).mono ?_);rintro e w8 ⟨he,hw⟩;have HX8:=Hd (show Ext w w8 from by rw[hw];exact HX6.out.setCell (Nat.le_of_eq hrb) _);have HF8:=Hd (show Blk w8 fb fldC 188 from by rw[hw];exact HF6.out.other (Ne.symm HNEB.out) _);have HG8:=Hd (show Blk w8 gb [I 4,fnV 172,fnV 173] 188 from by rw[hw];exact HG6.out.other (Ne.symm HNE.out) _);have HR8:=Hd (show Blk w8 rb (rulPart l 1) 39 from by rw[hw,<-HRC.out];exact HR6.out.set 0 _);subst he;clear hw))
     clear hgd
     have hge:=HG8.out.cells
     have hvn:(n:Int)<=(vc:Int):=by have:=HV.out.caps;omega
     have HVD:=Hd (show BsAt w (sliced va 4 n vc 1) (l.drop 4)from by have h:=HV.out.dropN (j:=4) (by omega);rw[List.drop_drop]at h;exact h)
     go_wp2_with fail
     go_roundw
     case rel=>exact⟨1,_,_,_,by omega,rfl,rfl,(by show n-4+4=l.length;omega),HVD,HX8,HF8,HR8⟩
     case measure=>simp[intOf]
    ·replace hn:n+4=l.length:=hn
     have hn8:(1:Int)<=(n:Int):=by have:=H8.out;omega
     go_upto_region 6 with fail
     refine hBk wr [I 1,fnV 174,fnV 175] 188 (fun W5 hW5=>?_)
     obtain⟨hx5,hb5⟩:=hW5
     have HX5:=Hd (HX.out.trans hx5)
     have HB5:=Hd hb5
     have HR5:=Hd (HB.out.later hx5)
     have HF5:=Hd (HF.out.later hx5)
     have HNE:=Hd (show wr.heap.size≠rb from fun e=>Nat.lt_irrefl _ (e▸HB.out.lt))
     clear hx5 hb5 hfc
     generalize wr.heap.size=gb at*
     have hgc:=HB5.out.cells
     have HV5:=Hd (HV.out.later HX5.out)
     obtain⟨D,hD⟩:∃D,D=deN ((l.drop 4).take 1):=⟨_,rfl⟩
     have HD:=Hd hD
     have HTK:=Hd (show numTake (l.drop 4) ((1:Nat):Int)=((D:Int),0)from by unfold numTake;rw[if_neg (by omega),if_neg (by rw[List.length_drop];have:=H8.out;omega),Int.toNat_natCast,hD])
     have HNT:=Hd (show∀w',BsAt w' (.slice va n vc) (l.drop 4)->Calls Tryz.prog 123 #[.slice va n vc,.int .i64 1] w' fun e w''=>e=.returned (.tuple #[I (D:Int),I 0])/\Ext w' w'' from fun w' hv=>by have h:=numTake_any _ _ 1 (by decide) w' hv;rw[HTK.out]at h;exact h)
     have HLT:=Hd (show D<256^1 from hD▸deN_lt _ _ (by rw[List.length_take,List.length_drop];have:=H8.out;omega))
     clear hD
     go_upto_region 9 with(first
      |(go_at_call 123;(with_reducible refine(HNT.out _ HV5.out).mono ?_);rintro e w6 ⟨he,hx⟩;subst he;have HX6:=Hd (HX5.out.trans hx);have HR6:=Hd (HR5.out.later hx);have HF6:=Hd (HF5.out.later hx);have HG6:=Hd (HB5.out.later hx);clear hx hgc))
     have hgd:=HG6.out.cells
     have HRC:=Hd (show I (rulOf l).pl=I (D:Int)from by rw[HD.out];rfl)
     go_upto_region 10 with(first
      |(go_at_call 175;(with_reducible refine(set4_any rb _ D _ HR6.out rfl).mono ?_);rintro e w8 ⟨he,hw⟩;have HX8:=Hd (show Ext w w8 from by rw[hw];exact HX6.out.setCell (Nat.le_of_eq hrb) _);have HF8:=Hd (show Blk w8 fb fldC 188 from by rw[hw];exact HF6.out.other (Ne.symm HNEB.out) _);have HG8:=Hd (show Blk w8 gb [I 1,fnV 174,fnV 175] 188 from by rw[hw];exact HG6.out.other (Ne.symm HNE.out) _);have HR8:=Hd (show Blk w8 rb (rulPart l 2) 39 from by rw[hw,<-HRC.out];exact HR6.out.set 1 _);subst he;clear hw))
     clear hgd
     have hge:=HG8.out.cells
     have hvn:(n:Int)<=(vc:Int):=by have:=HV.out.caps;omega
     have HVD:=Hd (show BsAt w (sliced va 1 n vc 1) (l.drop 5)from by have h:=HV.out.dropN (j:=1) (by omega);rw[List.drop_drop]at h;exact h)
     go_wp2_with fail
     go_roundw
     case rel=>exact⟨2,_,_,_,by omega,rfl,rfl,(by show n-1+5=l.length;omega),HVD,HX8,HF8,HR8⟩
     case measure=>simp[intOf]
    ·replace hn:n+5=l.length:=hn
     have hn8:(1:Int)<=(n:Int):=by have:=H8.out;omega
     go_upto_region 6 with fail
     refine hBk wr [I 1,fnV 176,fnV 177] 188 (fun W5 hW5=>?_)
     obtain⟨hx5,hb5⟩:=hW5
     have HX5:=Hd (HX.out.trans hx5)
     have HB5:=Hd hb5
     have HR5:=Hd (HB.out.later hx5)
     have HF5:=Hd (HF.out.later hx5)
     have HNE:=Hd (show wr.heap.size≠rb from fun e=>Nat.lt_irrefl _ (e▸HB.out.lt))
     clear hx5 hb5 hfc
     generalize wr.heap.size=gb at*
     have hgc:=HB5.out.cells
     have HV5:=Hd (HV.out.later HX5.out)
     obtain⟨D,hD⟩:∃D,D=deN ((l.drop 5).take 1):=⟨_,rfl⟩
     have HD:=Hd hD
     have HTK:=Hd (show numTake (l.drop 5) ((1:Nat):Int)=((D:Int),0)from by unfold numTake;rw[if_neg (by omega),if_neg (by rw[List.length_drop];have:=H8.out;omega),Int.toNat_natCast,hD])
     have HNT:=Hd (show∀w',BsAt w' (.slice va n vc) (l.drop 5)->Calls Tryz.prog 123 #[.slice va n vc,.int .i64 1] w' fun e w''=>e=.returned (.tuple #[I (D:Int),I 0])/\Ext w' w'' from fun w' hv=>by have h:=numTake_any _ _ 1 (by decide) w' hv;rw[HTK.out]at h;exact h)
     have HLT:=Hd (show D<256^1 from hD▸deN_lt _ _ (by rw[List.length_take,List.length_drop];have:=H8.out;omega))
     clear hD
     go_upto_region 9 with(first
      |(go_at_call 123;(with_reducible refine(HNT.out _ HV5.out).mono ?_);rintro e w6 ⟨he,hx⟩;subst he;have HX6:=Hd (HX5.out.trans hx);have HR6:=Hd (HR5.out.later hx);have HF6:=Hd (HF5.out.later hx);have HG6:=Hd (HB5.out.later hx);clear hx hgc))
     have hgd:=HG6.out.cells
     have HRC:=Hd (show I (rulOf l).act=I (D:Int)from by rw[HD.out];rfl)
     go_upto_region 10 with(first
      |(go_at_call 177;(with_reducible refine(set6_any rb _ D _ HR6.out rfl).mono ?_);rintro e w8 ⟨he,hw⟩;have HX8:=Hd (show Ext w w8 from by rw[hw];exact HX6.out.setCell (Nat.le_of_eq hrb) _);have HF8:=Hd (show Blk w8 fb fldC 188 from by rw[hw];exact HF6.out.other (Ne.symm HNEB.out) _);have HG8:=Hd (show Blk w8 gb [I 1,fnV 176,fnV 177] 188 from by rw[hw];exact HG6.out.other (Ne.symm HNE.out) _);have HR8:=Hd (show Blk w8 rb (rulPart l 3) 39 from by rw[hw,<-HRC.out];exact HR6.out.set 2 _);subst he;clear hw))
     clear hgd
     have hge:=HG8.out.cells
     have hvn:(n:Int)<=(vc:Int):=by have:=HV.out.caps;omega
     have HVD:=Hd (show BsAt w (sliced va 1 n vc 1) (l.drop 6)from by have h:=HV.out.dropN (j:=1) (by omega);rw[List.drop_drop]at h;exact h)
     go_wp2_with fail
     go_roundw
     case rel=>exact⟨3,_,_,_,by omega,rfl,rfl,(by show n-1+6=l.length;omega),HVD,HX8,HF8,HR8⟩
     case measure=>simp[intOf]
    ·replace hn:n+6=l.length:=hn
     have hn8:(2:Int)<=(n:Int):=by have:=H8.out;omega
     go_upto_region 6 with fail
     refine hBk wr [I 2,fnV 178,fnV 179] 188 (fun W5 hW5=>?_)
     obtain⟨hx5,hb5⟩:=hW5
     have HX5:=Hd (HX.out.trans hx5)
     have HB5:=Hd hb5
     have HR5:=Hd (HB.out.later hx5)
     have HF5:=Hd (HF.out.later hx5)
     have HNE:=Hd (show wr.heap.size≠rb from fun e=>Nat.lt_irrefl _ (e▸HB.out.lt))
     clear hx5 hb5 hfc
     generalize wr.heap.size=gb at*
     have hgc:=HB5.out.cells
     have HV5:=Hd (HV.out.later HX5.out)
     obtain⟨D,hD⟩:∃D,D=deN ((l.drop 6).take 2):=⟨_,rfl⟩
     have HD:=Hd hD
     have HTK:=Hd (show numTake (l.drop 6) ((2:Nat):Int)=((D:Int),0)from by unfold numTake;rw[if_neg (by omega),if_neg (by rw[List.length_drop];have:=H8.out;omega),Int.toNat_natCast,hD])
     have HNT:=Hd (show∀w',BsAt w' (.slice va n vc) (l.drop 6)->Calls Tryz.prog 123 #[.slice va n vc,.int .i64 2] w' fun e w''=>e=.returned (.tuple #[I (D:Int),I 0])/\Ext w' w'' from fun w' hv=>by have h:=numTake_any _ _ 2 (by decide) w' hv;rw[HTK.out]at h;exact h)
     have HLT:=Hd (show D<256^2 from hD▸deN_lt _ _ (by rw[List.length_take,List.length_drop];have:=H8.out;omega))
     clear hD
     go_upto_region 9 with(first
      |(go_at_call 123;(with_reducible refine(HNT.out _ HV5.out).mono ?_);rintro e w6 ⟨he,hx⟩;subst he;have HX6:=Hd (HX5.out.trans hx);have HR6:=Hd (HR5.out.later hx);have HF6:=Hd (HF5.out.later hx);have HG6:=Hd (HB5.out.later hx);clear hx hgc))
     have hgd:=HG6.out.cells
     have HRC:=Hd (show I (rulOf l).nx=I (D:Int)from by rw[HD.out];rfl)
     go_upto_region 10 with(first
      |(go_at_call 179;(with_reducible refine(set8_any rb _ D _ HR6.out rfl).mono ?_);rintro e w8 ⟨he,hw⟩;have HX8:=Hd (show Ext w w8 from by rw[hw];exact HX6.out.setCell (Nat.le_of_eq hrb) _);have HF8:=Hd (show Blk w8 fb fldC 188 from by rw[hw];exact HF6.out.other (Ne.symm HNEB.out) _);have HG8:=Hd (show Blk w8 gb [I 2,fnV 178,fnV 179] 188 from by rw[hw];exact HG6.out.other (Ne.symm HNE.out) _);have HR8:=Hd (show Blk w8 rb (rulPart l 4) 39 from by rw[hw,<-HRC.out];exact HR6.out.set 3 _);subst he;clear hw))
     clear hgd
     have hge:=HG8.out.cells
     have hvn:(n:Int)<=(vc:Int):=by have:=HV.out.caps;omega
     have HVD:=Hd (show BsAt w (sliced va 2 n vc 1) (l.drop 8)from by have h:=HV.out.dropN (j:=2) (by omega);rw[List.drop_drop]at h;exact h)
     go_wp2_with fail
     go_roundw
     case rel=>exact⟨4,_,_,_,by omega,rfl,rfl,(by show n-2+8=l.length;omega),HVD,HX8,HF8,HR8⟩
     case measure=>simp[intOf]
   ·obtain rfl:k=4:=by omega
    have hrc:=HB.out.cells
    unfold rulPart at hrc
    have hrf:=HB.out.frozen
    have HXE:=Hd (show∀a b c d:Value,Ext w ((((wr.setCell ⟨rb,0,none⟩ a).setCell ⟨rb,1,none⟩ b).setCell ⟨rb,2,none⟩ c).setCell ⟨rb,3,none⟩ d)from fun a b c d=>(((HX.out.setCell (Nat.le_of_eq hrb) a).setCell (Nat.le_of_eq hrb) b).setCell (Nat.le_of_eq hrb) c).setCell (Nat.le_of_eq hrb) d)
    have HBE:=Hd ((((HB.out.set 0 (U (rulOf l).pa)).set 1 (I (rulOf l).pl)).set 2 (I (rulOf l).act)).set 3 (I (rulOf l).nx))
    unfold rulPart at HBE
    generalize rulOf l=R at*
    go_wp2_with fail
    refine hideW (Φ:=fun W=>bodyPost _ _ _ _ _ W) (fun W=>Ext w W/\Blk W rb R.cells 39) ⟨HXE.out _ _ _ _,HBE.out⟩ (fun W1 hW1=>?_)
    obtain⟨hx1,hb1⟩:=hW1
    have hrc:=hb1.cells
    refine bodyPost_ret (v:=.tuple #[R.val,I 0]) (by rw[results_cell_tmp rfl];go_simp) rfl ?_
    exact⟨by rw[HR.out.1,HR.out.2],hx1⟩
def OpenedY(w:World)(r:Except Int (List Byt × List Byt))(e:Ending)(w':World):Prop:=
 (match r with
  | .ok p=>∃u v,e=.returned (.tuple #[u,v,I 0])/\OwnY w' w.heap.size u p.1/\OwnY w' w.heap.size v p.2
  | .error z=>z≠0/\e=.returned (.tuple #[.slice none 0 0,.slice none 0 0,I z]))/\Ext w w'
theorem gtake_used{l:List Byt}(h:(gtake l).2.2=0):(gtake l).2.1<=l.length/\(gtake l).1<268435456:=by
 have hg:gtake l=((gtake l).1,(gtake l).2.1,0):=by rw[<-h]
 obtain⟨e1,e2,e3,e4⟩:=gput_gtake hg
 refine⟨?_,e2⟩
 have:=congrArg List.length e4
 rw[List.length_take,gput_len]at this
 omega
theorem addr_add(x:Addr){j:Nat}(h:0<j):x.add j=⟨x.block,x.off+j,none⟩:=by
 unfold Addr.add
 split
 ·omega
 ·rfl
theorem frameOpen_any(t:Byt)(v:Value)(l:List Byt)(w:World)(h:BsAt w v l)(hl:l.length<=1000000000):Calls Tryz.prog 88 #[Y t,v] w (OpenedY w (openL t l)):=by
 have HC:=Hd h
 obtain⟨a,cap,rfl,c1,c2,hc⟩:=h.form
 clear h
 unfold maxLen at c2
 cases l with
 |nil=>
  have HR:=Hd (show openL t []=.error 2 from rfl)
  clear hc
  go_enter Tryz.func88,Tryz.ntmps88
  go_wp2_with fail
  go_ret3
  rw[HR.out]
  exact⟨⟨by decide,rfl⟩,eR _⟩
 |cons c r=>
  obtain⟨b,off,rfl,hc0⟩:=hc 0 c rfl
  rw[Nat.add_zero]at hc0
  clear hc
  have hn0:(((r.length+1:Nat):Int)==0)=false:=by rw[beq_eq_false_iff_ne];omega
  have HB:=Hd (show BsAt w (sliced (some ⟨b,off,none⟩) 1 (r.length+1) cap 1) r from BsAt.dropN (j:=1) HC.out (Nat.succ_le_succ (Nat.zero_le _)))
  by_cases hct:c=t
  ·subst hct
   have hcb:(c !=c)=false:=by simp
   have hn1:(1:Int)<=((r.length+1:Nat):Int):=by omega
   simp only[List.length_cons]at c1 hl
   by_cases hc1:cap=1
   ·subst hc1
    obtain rfl:r=[]:=List.eq_nil_of_length_eq_zero (by omega)
    have HB2:=Hd (show BsAt w (.slice (some ⟨b,off,none⟩) 0 0) []from HB.out)
    have HR:=Hd (show openL c [c]=.error 2 by unfold openL;simp only;rw[if_neg (by simp)];rfl)
    have HG:=Hd (show gtake []=(0,0,2)from rfl)
    go_enter Tryz.func88,Tryz.ntmps88
    go_upto_region 6 with(first
     |(go_at_call 87;(with_reducible refine(groupTake_any _ _ _ HB2.out).mono ?_);rintro e w1 ⟨he,hx⟩;rw[HG.out]at he;subst he;have HX1:=Hd hx;clear hx))
    go_wp2_with fail
    go_ret3
    rw[HR.out]
    exact⟨⟨by decide,rfl⟩,HX1.out⟩
   ·have HB2:=Hd (show BsAt w (.slice (some ⟨b,off+1,none⟩) r.length (cap-1)) r from by
     have h:=HB.out
     unfold sliced at h
     rw[if_neg hc1]at h
     exact h)
    have hcn:((r.length+1:Nat):Int)<=(cap:Int):=by omega
    by_cases hg:(gtake r).2.2=0
    ·obtain⟨hu,hgl⟩:=gtake_used hg
     have HBU:=Hd (show BsAt w (sliced (some ⟨b,off,none⟩) (1+(gtake r).2.1) (r.length+1) cap 1) (r.drop (gtake r).2.1)from by
      have h:=BsAt.dropN (j:=1+(gtake r).2.1) HC.out (by simp only[List.length_cons];omega)
      rw[Nat.add_comm,List.drop_succ_cons,Nat.add_comm]at h
      exact h)
     have HGR:=Hd (show gtake r=((gtake r).1,(gtake r).2.1,0)by rw[<-hg])
     have HO:=Hd (show openL c (c::r)=if(r.drop (gtake r).2.1).length<(gtake r).1 then .error 2 else .ok ((r.drop (gtake r).2.1).take (gtake r).1,(r.drop (gtake r).2.1).drop (gtake r).1)by
      conv=>lhs;unfold openL
      simp only
      rw[if_neg (by simp),if_neg (by simp[hg])])
     generalize (gtake r).1=cnt at*
     generalize (gtake r).2.1=us at*
     clear hg
     go_enter Tryz.func88,Tryz.ntmps88
     go_upto_region 6 with(first
      |(go_at_call 87;(with_reducible refine(groupTake_any _ _ _ HB2.out).mono ?_);rintro e w1 ⟨he,hx⟩;rw[HGR.out]at he;subst he;have HX1:=Hd hx;clear hx))
     go_upto_region 9 with fail
     have HV:=Hd (show BsAt w1 (.slice (if cap=1+us then some ⟨b,off,none⟩else some ⟨b,off+(1+us),none⟩) (r.length+1-(1+us)) (cap-(1+us))) (r.drop us)from by
      have h:=HBU.out.later HX1.out
      unfold sliced at h
      rw[Nat.mul_one]at h
      have e:Option.map (fun x:Addr=>x.add (1+us)) (some ⟨b,off,none⟩)=some ⟨b,off+(1+us),none⟩:=by rw[Option.map_some,addr_add _ (by omega)]
      rw[e]at h
      exact h)
     have HN:=Hd (show r.length+1-(1+us)=(r.drop us).length by rw[List.length_drop];omega)
     have hcap:=HV.out.caps
     clear hc1 hcn hn1 c1 hc0
     generalize (if cap=1+us then some (⟨b,off,none⟩:Addr)else some ⟨b,off+(1+us),none⟩)=va at*
     generalize r.length+1-(1+us)=n at*
     generalize cap-(1+us)=vc at*
     have HL:=Hd (show(r.drop us).length<=1000000000 by rw[List.length_drop];omega)
     generalize r.drop us=L at*
     obtain⟨hnl,hnc,hcm⟩:=hcap
     by_cases hlt:n<cnt
     ·have hd:decide ((n:Int)<(cnt:Int))=true:=dT (by omega)
      rw[if_pos (by rw[<-HN.out];exact hlt)]at HO
      go_wp2_with fail
      go_ret3
      rw[HO.out]
      exact⟨⟨by decide,rfl⟩,HX1.out⟩
     ·have hd:decide ((n:Int)<(cnt:Int))=false:=dF (by omega)
      rw[if_neg (by rw[<-HN.out];exact hlt)]at HO
      go_upto_region 11 with fail
      have HD:=Hd (show BsAt w1 (.slice (if vc=cnt then va else Option.map (fun x=>x.add cnt) va) (L.length-cnt) (vc-cnt)) (L.drop cnt)from by
       have h:=HV.out.dropN (j:=cnt) (by omega)
       unfold sliced at h
       rw[Nat.mul_one,HN.out]at h;exact h)
      have HT:=Hd (show BsAt w1 (.slice va cnt cnt) (L.take cnt)from HV.out.cut (Nat.le_refl _) (by omega) (by omega))
      have hcl:cnt<=L.length:=by omega
      have hcn:(cnt:Int)<=(n:Int):=by omega
      have hcc:(cnt:Int)<=(vc:Int):=by omega
      refine wp_region_R (RB (w1.heap.size)) 11 rfl (by kernel_rfl) (by kernel_rfl) (fun w0 hx0=>?_)
      have HX0:=Hd hx0
      clear hx0
      refine WRi_at 0 ?_
      iterate 4
       refine WRi_q (preRB _) rfl (by decide) (by kernel_rfl) rfl ?_;apply Exists.intro;refine⟨fun w1 hx1=>?_,?_⟩
       ·go_simp;try go_bits
        first|with_reducible rfl|rfl
       go_frame;try simp only[Nat.reduceAdd]
      refine WRi_out ?_
      refine WRi_at 5 ?_
      iterate 3
       refine WRi_q (preRB _) rfl (by decide) (by kernel_rfl) rfl ?_;apply Exists.intro;refine⟨fun w1 hx1=>?_,?_⟩
       ·go_simp;try go_bits
        first|with_reducible rfl|rfl
       go_frame;try simp only[Nat.reduceAdd]
      refine WRi_out ?_
      refine WR_one 4 rfl (by decide) (by kernel_rfl) rfl (fun K hK=>?_)
      go_simp
      (with_reducible refine(frameOwn_any _ _ _ (HT.out.later HX0.out) (by rw[List.length_take];have:=HL.out;omega)).mono ?_)
      rintro e w2 ⟨u2,he,ho2,hx2⟩
      subst he
      refine hK _ _ (RB.ext hx2) ?_
      have HX2:=Hd (HX0.out.trans hx2)
      have HO2:=Hd (ho2.low HX0.out.size)
      clear hK K hx2 ho2
      refine WR_one 8 rfl (by decide) (by kernel_rfl) rfl (fun K hK=>?_)
      go_simp
      (with_reducible refine(frameOwn_any _ _ _ (HD.out.later HX2.out) (by rw[List.length_drop];have:=HL.out;omega)).mono ?_)
      rintro e w3 ⟨u3,he,ho3,hx3⟩
      subst he
      refine hK _ _ (RB.ext hx3) ?_
      have HX3:=Hd (HX1.out.trans (HX2.out.trans hx3))
      have HO3:=Hd ((ho3.low HX2.out.size).low HX1.out.size)
      have HP3:=Hd ((HO2.out.later hx3).low HX1.out.size)
      clear hK K hx3 ho3
      obtain⟨a2,c2',e2⟩:=HP3.out.form
      obtain⟨a3,c3',e3⟩:=HO3.out.form
      rw[List.length_take,Nat.min_eq_left hcl]at e2
      rw[List.length_drop]at e3
      subst e2 e3
      refine WRi_at 9 ?_
      iterate 2
       refine WRi_q (preRB _) rfl (by decide) (by kernel_rfl) rfl ?_;apply Exists.intro;refine⟨fun w1 hx1=>?_,?_⟩
       ·go_simp;try go_bits
        first|with_reducible rfl|rfl
       go_frame;try simp only[Nat.reduceAdd]
      refine WRi_out ?_
      refine WR_done (by kernel_rfl) ?_
      (try simp only[List.drop_succ_cons,List.drop_zero])
      go_wp2_with fail
      all_goals
       go_ret3
       rw[HO.out]
       exact⟨⟨_,_,rfl,HP3.out,HO3.out⟩,HX3.out⟩
    ·have HO:=Hd (show openL c (c::r)=.error (gtake r).2.2 by
      conv=>lhs;unfold openL
      simp only
      rw[if_neg (by simp),if_pos hg])
     obtain⟨z,hz⟩:∃z,z=(gtake r).2.2:=⟨_,rfl⟩
     rw[<-hz]at HO hg
     have HZ:=Hd hz
     have HG:=Hd hg
     have hgb:(z !=0)=true:=by simp[hg]
     clear hg hz
     go_enter Tryz.func88,Tryz.ntmps88
     go_upto_region 6 with(first
      |(go_at_call 87;(with_reducible refine(groupTake_any _ _ _ HB2.out).mono ?_);rintro e w1 ⟨he,hx⟩;rw[<-HZ.out]at he;subst he;have HX1:=Hd hx;clear hx))
     go_wp2_with fail
     go_ret3
     rw[HO.out]
     exact⟨⟨HG.out,rfl⟩,HX1.out⟩
  ·have HR:=Hd (show openL t (c::r)=.error 3 by unfold openL;simp only;rw[if_pos hct])
   have hcb:(c !=t)=true:=by simp[hct]
   go_enter Tryz.func88,Tryz.ntmps88
   go_wp2_with fail
   go_ret3
   rw[HR.out]
   exact⟨⟨by decide,rfl⟩,eR _⟩
end Go.Proofs.YtjflkifodfncmaaGreatDoor
