/- The law CheckFirst: which one of several things that are wrong is told. Conditions: none. -/
import Derived.Test.YtpfkfboohblgoaaGShort
import Derived.Test.YtpfkfboohblgoaaFirstL
namespace Go.Proofs.Ytpfkfboohblgoaa
open Go Go.RowKit Go.Maps Go.Proofs

theorem reads_blk {W : World} {b s n : Nat} {cs : List Value} {T : TypeId} (h : Blk W b cs T) (hn : cs.length = n * s) (hm : n ≤ maxLen) : Reads W s (.slice (some ⟨b, 0, none⟩) n n) n cs := by
  refine ⟨hn, _, n, rfl, Nat.le_refl _, hm, fun e => (by cases e), fun p hp => ?_⟩
  cases hp
  refine ⟨.inl rfl, fun j u hj => ?_⟩
  rw [Nat.zero_add, h.cells]; exact hj
/-- What lies there while the network and the certificate are made. -/
structure FirS (w0 W : World) (M h : Nat) (nx r : Int) (d : BitVec 32) (z : Int × Int) : Prop where
  ext : Ext w0 W
  at0 : w0.heap.size = h
  net : Blk W h (.slice (some ⟨h + 2, 0, none⟩) 1 1 :: List.replicate (M - 1) (.slice none 0 0)) 45
  box : Blk W (h + 1) [.slice (some ⟨h, 0, none⟩) M M] 24
  rule : Blk W (h + 2) [U 0#32, I 0, I 1, I nx] 44
  rk : Blk W (h + 3) (icells (firR M r)) 3
  part : Blk W (h + 4) [U 0#32, U 4294967295#32, .slice (some ⟨h + 3, 0, none⟩) M M] 35
  cert : Blk W (h + 5) [I 1, .slice (some ⟨h + 4, 0, none⟩) 1 1, U d, .slice none 0 0] 29
  ans : Blk W (h + 6) [I z.1, I z.2] 40
theorem FirS.later {w0 W W' : World} {M h : Nat} {nx r : Int} {d : BitVec 32} {z : Int × Int} (s : FirS w0 W M h nx r d z) (hx : Ext W W') : FirS w0 W' M h nx r d z :=
  ⟨s.ext.trans hx, s.at0, s.net.later hx, s.box.later hx, s.rule.later hx, s.rk.later hx, s.part.later hx, s.cert.later hx, s.ans.later hx⟩
abbrev firP (M h : Nat) : Prt := ⟨0#32, 4294967295#32, some ⟨h + 3, 0, none⟩, M, M⟩
theorem FirS.tables {w0 W : World} {M h t : Nat} {r : Int} {d : BitVec 32} {z : Int × Int} (s : FirS w0 W M h t r d z) (hM : 0 < M) (h64 : M ≤ 64) : TablesAt W (.slice (some ⟨h, 0, none⟩) M M) (firN M t) := by
  have hl : (firN M t).length = M := by unfold firN; exact oneN_len ..
  have hr := reads_blk (s := 1) (n := M) s.net (by simp; omega) (by unfold maxLen; omega)
  refine ⟨_, by rw [hl]; exact hr, fun i l hi => ?_⟩
  have hil := (List.getElem?_eq_some_iff.1 hi).1
  rw [hl] at hil
  unfold firN oneN noN at hi
  rw [List.getElem?_set] at hi
  cases i with
  | zero =>
    rw [if_pos rfl, if_pos (by simpa using hM)] at hi
    cases hi
    exact ⟨_, rfl, reads_blk (s := 4) (n := 1) s.rule rfl (by unfold maxLen; omega)⟩
  | succ i =>
    rw [if_neg (by omega), List.getElem?_replicate, if_pos hil] at hi
    cases hi
    refine ⟨.slice none 0 0, by rw [List.getElem?_cons_succ, List.getElem?_replicate, if_pos (by omega)], Reads.nil _ 4⟩
theorem FirS.at {w0 W : World} {M h : Nat} {nx r : Int} {d : BitVec 32} {z : Int × Int} (s : FirS w0 W M h nx r d z) (h64 : M ≤ 64) : CertAt W (.slice (some ⟨h + 4, 0, none⟩) 1 1) (.slice none 0 0) ⟨1, [firP M h], [firR M r], d, []⟩ := by
  refine ⟨reads_blk (s := 3) (n := 1) s.part rfl (by unfold maxLen; omega), rfl, fun i p q hi hq => ?_, Reads.nil _ 1⟩
  have hi0 := (List.getElem?_eq_some_iff.1 hi).1
  obtain rfl : i = 0 := by simp at hi0; omega
  cases hi
  cases hq
  have hr := reads_blk (s := 1) (n := M) s.rk (by rw [icells_len, firR_len]; simp) (by unfold maxLen; omega)
  unfold IntsAt
  rw [firR_len]; exact hr
theorem icells_fir (M : Nat) (r : Int) : icells (firR M r) = (List.replicate M (I 0)).set 0 (I r) := by
  unfold icells firR
  rw [List.map_set, List.map_replicate]
theorem fir_set {M : Nat} {r q : Int} : (icells (firR M r)).set 0 (I q) = icells (firR M q) := by
  rw [icells_fir, icells_fir, List.set_set]
theorem FirS.setAns {w0 W : World} {M h : Nat} {nx r : Int} {d : BitVec 32} {z : Int × Int} (s : FirS w0 W M h nx r d z) (p q : Int) : FirS w0 ((W.setCell ⟨h + 6, 0, none⟩ (I p)).setCell ⟨h + 6, 1, none⟩ (I q)) M h nx r d (p, q) := by
  have h0 := s.at0
  exact ⟨(s.ext.setCell (by simp; omega) _).setCell (by simp; omega) _, h0, (s.net.other (by simp) _).other (by simp) _, (s.box.other (by simp) _).other (by simp) _, (s.rule.other (by simp) _).other (by simp) _, (s.rk.other (by simp) _).other (by simp) _,
    (s.part.other (by simp) _).other (by simp) _, (s.cert.other (by simp) _).other (by simp) _, (s.ans.set 0 _).set 1 _⟩
theorem FirS.setRk {w0 W : World} {M h : Nat} {nx r : Int} {d : BitVec 32} {z : Int × Int} (s : FirS w0 W M h nx r d z) (q : Int) : FirS w0 (W.setCell ⟨h + 3, 0, none⟩ (I q)) M h nx q d z := by
  have h0 := s.at0
  exact ⟨s.ext.setCell (by simp; omega) _, h0, s.net.other (by simp) _, s.box.other (by simp) _, s.rule.other (by simp) _, by rw [← fir_set (r := r)]; exact s.rk.set 0 _, s.part.other (by simp) _, s.cert.other (by simp) _, s.ans.other (by simp) _⟩
theorem FirS.setDest {w0 W : World} {M h : Nat} {nx r : Int} {d : BitVec 32} {z : Int × Int} (s : FirS w0 W M h nx r d z) (e : BitVec 32) : FirS w0 (W.setCell ⟨h + 5, 2, none⟩ (U e)) M h nx r e z := by
  have h0 := s.at0
  exact ⟨s.ext.setCell (by simp; omega) _, h0, s.net.other (by simp) _, s.box.other (by simp) _, s.rule.other (by simp) _, s.rk.other (by simp) _, s.part.other (by simp) _, s.cert.set 2 _, s.ans.other (by simp) _⟩
theorem FirS.setNx {w0 W : World} {M h : Nat} {nx r : Int} {d : BitVec 32} {z : Int × Int} (s : FirS w0 W M h nx r d z) (q : Int) : FirS w0 (W.setCell ⟨h + 2, 3, none⟩ (I q)) M h q r d z := by
  have h0 := s.at0
  exact ⟨s.ext.setCell (by simp; omega) _, h0, s.net.other (by simp) _, s.box.other (by simp) _, s.rule.set 3 _, s.rk.other (by simp) _, s.part.other (by simp) _, s.cert.other (by simp) _, s.ans.other (by simp) _⟩
theorem FirS.rk0 {w0 W : World} {M h : Nat} {nx r : Int} {d : BitVec 32} {z : Int × Int} (s : FirS w0 W M h nx r d z) (hM : 0 < M) : W.cell? ⟨h + 3, 0, none⟩ = some (I r) := by
  rw [s.rk.cells, icells_fir, List.getElem?_set, if_pos rfl, if_pos (by rw [List.length_replicate]; exact hM)]
theorem or_one_ne (a : BitVec 32) : a ||| 1#32 ≠ 0#32 := fun h => by
  have := congrArg (fun x => x.getLsbD 0) h
  simp at this
set_option maxHeartbeats 4000000 in
set_option maxRecDepth 100000 in
theorem checkFirst_any (x y : Nat) (a : BitVec 32) (w : World) :
    Calls Try.prog 4 #[.int .u8 (x : Int), .int .u8 (y : Int), U a] w fun e w' => e = .returned (.bool true) ∧ Ext w w' := by
  go_enter Try.func4, Try.ntmps4
  go_upto_region 2 with (first
    | (go_at_call 15; (with_reducible refine (shown20_any _).mono ?_); rintro e w2 ⟨rfl, hx2⟩; have HX2 := Lib.hid hx2; clear hx2))
  go_upto_region 3 with (fail)
  have e1 : 1 + (y : Int) % 16 = ((1 + y % 16 : Nat) : Int) := by omega
  rw [e1]
  generalize hM : 1 + y % 16 = M
  have hM1 : 1 ≤ M ∧ M ≤ 16 := by omega
  clear e1 hM
  have hmk := fun w => run_make_row' (P := Try.prog) 22 45 (.slice none 0 0) 24 Try.underlying22 infoRules rfl .i64 .i64 M (by omega) (by omega) w
  have hmi := fun w => run_make_row' (P := Try.prog) 27 3 (I 0) 8 Try.underlying27 infoInt rfl .i64 .i64 M (by omega) (by omega) w
  go_upto_region 4 with (fail)
  refine hideW (Φ := fun W => Code.wp _ _ _ _ W) (fun W => Ext w2 W ∧ Blk W w2.heap.size (List.replicate M (.slice none 0 0)) 45 ∧ Blk W (w2.heap.size + 1) [.slice (some ⟨w2.heap.size, 0, none⟩) M M] 24 ∧ W.heap.size = w2.heap.size + 2)
    ⟨by (repeat (first | with_reducible exact Ext.refl _ | with_reducible assumption | with_reducible refine Ext.alloc ?_ _ | with_reducible refine Ext.drew ?_ | with_reducible refine Ext.drewN ?_ _ | (with_reducible refine Ext.setCellP ?_ ?_; focus (first | (simp; done) | (simp; omega) | omega)))), ?_, Blk.newAt [.slice (some ⟨w2.heap.size, 0, none⟩) M M] (by simp), by simp⟩ (fun W3 hW3 => ?_)
  case refine_1 =>
    have h := (MadeT.start w2 M 0)
    have e : (madeCells #[Value.slice none 0 0] M) = (List.replicate M (Value.slice none 0 0)).toArray := by rw [← Array.toList_inj, toList_madeCells_one]
    rw [e]
    exact (Blk.new w2 (List.replicate M (.slice none 0 0)) 45).old _
  obtain ⟨hx3, hn3, hb3, hz3⟩ := hW3
  have HX3 := Lib.hid hx3
  have HN3 := Lib.hid hn3
  have HB3 := Lib.hid hb3
  have HZ3 := Lib.hid hz3
  clear hx3 hn3 hb3 hz3
  generalize hh : w2.heap.size = h at *
  have HH := Lib.hid hh
  clear hh
  have hM0 : 0 < M := hM1.1
  have HSC := Lib.hid (fun (b o : Nat) (A : World) (u : Value) (hb : h ≤ b) (g : Ext w2 A) => g.setCell (p := ⟨b, o, none⟩) (by show w2.heap.size ≤ b; rw [HH.out]; exact hb) u)
  have hbc := HB3.out.cells
  have p0 : ∀ ob, (W3.alloc ob).cell? ⟨h, 0, none⟩ = some (.slice none 0 0) := fun ob => by rw [(HN3.out.old ob).cells, List.getElem?_replicate, if_pos hM0]
  have f0 : ∀ ob o, (W3.alloc ob).frozen? ⟨h, o, none⟩ = false := fun ob => (HN3.out.old ob).frozen
  go_upto_region 5 with (fail)
  have hrl : (List.replicate M (Value.slice none 0 0)).set 0 (.slice (some ⟨h + 2, 0, none⟩) 1 1) = .slice (some ⟨h + 2, 0, none⟩) 1 1 :: List.replicate (M - 1) (.slice none 0 0) := by
    obtain ⟨m, rfl⟩ : ∃ m, M = m + 1 := ⟨M - 1, by omega⟩
    rfl
  rw [HZ3.out]
  refine hideW (Φ := fun W => Code.wp _ _ _ _ W) (fun W => Ext w2 W ∧ Blk W h (.slice (some ⟨h + 2, 0, none⟩) 1 1 :: List.replicate (M - 1) (.slice none 0 0)) 45 ∧ Blk W (h + 1) [.slice (some ⟨h, 0, none⟩) M M] 24 ∧ Blk W (h + 2) [U 0#32, I 0, I 1, I ((M : Int) - 1)] 44 ∧ W.heap.size = h + 3)
    ⟨HSC.out _ _ _ _ (Nat.le_refl h) (HX3.out.alloc _), by rw [← hrl]; exact (HN3.out.old _).set 0 _, (HB3.out.old _).other (by simp) _, (Blk.newAt [U 0#32, I 0, I 1, I ((M : Int) - 1)] HZ3.out).other (by simp) _, by simp; exact HZ3.out⟩ (fun W4 hW4 => ?_)
  obtain ⟨hx4, hn4, hb4, hr4, hz4⟩ := hW4
  have HX4 := Lib.hid hx4
  have HN4 := Lib.hid hn4
  have HB4 := Lib.hid hb4
  have HR4 := Lib.hid hr4
  have HZ4 := Lib.hid hz4
  clear hx4 hn4 hb4 hr4 hz4 hbc p0 f0 HN3 HB3 HZ3 HX3 hrl hmk
  go_upto_region 6 with (fail)
  have eI : (madeCells #[I 0] M) = (List.replicate M (I 0)).toArray := by rw [← Array.toList_inj, toList_madeCells_one]
  rw [HZ4.out, show h + 3 + 1 = h + 4 from rfl, show h + 4 + 1 = h + 5 from rfl, eI]
  refine hideW (Φ := fun W => Code.wp _ _ _ _ W) (fun W => Ext W4 W ∧ Blk W (h + 3) (List.replicate M (I 0)) 3 ∧ Blk W (h + 4) [U 0#32, U 4294967295#32, .slice (some ⟨h + 3, 0, none⟩) M M] 35 ∧ Blk W (h + 5) [I 1, .slice (some ⟨h + 4, 0, none⟩) 1 1, U 0#32, .slice none 0 0] 29 ∧ W.heap.size = h + 6)
    ⟨by (repeat (first | with_reducible exact Ext.refl _ | with_reducible assumption | with_reducible refine Ext.alloc ?_ _ | with_reducible refine Ext.drew ?_ | with_reducible refine Ext.drewN ?_ _ | (with_reducible refine Ext.setCellP ?_ ?_; focus (first | (simp; done) | (simp; omega) | omega)))), ((Blk.newAt (List.replicate M (I 0)) HZ4.out).old _).old _, (Blk.newAt [U 0#32, U 4294967295#32, .slice (some ⟨h + 3, 0, none⟩) M M] (by simp; exact HZ4.out)).old _, Blk.newAt [I 1, .slice (some ⟨h + 4, 0, none⟩) 1 1, U 0#32, .slice none 0 0] (by simp; exact HZ4.out), by simp; exact HZ4.out⟩ (fun W5 hW5 => ?_)
  obtain ⟨hx5, hk5, hp5, hc5, hz5⟩ := hW5
  have HX5 := Lib.hid hx5
  have HK5 := Lib.hid hk5
  have HP5 := Lib.hid hp5
  have HC5 := Lib.hid hc5
  have HZ5 := Lib.hid hz5
  clear hx5 hk5 hp5 hc5 hz5 hmi eI
  have hcc := HC5.out.cells
  have hpc := HP5.out.cells
  have p0 : W5.cell? ⟨h + 3, 0, none⟩ = some (I 0) := by rw [HK5.out.cells, List.getElem?_replicate, if_pos hM0]
  have f0 := HK5.out.frozen
  go_upto_region 7 with (fail)
  refine hideW (Φ := fun W => Code.wp _ _ _ _ W) (fun W => Ext w2 W ∧ Blk W h (.slice (some ⟨h + 2, 0, none⟩) 1 1 :: List.replicate (M - 1) (.slice none 0 0)) 45 ∧ Blk W (h + 1) [.slice (some ⟨h, 0, none⟩) M M] 24 ∧ Blk W (h + 2) [U 0#32, I 0, I 1, I ((M : Int) - 1)] 44 ∧ Blk W (h + 3) (icells (firR M ((M : Int) - 1))) 3 ∧ Blk W (h + 4) [U 0#32, U 4294967295#32, .slice (some ⟨h + 3, 0, none⟩) M M] 35 ∧ Blk W (h + 5) [I 1, .slice (some ⟨h + 4, 0, none⟩) 1 1, U 0#32, .slice none 0 0] 29 ∧ W.heap.size = h + 6)
    ⟨HSC.out _ _ _ _ (by omega) (HX4.out.trans HX5.out), (HN4.out.later HX5.out).other (by simp) _, (HB4.out.later HX5.out).other (by simp) _, (HR4.out.later HX5.out).other (by simp) _, by rw [icells_fir]; exact HK5.out.set 0 _, HP5.out.other (by simp) _, HC5.out.other (by simp) _, by simp; exact HZ5.out⟩ (fun W6 hW6 => ?_)
  obtain ⟨hx6, hn6, hb6, hr6, hk6, hp6, hc6, hz6⟩ := hW6
  clear hcc hpc p0 f0 HX5 HK5 HP5 HC5 HZ5 HX4 HN4 HB4 HR4 HZ4
  have HX6 := Lib.hid hx6
  have HN6 := Lib.hid hn6
  have HB6 := Lib.hid hb6
  have HR6 := Lib.hid hr6
  have HK6 := Lib.hid hk6
  have HP6 := Lib.hid hp6
  have HC6 := Lib.hid hc6
  have HZ6 := Lib.hid hz6
  clear hx6 hn6 hb6 hr6 hk6 hp6 hc6 hz6
  go_upto_region 8 with (fail)
  rw [HZ6.out]
  refine hideW (Φ := fun W => Code.wp _ _ _ _ W) (fun W => FirS w2 W M h ((M : Int) - 1) ((M : Int) - 1) 0#32 (1, 0))
    ⟨HX6.out.alloc _, HH.out, HN6.out.old _, HB6.out.old _, HR6.out.old _, HK6.out.old _, HP6.out.old _, HC6.out.old _, Blk.newAt [I 1, I 0] HZ6.out⟩ (fun W7 hS7 => ?_)
  have HS7 := Lib.hid hS7
  clear hS7 HX6 HN6 HB6 HR6 HK6 HP6 HC6 HZ6
  have hM64 : M ≤ 64 := by omega
  go_upto_if 42 with fail
  go_cut [] (fun wc => Hid (FirS w2 wc M h ((M : Int) - 1) ((M : Int) - 1) 0#32 (firW M false false false)))
  case first =>
    have hac := HS7.out.ans.cells
    have haf := HS7.out.ans.frozen
    by_cases h1 : M = 1
    · have hb : ((M : Int) == 1) = true := by simp [h1]
      have HE := Lib.hid (show firW M false false false = (0, 16) by unfold firW; simp [h1])
      clear h1
      go_wp2_with fail
      go_meet
      case rel => show FirS _ _ _ _ _ _ _ _; rw [HE.out]; exact HS7.out.setAns 0 16
    · have hb : ((M : Int) == 1) = false := beq_false_of_ne (by omega)
      have HE := Lib.hid (show firW M false false false = (1, 0) by unfold firW; simp [h1])
      clear h1
      go_wp2_with fail
      go_meet
      case rel => show FirS _ _ _ _ _ _ _ _; rw [HE.out]; exact HS7.out
  case rest =>
    have HS8 := hcut
    clear hcut HS7
    go_upto_if 46 with fail
    generalize hb1 : (bits .and .u8 (x : Int) 1 != 0) = b1
    go_cut [] (fun wc => Hid (FirS w2 wc M h ((M : Int) - 1) (if b1 then 0 else (M : Int) - 1) 0#32 (firW M b1 false false)))
    case first =>
      cases b1
      · go_wp2_with fail
        go_meet
        case rel => exact HS8.out
      · have hac := HS8.out.ans.keep
        have haf := HS8.out.ans.frozen
        have hcc := HS8.out.cert.cells
        have hpc := HS8.out.part.cells
        have hrc := HS8.out.rk0 hM0
        have hrf := HS8.out.rk.frozen
        have hac2 := (HS8.out.setRk 0).ans.cells
        have haf2 := (HS8.out.setRk 0).ans.frozen
        go_wp2_with fail
        go_meet
        case rel =>
          show FirS _ _ _ _ _ _ _ _
          rw [show firW M true false false = (0, 16) from rfl]
          exact (HS8.out.setRk 0).setAns 0 16
    case rest =>
      have HS9 := hcut
      clear hcut HS8 hb1
      generalize hr : (if b1 then 0 else (M : Int) - 1) = r at HS9
      go_upto_if 56 with fail
      generalize hb2 : (bits .and .u8 (x : Int) 2 != 0) = b2
      have hor : bits .or .u32 (uv a) 1 = uv (a ||| 1#32) := bits_or_uv a 1#32
      go_cut [] (fun wc => Hid (FirS w2 wc M h ((M : Int) - 1) r (if b2 then a ||| 1#32 else 0#32) (firW M b1 b2 false)))
      case first =>
        cases b2
        · go_wp2_with fail
          go_meet
          case rel => exact HS9.out
        · have hcc := HS9.out.cert.cells
          have hcf := HS9.out.cert.frozen
          have hac2 := (HS9.out.setDest (a ||| 1#32)).ans.cells
          have haf2 := (HS9.out.setDest (a ||| 1#32)).ans.frozen
          go_wp2_with fail
          go_meet
          case rel =>
            show FirS _ _ _ _ _ _ _ _
            rw [show firW M b1 true false = (0, 3) from rfl]
            exact (HS9.out.setDest (a ||| 1#32)).setAns 0 3
      case rest =>
        have HSA := hcut
        clear hcut HS9 hb2 hor
        go_upto_if 63 with fail
        generalize hb4 : (bits .and .u8 (x : Int) 4 != 0) = b4
        go_cut [] (fun wc => Hid (FirS w2 wc M h ((if b4 then M else M - 1 : Nat) : Int) r (if b2 then a ||| 1#32 else 0#32) (firW M b1 b2 b4)))
        case first =>
          cases b4
          · go_wp2_with fail
            go_meet
            case rel =>
              show FirS _ _ _ _ _ _ _ _
              rw [show (((if false = true then M else M - 1 : Nat)) : Int) = (M : Int) - 1 by rw [if_neg (by simp)]; omega]
              exact HSA.out
          · have hnc := HSA.out.net.cells
            have hbc := HSA.out.box.cells
            have hrc := HSA.out.rule.cells
            have hrf := HSA.out.rule.frozen
            have hac2 := (HSA.out.setNx M).ans.cells
            have haf2 := (HSA.out.setNx M).ans.frozen
            go_wp2_with fail
            go_meet
            case rel =>
              show FirS _ _ _ _ _ _ _ _
              rw [show firW M b1 b2 true = (0, 10) from rfl]
              exact (HSA.out.setNx M).setAns 0 10
        case rest =>
          have HSB := hcut
          clear hcut HSA hb4
          obtain ⟨l, hcl⟩ := cuts_exist (firN M (if b4 then M else M - 1)).flatten
          have HLAW := Lib.hid (show ansV l (firN M (if b4 then M else M - 1)) ⟨1, [firP M h], [firR M r], if b2 then a ||| 1#32 else 0#32, []⟩ = firW M b1 b2 b4 from by
            rw [← hr]; exact fir_law hM0 hM64 rfl rfl b1 b2 b4 (or_one_ne a) l)
          have HNE := Lib.hid (show ∀ W, Ext wc W → Calls Try.prog 21 #[.agg #[.slice (some ⟨h, 0, none⟩) M M], .agg #[I 1, .slice (some ⟨h + 4, 0, none⟩) 1 1, U (if b2 then a ||| 1#32 else 0#32), .slice none 0 0]] W fun e w' => e = .returned (.agg #[I (firW M b1 b2 b4).1, I (firW M b1 b2 b4).2]) ∧ Ext W w' from fun W hW => by
            have h1 := checkNet_any _ _ _ _ _ l W ((HSB.out.tables hM0 hM64).later hW) (oneN_ok (by split <;> omega)) (Nat.le_trans (oneN_size (by omega)) (by decide)) hcl ((HSB.out.at hM64).later hW) (fun x hx => by cases hx)
            rw [HLAW.out] at h1
            exact h1)
          clear hcl HLAW hr
          have hbc := HSB.out.box.keep
          have hcc := HSB.out.cert.keep
          have hac := HSB.out.ans.keep
          generalize (if b2 = true then a ||| 1#32 else 0#32) = dd at *
          generalize (firW M b1 b2 b4).1 = z1 at *
          generalize (firW M b1 b2 b4).2 = z2 at *
          have hz1 : (z1 == z1) = true := by simp
          have hz2 : (z2 == z2) = true := by simp
          go_upto_region 19 with fail
          refine wp_region_E 8 rfl (by kernel_rfl) (by kernel_rfl) ?_
          refine WEi_at 0 ?_
          iterate 4
            refine WEi_q rfl (by decide) (by kernel_rfl) rfl ?_; apply Exists.intro; refine ⟨fun w1 hx1 => ?_, ?_⟩
            · have hq1 := hx1.cells; go_simp; try go_bits
              first | with_reducible rfl
            simp only [Act.put, List.setIfInBounds_toArray, List.set_cons_zero, List.set_cons_succ, Nat.reduceAdd]
          refine WEi_out ?_
          refine WE_q 4 rfl (by decide) (by kernel_rfl) rfl ?_; apply Exists.intro; refine ⟨fun w1 hx1 => ?_, ?_⟩
          · have hq1 := hx1.cells; go_simp; try go_bits
            first | with_reducible rfl | ((refine (HNE.out _ hx1).mono ?_; rintro e w' ⟨rfl, hx⟩; exact ⟨rfl, hx⟩))
          simp only [Act.put, List.setIfInBounds_toArray, List.set_cons_zero, List.set_cons_succ]
          refine WEi_at 5 ?_
          iterate 3
            refine WEi_q rfl (by decide) (by kernel_rfl) rfl ?_; apply Exists.intro; refine ⟨fun w1 hx1 => ?_, ?_⟩
            · have hq1 := hx1.cells; go_simp; try go_bits
              first | with_reducible rfl
            simp only [Act.put, List.setIfInBounds_toArray, List.set_cons_zero, List.set_cons_succ, Nat.reduceAdd]
          refine WEi_out ?_
          refine WE_done (by kernel_rfl) (fun w8 hx8 => ?_)
          (try simp only [List.drop_succ_cons, List.drop_zero])
          have HX8 := Lib.hid (HSB.out.ext.trans hx8)
          go_wp2_with fail
          go_ret
          exact ⟨rfl, HX2.out.trans HX8.out⟩
end Go.Proofs.Ytpfkfboohblgoaa
