/- Package target: Scale. Printed by scalegen.py. -/
import Derived.Test.YtmkgbinmilcojaaGreatTargetD
import Derived.Test.YtmkgbinmilcojaaGreatRegInv
namespace Go.Proofs.YtmkgbinmilcojaaGreat
open Go.RowKit Go.Maps Go.Shelf

theorem zeroW : ∀ w, (zeroValue 51).run Tryz.prog w = .ok (.agg #[.int .u64 0, .int .u64 0, .int .u64 0, .int .u64 0]) w := fun w => by kernel_rfl
theorem infoW : (Tryz.prog.info? 51).map (·.size) = some 4 := by kernel_rfl

set_option maxRecDepth 100000 in
set_option maxHeartbeats 8000000 in
theorem target_ScaleW (t0 t1 t2 t3 m0 m1 m2 m3 q0 q1 q2 q3 r0 r1 r2 r3 b0 b1 b2 b3 : Int) (up by_ : Nat) (w : World) (_ : (0 : Int) < by_) (hby2 : ((by_ : Int) == 0) = false) (_ : (by_ == 0) = false)
    (ov ov2 mo zo : Bool) (c : Int) (h0 h1 h2 h3 l0 l1 l2 l3 y0 y1 y2 y3 z0 z1 z2 z3 o0 o1 o2 o3 : Int)
    (heq : ∀ w, (Op.equalIn 10000 51 (V4 m0 m1 m2 m3) (V4 0 0 0 0)).run Tryz.prog w = .ok false w)
    (hof : ∀ w, Calls Tryz.prog 87 #[.int .u64 by_] w fun e w' => e = .returned (V4 b0 b1 b2 b3) ∧ Chg [] w w')
    (hdiv : ∀ w, Calls Tryz.prog 98 #[V4 t0 t1 t2 t3, V4 b0 b1 b2 b3] w fun e w' => e = .returned (.tuple #[V4 q0 q1 q2 q3, V4 r0 r1 r2 r3, .int .i64 0]) ∧ Chg [] w w')
    (hmq : ∀ w, Calls Tryz.prog 133 #[V4 q0 q1 q2 q3, .int .u64 up] w fun e w' => e = .returned (.tuple #[V4 h0 h1 h2 h3, .bool ov]) ∧ Chg [] w w')
    (hmr : ∀ w, Calls Tryz.prog 133 #[V4 r0 r1 r2 r3, .int .u64 up] w fun e w' => e = .returned (.tuple #[V4 l0 l1 l2 l3, .bool ov2]) ∧ Chg [] w w')
    (hdl : ∀ w, Calls Tryz.prog 98 #[V4 l0 l1 l2 l3, V4 b0 b1 b2 b3] w fun e w' => e = .returned (.tuple #[V4 y0 y1 y2 y3, V4 z0 z1 z2 z3, .int .i64 0]) ∧ Chg [] w w')
    (hadd : ∀ w, Calls Tryz.prog 43 #[V4 h0 h1 h2 h3, V4 y0 y1 y2 y3] w fun e w' => e = .returned (.tuple #[V4 o0 o1 o2 o3, .bool mo]) ∧ Chg [] w w')
    (hcmp : ∀ w, Calls Tryz.prog 17 #[V4 o0 o1 o2 o3, V4 m0 m1 m2 m3] w fun e w' => e = .returned (.int .i64 c) ∧ Chg [] w w')
    (hzo : ∀ w, (Op.equalIn 10000 51 (V4 o0 o1 o2 o3) (V4 0 0 0 0)).run Tryz.prog w = .ok zo w)
    (hone : ∀ w, Calls Tryz.prog 87 #[.int .u64 1] w fun e w' => e = .returned (V4 1 0 0 0) ∧ Chg [] w w') :
    Calls Tryz.prog 120 #[V4 t0 t1 t2 t3, .int .u64 up, .int .u64 by_, V4 m0 m1 m2 m3] w fun e w' => e = .returned (.tuple #[if ov || mo || decide (0 < c) then V4 m0 m1 m2 m3 else if zo then V4 1 0 0 0 else V4 o0 o1 o2 o3, .int .i64 0]) ∧ Chg [] w w' := by
  unfold V4 at *
  go_enter Tryz.func120, Tryz.ntmps120
  go_upto_region 5 with fail
  have b4 := ((Blk.new w #[.int .u64 t0, .int .u64 t1, .int .u64 t2, .int .u64 t3] 51).alloc (.cells #[.int .u64 m0, .int .u64 m1, .int .u64 m2, .int .u64 m3] 51)).alloc (.cells #[.int .u64 0, .int .u64 0, .int .u64 0, .int .u64 0] 51)
  have b7 := (Blk.new (w.alloc (.cells #[.int .u64 t0, .int .u64 t1, .int .u64 t2, .int .u64 t3] 51)) #[.int .u64 m0, .int .u64 m1, .int .u64 m2, .int .u64 m3] 51).alloc (.cells #[.int .u64 0, .int .u64 0, .int .u64 0, .int .u64 0] 51)
  have b8 := Blk.new ((w.alloc (.cells #[.int .u64 t0, .int .u64 t1, .int .u64 t2, .int .u64 t3] 51)).alloc (.cells #[.int .u64 m0, .int .u64 m1, .int .u64 m2, .int .u64 m3] 51)) #[.int .u64 0, .int .u64 0, .int .u64 0, .int .u64 0] 51
  have hc0 : Chg [] w (((w.alloc (.cells #[.int .u64 t0, .int .u64 t1, .int .u64 t2, .int .u64 t3] 51)).alloc (.cells #[.int .u64 m0, .int .u64 m1, .int .u64 m2, .int .u64 m3] 51)).alloc (.cells #[.int .u64 0, .int .u64 0, .int .u64 0, .int .u64 0] 51)) := (by repeat (first | exact Chg.refl _ _ | refine Chg.alloc ?_ _ | refine Chg.drew ?_ | refine Chg.drewN ?_ _ | refine Chg.setCell ?_ (.inr (by simp)) _))
  simp only [World.size_alloc] at b7 b8
  have hz0 : w.heap.size + 1 + 1 < (((w.alloc (.cells #[.int .u64 t0, .int .u64 t1, .int .u64 t2, .int .u64 t3] 51)).alloc (.cells #[.int .u64 m0, .int .u64 m1, .int .u64 m2, .int .u64 m3] 51)).alloc (.cells #[.int .u64 0, .int .u64 0, .int .u64 0, .int .u64 0] 51)).heap.size := by simp
  generalize ((w.alloc (.cells #[.int .u64 t0, .int .u64 t1, .int .u64 t2, .int .u64 t3] 51)).alloc (.cells #[.int .u64 m0, .int .u64 m1, .int .u64 m2, .int .u64 m3] 51)).alloc (.cells #[.int .u64 0, .int .u64 0, .int .u64 0, .int .u64 0] 51) = W0 at b4 b7 b8 hc0 hz0 ⊢
  go_cut [10, 11] (fun s10 s11 wx => ∃ gA gB : Nat, s10 = .pointer (some ⟨gA, 0, none⟩) ∧ s11 = .pointer (some ⟨gB, 0, none⟩) ∧ Blk wx gA #[.int .u64 q0, .int .u64 q1, .int .u64 q2, .int .u64 q3] 51 ∧ Blk wx gB #[.int .u64 r0, .int .u64 r1, .int .u64 r2, .int .u64 r3] 51 ∧ gA ≠ gB ∧ W0.heap.size ≤ gA ∧ W0.heap.size ≤ gB ∧ Chg [] W0 wx)
  case first =>
    refine wp_region_held_drew (S := fun w' => Chg [] W0 w') (by kernel_rfl) ((Chg.refl _ _).drew) (fun hH => ?_)
    refine TK 0 (.agg #[.int .u64 t0, .int .u64 t1, .int .u64 t2, .int .u64 t3]) rfl hH (fun w' hw' => ?_) ?_
    · (have k := b4.chg hw' (by simp); have c0 := k.cell 0 (v := .int .u64 t0) rfl; have c1 := k.cell 1 (v := .int .u64 t1) rfl; have c2 := k.cell 2 (v := .int .u64 t2) rfl; have c3 := k.cell 3 (v := .int .u64 t3) rfl; go_simp)
    try simp only [Act.put, Sa, Sb, Sc, Sd, Sf]
    refine TK 1 (.int .u64 by_) rfl hH (fun w' hw' => ?_) ?_
    · go_simp
    try simp only [Act.put, Sa, Sb, Sc, Sd, Se, Sf]
    refine wpAnyH_ready (rs := [2, 8, 9]) (by kernel_rfl) (by simp) (AllReadyH.cons rfl (fun K hK => ?_) (AllReadyH.cons rfl (fun K hK => ?_) (AllReadyH.cons rfl (fun K hK => ?_) AllReadyH.nil)))
    · go_simp
      go_at_call 87
      refine (hof _).mono ?_
      rintro e1 w1 ⟨rfl, hc1⟩
      dsimp only
      have hH1 := hH.trans hc1 (by simp)
      refine hK.out _ _ hH1 (fun _ => ?_)
      try simp only [Act.put, Sa, Sb, Sc, Sd, Se, Sf]
      refine wpAnyH_ready (rs := [3, 8, 9]) (by kernel_rfl) (by simp) (AllReadyH.cons rfl (fun K hK => ?_) (AllReadyH.cons rfl (fun K hK => ?_) (AllReadyH.cons rfl (fun K hK => ?_) AllReadyH.nil)))
      · go_simp
        go_at_call 98
        refine (hdiv _).mono ?_
        rintro e2 w2 ⟨rfl, hc2⟩
        dsimp only
        have hH2 := hH1.trans hc2 (by simp)
        refine hK.out _ _ hH2 (fun _ => ?_)
        try simp only [Act.put, Sa, Sb, Sc, Sd, Se, Sf]
        refine TK 4 (.tuple #[.agg #[.int .u64 q0, .int .u64 q1, .int .u64 q2, .int .u64 q3], .agg #[.int .u64 r0, .int .u64 r1, .int .u64 r2, .int .u64 r3], .int .i64 0]) rfl hH2 (fun w' hw' => ?_) ?_
        · go_simp
        try simp only [Act.put, Sa, Sb, Sc, Sd, Se, Sf]
        refine TK 5 (.agg #[.int .u64 q0, .int .u64 q1, .int .u64 q2, .int .u64 q3]) rfl hH2 (fun w' hw' => ?_) ?_
        · go_simp
        try simp only [Act.put, Sa, Sb, Sc, Sd, Se, Sf]
        refine TK 6 (.agg #[.int .u64 r0, .int .u64 r1, .int .u64 r2, .int .u64 r3]) rfl hH2 (fun w' hw' => ?_) ?_
        · go_simp
        try simp only [Act.put, Sa, Sb, Sc, Sd, Se, Sf]
        refine TK 7 (.int .i64 0) rfl hH2 (fun w' hw' => ?_) ?_
        · go_simp
        try simp only [Act.put, Sa, Sb, Sc, Sd, Se, Sf]
        refine RD2 8 9 rfl rfl (fun K hK => ?_) (fun K hK => ?_)
        · rw [if_pos (by rfl)]
          refine op_alloc 51 10 (by kernel_rfl) (by kernel_rfl) zeroW ?_
          have kbA3 := Blk.new (w2) (#[.int .u64 0, .int .u64 0, .int .u64 0, .int .u64 0] : Array Value) 51
          have hH3 := hH2.alloc (.cells (#[.int .u64 0, .int .u64 0, .int .u64 0, .int .u64 0] : Array Value) 51)
          have hgeA3 := hH2.size
          obtain ⟨gA3, hgg3⟩ : ∃ g, g = (w2).heap.size := ⟨_, rfl⟩
          rw [← hgg3] at kbA3 hgeA3 ⊢
          generalize (w2).alloc (.cells (#[.int .u64 0, .int .u64 0, .int .u64 0, .int .u64 0] : Array Value) 51) = w3 at hH3 kbA3 ⊢
          clear hgg3
          refine hK.out _ _ hH3 (fun _ => ?_)
          try simp only [Act.put, Sa, Sb, Sc]
          refine RD 9 rfl (fun K hK => ?_)
          rw [if_pos (by rfl)]
          refine op_alloc 51 11 (by kernel_rfl) (by kernel_rfl) zeroW ?_
          have kbB4 := Blk.new (w3) (#[.int .u64 0, .int .u64 0, .int .u64 0, .int .u64 0] : Array Value) 51
          have hH4 := hH3.alloc (.cells (#[.int .u64 0, .int .u64 0, .int .u64 0, .int .u64 0] : Array Value) 51)
          have hgeB4 := hH3.size
          have kbA4 := kbA3.alloc (.cells (#[.int .u64 0, .int .u64 0, .int .u64 0, .int .u64 0] : Array Value) 51)
          have hneAB4 := kbA3.lt
          obtain ⟨gB4, hgg4⟩ : ∃ g, g = (w3).heap.size := ⟨_, rfl⟩
          rw [← hgg4] at kbB4 hgeB4 hneAB4 ⊢
          generalize (w3).alloc (.cells (#[.int .u64 0, .int .u64 0, .int .u64 0, .int .u64 0] : Array Value) 51) = w4 at hH4 kbA4 kbB4 ⊢
          clear hgg4
          refine hK.out _ _ hH4 (fun _ => ?_)
          try simp only [Act.put, Sa, Sb, Sc]
          refine RD 10 rfl (fun K hK => ?_)
          rw [if_pos (by rfl)]
          refine op_store 51 (.tmp 10) (.tmp 33) (by kernel_rfl) (by kernel_rfl) rfl (cs := [.int .u64 q0, .int .u64 q1, .int .u64 q2, .int .u64 q3]) rfl kbA4 (by simp) infoW (by simp [Value.oneCell']) ?_
          intro w5 kbA5 hc5
          have hH5 : Chg [] W0 w5 := hH4.trans hc5 (by simp; omega)
          have kbB5 := kbB4.chg hc5 (by simp; omega)
          refine hK.out _ _ hH5 (fun _ => ?_)
          try simp only [Act.put, Sa, Sb, Sc, Sd, Se, Sf]
          refine RD 11 rfl (fun K hK => ?_)
          rw [if_pos (by rfl)]
          refine op_store 51 (.tmp 11) (.tmp 34) (by kernel_rfl) (by kernel_rfl) rfl (cs := [.int .u64 r0, .int .u64 r1, .int .u64 r2, .int .u64 r3]) rfl kbB5 (by simp) infoW (by simp [Value.oneCell']) ?_
          intro w6 kbB6 hc6
          have hH6 : Chg [] W0 w6 := hH5.trans hc6 (by simp; omega)
          have kbA6 := kbA5.chg hc6 (by simp; omega)
          refine hK.out _ _ hH6 (fun _ => ?_)
          try simp only [Act.put, Sa, Sb, Sc, Sd, Se, Sf]
          refine RD 12 rfl (fun K hK => ?_)
          go_simp
          refine hK.out _ _ hH6 (fun _ => ?_)
          try simp only [Act.put, Sa, Sb, Sc, Sd, Se, Sf]
          refine wpAnyH_done (by kernel_rfl) ?_ _
          go_wp2_with fail
          go_meet
          exact ⟨gA3, gB4, rfl, rfl, kbA6, kbB6, by omega, by omega, by omega, hH6⟩
        · rw [if_pos (by rfl)]
          refine op_alloc 51 11 (by kernel_rfl) (by kernel_rfl) zeroW ?_
          have kbB8 := Blk.new (w2) (#[.int .u64 0, .int .u64 0, .int .u64 0, .int .u64 0] : Array Value) 51
          have hH8 := hH2.alloc (.cells (#[.int .u64 0, .int .u64 0, .int .u64 0, .int .u64 0] : Array Value) 51)
          have hgeB8 := hH2.size
          obtain ⟨gB8, hgg8⟩ : ∃ g, g = (w2).heap.size := ⟨_, rfl⟩
          rw [← hgg8] at kbB8 hgeB8 ⊢
          generalize (w2).alloc (.cells (#[.int .u64 0, .int .u64 0, .int .u64 0, .int .u64 0] : Array Value) 51) = w8 at hH8 kbB8 ⊢
          clear hgg8
          refine hK.out _ _ hH8 (fun _ => ?_)
          try simp only [Act.put, Sa, Sb, Sc]
          refine RD 8 rfl (fun K hK => ?_)
          rw [if_pos (by rfl)]
          refine op_alloc 51 10 (by kernel_rfl) (by kernel_rfl) zeroW ?_
          have kbA9 := Blk.new (w8) (#[.int .u64 0, .int .u64 0, .int .u64 0, .int .u64 0] : Array Value) 51
          have hH9 := hH8.alloc (.cells (#[.int .u64 0, .int .u64 0, .int .u64 0, .int .u64 0] : Array Value) 51)
          have hgeA9 := hH8.size
          have kbB9 := kbB8.alloc (.cells (#[.int .u64 0, .int .u64 0, .int .u64 0, .int .u64 0] : Array Value) 51)
          have hneBA9 := kbB8.lt
          obtain ⟨gA9, hgg9⟩ : ∃ g, g = (w8).heap.size := ⟨_, rfl⟩
          rw [← hgg9] at kbA9 hgeA9 hneBA9 ⊢
          generalize (w8).alloc (.cells (#[.int .u64 0, .int .u64 0, .int .u64 0, .int .u64 0] : Array Value) 51) = w9 at hH9 kbB9 kbA9 ⊢
          clear hgg9
          refine hK.out _ _ hH9 (fun _ => ?_)
          try simp only [Act.put, Sa, Sb, Sc]
          refine RD 10 rfl (fun K hK => ?_)
          rw [if_pos (by rfl)]
          refine op_store 51 (.tmp 10) (.tmp 33) (by kernel_rfl) (by kernel_rfl) rfl (cs := [.int .u64 q0, .int .u64 q1, .int .u64 q2, .int .u64 q3]) rfl kbA9 (by simp) infoW (by simp [Value.oneCell']) ?_
          intro w10 kbA10 hc10
          have hH10 : Chg [] W0 w10 := hH9.trans hc10 (by simp; omega)
          have kbB10 := kbB9.chg hc10 (by simp; omega)
          refine hK.out _ _ hH10 (fun _ => ?_)
          try simp only [Act.put, Sa, Sb, Sc, Sd, Se, Sf]
          refine RD 11 rfl (fun K hK => ?_)
          rw [if_pos (by rfl)]
          refine op_store 51 (.tmp 11) (.tmp 34) (by kernel_rfl) (by kernel_rfl) rfl (cs := [.int .u64 r0, .int .u64 r1, .int .u64 r2, .int .u64 r3]) rfl kbB10 (by simp) infoW (by simp [Value.oneCell']) ?_
          intro w11 kbB11 hc11
          have hH11 : Chg [] W0 w11 := hH10.trans hc11 (by simp; omega)
          have kbA11 := kbA10.chg hc11 (by simp; omega)
          refine hK.out _ _ hH11 (fun _ => ?_)
          try simp only [Act.put, Sa, Sb, Sc, Sd, Se, Sf]
          refine RD 12 rfl (fun K hK => ?_)
          go_simp
          refine hK.out _ _ hH11 (fun _ => ?_)
          try simp only [Act.put, Sa, Sb, Sc, Sd, Se, Sf]
          refine wpAnyH_done (by kernel_rfl) ?_ _
          go_wp2_with fail
          go_meet
          exact ⟨gA9, gB8, rfl, rfl, kbA11, kbB11, by omega, by omega, by omega, hH11⟩
      · rw [if_pos (by rfl)]
        refine op_alloc 51 10 (by kernel_rfl) (by kernel_rfl) zeroW ?_
        have kbA13 := Blk.new (w1) (#[.int .u64 0, .int .u64 0, .int .u64 0, .int .u64 0] : Array Value) 51
        have hH13 := hH1.alloc (.cells (#[.int .u64 0, .int .u64 0, .int .u64 0, .int .u64 0] : Array Value) 51)
        have hgeA13 := hH1.size
        obtain ⟨gA13, hgg13⟩ : ∃ g, g = (w1).heap.size := ⟨_, rfl⟩
        rw [← hgg13] at kbA13 hgeA13 ⊢
        generalize (w1).alloc (.cells (#[.int .u64 0, .int .u64 0, .int .u64 0, .int .u64 0] : Array Value) 51) = w13 at hH13 kbA13 ⊢
        clear hgg13
        refine hK.out _ _ hH13 (fun _ => ?_)
        try simp only [Act.put, Sa, Sb, Sc]
        refine RD2 3 9 rfl rfl (fun K hK => ?_) (fun K hK => ?_)
        · go_simp
          go_at_call 98
          refine (hdiv _).mono ?_
          rintro e14 w14 ⟨rfl, hc14⟩
          dsimp only
          have hH14 := hH13.trans hc14 (by simp)
          have kbA14 := kbA13.chg hc14 (by simp)
          refine hK.out _ _ hH14 (fun _ => ?_)
          try simp only [Act.put, Sa, Sb, Sc, Sd, Se, Sf]
          refine TK 4 (.tuple #[.agg #[.int .u64 q0, .int .u64 q1, .int .u64 q2, .int .u64 q3], .agg #[.int .u64 r0, .int .u64 r1, .int .u64 r2, .int .u64 r3], .int .i64 0]) rfl hH14 (fun w' hw' => ?_) ?_
          · go_simp
          try simp only [Act.put, Sa, Sb, Sc, Sd, Se, Sf]
          refine TK 5 (.agg #[.int .u64 q0, .int .u64 q1, .int .u64 q2, .int .u64 q3]) rfl hH14 (fun w' hw' => ?_) ?_
          · go_simp
          try simp only [Act.put, Sa, Sb, Sc, Sd, Se, Sf]
          refine TK 6 (.agg #[.int .u64 r0, .int .u64 r1, .int .u64 r2, .int .u64 r3]) rfl hH14 (fun w' hw' => ?_) ?_
          · go_simp
          try simp only [Act.put, Sa, Sb, Sc, Sd, Se, Sf]
          refine TK 7 (.int .i64 0) rfl hH14 (fun w' hw' => ?_) ?_
          · go_simp
          try simp only [Act.put, Sa, Sb, Sc, Sd, Se, Sf]
          refine RD 9 rfl (fun K hK => ?_)
          rw [if_pos (by rfl)]
          refine op_alloc 51 11 (by kernel_rfl) (by kernel_rfl) zeroW ?_
          have kbB15 := Blk.new (w14) (#[.int .u64 0, .int .u64 0, .int .u64 0, .int .u64 0] : Array Value) 51
          have hH15 := hH14.alloc (.cells (#[.int .u64 0, .int .u64 0, .int .u64 0, .int .u64 0] : Array Value) 51)
          have hgeB15 := hH14.size
          have kbA15 := kbA14.alloc (.cells (#[.int .u64 0, .int .u64 0, .int .u64 0, .int .u64 0] : Array Value) 51)
          have hneAB15 := kbA14.lt
          obtain ⟨gB15, hgg15⟩ : ∃ g, g = (w14).heap.size := ⟨_, rfl⟩
          rw [← hgg15] at kbB15 hgeB15 hneAB15 ⊢
          generalize (w14).alloc (.cells (#[.int .u64 0, .int .u64 0, .int .u64 0, .int .u64 0] : Array Value) 51) = w15 at hH15 kbA15 kbB15 ⊢
          clear hgg15
          refine hK.out _ _ hH15 (fun _ => ?_)
          try simp only [Act.put, Sa, Sb, Sc]
          refine RD 10 rfl (fun K hK => ?_)
          rw [if_pos (by rfl)]
          refine op_store 51 (.tmp 10) (.tmp 33) (by kernel_rfl) (by kernel_rfl) rfl (cs := [.int .u64 q0, .int .u64 q1, .int .u64 q2, .int .u64 q3]) rfl kbA15 (by simp) infoW (by simp [Value.oneCell']) ?_
          intro w16 kbA16 hc16
          have hH16 : Chg [] W0 w16 := hH15.trans hc16 (by simp; omega)
          have kbB16 := kbB15.chg hc16 (by simp; omega)
          refine hK.out _ _ hH16 (fun _ => ?_)
          try simp only [Act.put, Sa, Sb, Sc, Sd, Se, Sf]
          refine RD 11 rfl (fun K hK => ?_)
          rw [if_pos (by rfl)]
          refine op_store 51 (.tmp 11) (.tmp 34) (by kernel_rfl) (by kernel_rfl) rfl (cs := [.int .u64 r0, .int .u64 r1, .int .u64 r2, .int .u64 r3]) rfl kbB16 (by simp) infoW (by simp [Value.oneCell']) ?_
          intro w17 kbB17 hc17
          have hH17 : Chg [] W0 w17 := hH16.trans hc17 (by simp; omega)
          have kbA17 := kbA16.chg hc17 (by simp; omega)
          refine hK.out _ _ hH17 (fun _ => ?_)
          try simp only [Act.put, Sa, Sb, Sc, Sd, Se, Sf]
          refine RD 12 rfl (fun K hK => ?_)
          go_simp
          refine hK.out _ _ hH17 (fun _ => ?_)
          try simp only [Act.put, Sa, Sb, Sc, Sd, Se, Sf]
          refine wpAnyH_done (by kernel_rfl) ?_ _
          go_wp2_with fail
          go_meet
          exact ⟨gA13, gB15, rfl, rfl, kbA17, kbB17, by omega, by omega, by omega, hH17⟩
        · rw [if_pos (by rfl)]
          refine op_alloc 51 11 (by kernel_rfl) (by kernel_rfl) zeroW ?_
          have kbB19 := Blk.new (w13) (#[.int .u64 0, .int .u64 0, .int .u64 0, .int .u64 0] : Array Value) 51
          have hH19 := hH13.alloc (.cells (#[.int .u64 0, .int .u64 0, .int .u64 0, .int .u64 0] : Array Value) 51)
          have hgeB19 := hH13.size
          have kbA19 := kbA13.alloc (.cells (#[.int .u64 0, .int .u64 0, .int .u64 0, .int .u64 0] : Array Value) 51)
          have hneAB19 := kbA13.lt
          obtain ⟨gB19, hgg19⟩ : ∃ g, g = (w13).heap.size := ⟨_, rfl⟩
          rw [← hgg19] at kbB19 hgeB19 hneAB19 ⊢
          generalize (w13).alloc (.cells (#[.int .u64 0, .int .u64 0, .int .u64 0, .int .u64 0] : Array Value) 51) = w19 at hH19 kbA19 kbB19 ⊢
          clear hgg19
          refine hK.out _ _ hH19 (fun _ => ?_)
          try simp only [Act.put, Sa, Sb, Sc]
          refine RD 3 rfl (fun K hK => ?_)
          go_simp
          go_at_call 98
          refine (hdiv _).mono ?_
          rintro e20 w20 ⟨rfl, hc20⟩
          dsimp only
          have hH20 := hH19.trans hc20 (by simp)
          have kbA20 := kbA19.chg hc20 (by simp)
          have kbB20 := kbB19.chg hc20 (by simp)
          refine hK.out _ _ hH20 (fun _ => ?_)
          try simp only [Act.put, Sa, Sb, Sc, Sd, Se, Sf]
          refine TK 4 (.tuple #[.agg #[.int .u64 q0, .int .u64 q1, .int .u64 q2, .int .u64 q3], .agg #[.int .u64 r0, .int .u64 r1, .int .u64 r2, .int .u64 r3], .int .i64 0]) rfl hH20 (fun w' hw' => ?_) ?_
          · go_simp
          try simp only [Act.put, Sa, Sb, Sc, Sd, Se, Sf]
          refine TK 5 (.agg #[.int .u64 q0, .int .u64 q1, .int .u64 q2, .int .u64 q3]) rfl hH20 (fun w' hw' => ?_) ?_
          · go_simp
          try simp only [Act.put, Sa, Sb, Sc, Sd, Se, Sf]
          refine TK 6 (.agg #[.int .u64 r0, .int .u64 r1, .int .u64 r2, .int .u64 r3]) rfl hH20 (fun w' hw' => ?_) ?_
          · go_simp
          try simp only [Act.put, Sa, Sb, Sc, Sd, Se, Sf]
          refine TK 7 (.int .i64 0) rfl hH20 (fun w' hw' => ?_) ?_
          · go_simp
          try simp only [Act.put, Sa, Sb, Sc, Sd, Se, Sf]
          refine RD 10 rfl (fun K hK => ?_)
          rw [if_pos (by rfl)]
          refine op_store 51 (.tmp 10) (.tmp 33) (by kernel_rfl) (by kernel_rfl) rfl (cs := [.int .u64 q0, .int .u64 q1, .int .u64 q2, .int .u64 q3]) rfl kbA20 (by simp) infoW (by simp [Value.oneCell']) ?_
          intro w21 kbA21 hc21
          have hH21 : Chg [] W0 w21 := hH20.trans hc21 (by simp; omega)
          have kbB21 := kbB20.chg hc21 (by simp; omega)
          refine hK.out _ _ hH21 (fun _ => ?_)
          try simp only [Act.put, Sa, Sb, Sc, Sd, Se, Sf]
          refine RD 11 rfl (fun K hK => ?_)
          rw [if_pos (by rfl)]
          refine op_store 51 (.tmp 11) (.tmp 34) (by kernel_rfl) (by kernel_rfl) rfl (cs := [.int .u64 r0, .int .u64 r1, .int .u64 r2, .int .u64 r3]) rfl kbB21 (by simp) infoW (by simp [Value.oneCell']) ?_
          intro w22 kbB22 hc22
          have hH22 : Chg [] W0 w22 := hH21.trans hc22 (by simp; omega)
          have kbA22 := kbA21.chg hc22 (by simp; omega)
          refine hK.out _ _ hH22 (fun _ => ?_)
          try simp only [Act.put, Sa, Sb, Sc, Sd, Se, Sf]
          refine RD 12 rfl (fun K hK => ?_)
          go_simp
          refine hK.out _ _ hH22 (fun _ => ?_)
          try simp only [Act.put, Sa, Sb, Sc, Sd, Se, Sf]
          refine wpAnyH_done (by kernel_rfl) ?_ _
          go_wp2_with fail
          go_meet
          exact ⟨gA13, gB19, rfl, rfl, kbA22, kbB22, by omega, by omega, by omega, hH22⟩
      · rw [if_pos (by rfl)]
        refine op_alloc 51 11 (by kernel_rfl) (by kernel_rfl) zeroW ?_
        have kbB24 := Blk.new (w1) (#[.int .u64 0, .int .u64 0, .int .u64 0, .int .u64 0] : Array Value) 51
        have hH24 := hH1.alloc (.cells (#[.int .u64 0, .int .u64 0, .int .u64 0, .int .u64 0] : Array Value) 51)
        have hgeB24 := hH1.size
        obtain ⟨gB24, hgg24⟩ : ∃ g, g = (w1).heap.size := ⟨_, rfl⟩
        rw [← hgg24] at kbB24 hgeB24 ⊢
        generalize (w1).alloc (.cells (#[.int .u64 0, .int .u64 0, .int .u64 0, .int .u64 0] : Array Value) 51) = w24 at hH24 kbB24 ⊢
        clear hgg24
        refine hK.out _ _ hH24 (fun _ => ?_)
        try simp only [Act.put, Sa, Sb, Sc]
        refine RD2 3 8 rfl rfl (fun K hK => ?_) (fun K hK => ?_)
        · go_simp
          go_at_call 98
          refine (hdiv _).mono ?_
          rintro e25 w25 ⟨rfl, hc25⟩
          dsimp only
          have hH25 := hH24.trans hc25 (by simp)
          have kbB25 := kbB24.chg hc25 (by simp)
          refine hK.out _ _ hH25 (fun _ => ?_)
          try simp only [Act.put, Sa, Sb, Sc, Sd, Se, Sf]
          refine TK 4 (.tuple #[.agg #[.int .u64 q0, .int .u64 q1, .int .u64 q2, .int .u64 q3], .agg #[.int .u64 r0, .int .u64 r1, .int .u64 r2, .int .u64 r3], .int .i64 0]) rfl hH25 (fun w' hw' => ?_) ?_
          · go_simp
          try simp only [Act.put, Sa, Sb, Sc, Sd, Se, Sf]
          refine TK 5 (.agg #[.int .u64 q0, .int .u64 q1, .int .u64 q2, .int .u64 q3]) rfl hH25 (fun w' hw' => ?_) ?_
          · go_simp
          try simp only [Act.put, Sa, Sb, Sc, Sd, Se, Sf]
          refine TK 6 (.agg #[.int .u64 r0, .int .u64 r1, .int .u64 r2, .int .u64 r3]) rfl hH25 (fun w' hw' => ?_) ?_
          · go_simp
          try simp only [Act.put, Sa, Sb, Sc, Sd, Se, Sf]
          refine TK 7 (.int .i64 0) rfl hH25 (fun w' hw' => ?_) ?_
          · go_simp
          try simp only [Act.put, Sa, Sb, Sc, Sd, Se, Sf]
          refine RD 8 rfl (fun K hK => ?_)
          rw [if_pos (by rfl)]
          refine op_alloc 51 10 (by kernel_rfl) (by kernel_rfl) zeroW ?_
          have kbA26 := Blk.new (w25) (#[.int .u64 0, .int .u64 0, .int .u64 0, .int .u64 0] : Array Value) 51
          have hH26 := hH25.alloc (.cells (#[.int .u64 0, .int .u64 0, .int .u64 0, .int .u64 0] : Array Value) 51)
          have hgeA26 := hH25.size
          have kbB26 := kbB25.alloc (.cells (#[.int .u64 0, .int .u64 0, .int .u64 0, .int .u64 0] : Array Value) 51)
          have hneBA26 := kbB25.lt
          obtain ⟨gA26, hgg26⟩ : ∃ g, g = (w25).heap.size := ⟨_, rfl⟩
          rw [← hgg26] at kbA26 hgeA26 hneBA26 ⊢
          generalize (w25).alloc (.cells (#[.int .u64 0, .int .u64 0, .int .u64 0, .int .u64 0] : Array Value) 51) = w26 at hH26 kbB26 kbA26 ⊢
          clear hgg26
          refine hK.out _ _ hH26 (fun _ => ?_)
          try simp only [Act.put, Sa, Sb, Sc]
          refine RD 10 rfl (fun K hK => ?_)
          rw [if_pos (by rfl)]
          refine op_store 51 (.tmp 10) (.tmp 33) (by kernel_rfl) (by kernel_rfl) rfl (cs := [.int .u64 q0, .int .u64 q1, .int .u64 q2, .int .u64 q3]) rfl kbA26 (by simp) infoW (by simp [Value.oneCell']) ?_
          intro w27 kbA27 hc27
          have hH27 : Chg [] W0 w27 := hH26.trans hc27 (by simp; omega)
          have kbB27 := kbB26.chg hc27 (by simp; omega)
          refine hK.out _ _ hH27 (fun _ => ?_)
          try simp only [Act.put, Sa, Sb, Sc, Sd, Se, Sf]
          refine RD 11 rfl (fun K hK => ?_)
          rw [if_pos (by rfl)]
          refine op_store 51 (.tmp 11) (.tmp 34) (by kernel_rfl) (by kernel_rfl) rfl (cs := [.int .u64 r0, .int .u64 r1, .int .u64 r2, .int .u64 r3]) rfl kbB27 (by simp) infoW (by simp [Value.oneCell']) ?_
          intro w28 kbB28 hc28
          have hH28 : Chg [] W0 w28 := hH27.trans hc28 (by simp; omega)
          have kbA28 := kbA27.chg hc28 (by simp; omega)
          refine hK.out _ _ hH28 (fun _ => ?_)
          try simp only [Act.put, Sa, Sb, Sc, Sd, Se, Sf]
          refine RD 12 rfl (fun K hK => ?_)
          go_simp
          refine hK.out _ _ hH28 (fun _ => ?_)
          try simp only [Act.put, Sa, Sb, Sc, Sd, Se, Sf]
          refine wpAnyH_done (by kernel_rfl) ?_ _
          go_wp2_with fail
          go_meet
          exact ⟨gA26, gB24, rfl, rfl, kbA28, kbB28, by omega, by omega, by omega, hH28⟩
        · rw [if_pos (by rfl)]
          refine op_alloc 51 10 (by kernel_rfl) (by kernel_rfl) zeroW ?_
          have kbA30 := Blk.new (w24) (#[.int .u64 0, .int .u64 0, .int .u64 0, .int .u64 0] : Array Value) 51
          have hH30 := hH24.alloc (.cells (#[.int .u64 0, .int .u64 0, .int .u64 0, .int .u64 0] : Array Value) 51)
          have hgeA30 := hH24.size
          have kbB30 := kbB24.alloc (.cells (#[.int .u64 0, .int .u64 0, .int .u64 0, .int .u64 0] : Array Value) 51)
          have hneBA30 := kbB24.lt
          obtain ⟨gA30, hgg30⟩ : ∃ g, g = (w24).heap.size := ⟨_, rfl⟩
          rw [← hgg30] at kbA30 hgeA30 hneBA30 ⊢
          generalize (w24).alloc (.cells (#[.int .u64 0, .int .u64 0, .int .u64 0, .int .u64 0] : Array Value) 51) = w30 at hH30 kbB30 kbA30 ⊢
          clear hgg30
          refine hK.out _ _ hH30 (fun _ => ?_)
          try simp only [Act.put, Sa, Sb, Sc]
          refine RD 3 rfl (fun K hK => ?_)
          go_simp
          go_at_call 98
          refine (hdiv _).mono ?_
          rintro e31 w31 ⟨rfl, hc31⟩
          dsimp only
          have hH31 := hH30.trans hc31 (by simp)
          have kbB31 := kbB30.chg hc31 (by simp)
          have kbA31 := kbA30.chg hc31 (by simp)
          refine hK.out _ _ hH31 (fun _ => ?_)
          try simp only [Act.put, Sa, Sb, Sc, Sd, Se, Sf]
          refine TK 4 (.tuple #[.agg #[.int .u64 q0, .int .u64 q1, .int .u64 q2, .int .u64 q3], .agg #[.int .u64 r0, .int .u64 r1, .int .u64 r2, .int .u64 r3], .int .i64 0]) rfl hH31 (fun w' hw' => ?_) ?_
          · go_simp
          try simp only [Act.put, Sa, Sb, Sc, Sd, Se, Sf]
          refine TK 5 (.agg #[.int .u64 q0, .int .u64 q1, .int .u64 q2, .int .u64 q3]) rfl hH31 (fun w' hw' => ?_) ?_
          · go_simp
          try simp only [Act.put, Sa, Sb, Sc, Sd, Se, Sf]
          refine TK 6 (.agg #[.int .u64 r0, .int .u64 r1, .int .u64 r2, .int .u64 r3]) rfl hH31 (fun w' hw' => ?_) ?_
          · go_simp
          try simp only [Act.put, Sa, Sb, Sc, Sd, Se, Sf]
          refine TK 7 (.int .i64 0) rfl hH31 (fun w' hw' => ?_) ?_
          · go_simp
          try simp only [Act.put, Sa, Sb, Sc, Sd, Se, Sf]
          refine RD 10 rfl (fun K hK => ?_)
          rw [if_pos (by rfl)]
          refine op_store 51 (.tmp 10) (.tmp 33) (by kernel_rfl) (by kernel_rfl) rfl (cs := [.int .u64 q0, .int .u64 q1, .int .u64 q2, .int .u64 q3]) rfl kbA31 (by simp) infoW (by simp [Value.oneCell']) ?_
          intro w32 kbA32 hc32
          have hH32 : Chg [] W0 w32 := hH31.trans hc32 (by simp; omega)
          have kbB32 := kbB31.chg hc32 (by simp; omega)
          refine hK.out _ _ hH32 (fun _ => ?_)
          try simp only [Act.put, Sa, Sb, Sc, Sd, Se, Sf]
          refine RD 11 rfl (fun K hK => ?_)
          rw [if_pos (by rfl)]
          refine op_store 51 (.tmp 11) (.tmp 34) (by kernel_rfl) (by kernel_rfl) rfl (cs := [.int .u64 r0, .int .u64 r1, .int .u64 r2, .int .u64 r3]) rfl kbB32 (by simp) infoW (by simp [Value.oneCell']) ?_
          intro w33 kbB33 hc33
          have hH33 : Chg [] W0 w33 := hH32.trans hc33 (by simp; omega)
          have kbA33 := kbA32.chg hc33 (by simp; omega)
          refine hK.out _ _ hH33 (fun _ => ?_)
          try simp only [Act.put, Sa, Sb, Sc, Sd, Se, Sf]
          refine RD 12 rfl (fun K hK => ?_)
          go_simp
          refine hK.out _ _ hH33 (fun _ => ?_)
          try simp only [Act.put, Sa, Sb, Sc, Sd, Se, Sf]
          refine wpAnyH_done (by kernel_rfl) ?_ _
          go_wp2_with fail
          go_meet
          exact ⟨gA30, gB24, rfl, rfl, kbA33, kbB33, by omega, by omega, by omega, hH33⟩
    · rw [if_pos (by rfl)]
      refine op_alloc 51 10 (by kernel_rfl) (by kernel_rfl) zeroW ?_
      have kbA35 := Blk.new ((W0).drew) (#[.int .u64 0, .int .u64 0, .int .u64 0, .int .u64 0] : Array Value) 51
      have hH35 := hH.alloc (.cells (#[.int .u64 0, .int .u64 0, .int .u64 0, .int .u64 0] : Array Value) 51)
      have hgeA35 := hH.size
      obtain ⟨gA35, hgg35⟩ : ∃ g, g = ((W0).drew).heap.size := ⟨_, rfl⟩
      rw [← hgg35] at kbA35 hgeA35 ⊢
      generalize ((W0).drew).alloc (.cells (#[.int .u64 0, .int .u64 0, .int .u64 0, .int .u64 0] : Array Value) 51) = w35 at hH35 kbA35 ⊢
      clear hgg35
      refine hK.out _ _ hH35 (fun _ => ?_)
      try simp only [Act.put, Sa, Sb, Sc]
      refine RD2 2 9 rfl rfl (fun K hK => ?_) (fun K hK => ?_)
      · go_simp
        go_at_call 87
        refine (hof _).mono ?_
        rintro e36 w36 ⟨rfl, hc36⟩
        dsimp only
        have hH36 := hH35.trans hc36 (by simp)
        have kbA36 := kbA35.chg hc36 (by simp)
        refine hK.out _ _ hH36 (fun _ => ?_)
        try simp only [Act.put, Sa, Sb, Sc, Sd, Se, Sf]
        refine RD2 3 9 rfl rfl (fun K hK => ?_) (fun K hK => ?_)
        · go_simp
          go_at_call 98
          refine (hdiv _).mono ?_
          rintro e37 w37 ⟨rfl, hc37⟩
          dsimp only
          have hH37 := hH36.trans hc37 (by simp)
          have kbA37 := kbA36.chg hc37 (by simp)
          refine hK.out _ _ hH37 (fun _ => ?_)
          try simp only [Act.put, Sa, Sb, Sc, Sd, Se, Sf]
          refine TK 4 (.tuple #[.agg #[.int .u64 q0, .int .u64 q1, .int .u64 q2, .int .u64 q3], .agg #[.int .u64 r0, .int .u64 r1, .int .u64 r2, .int .u64 r3], .int .i64 0]) rfl hH37 (fun w' hw' => ?_) ?_
          · go_simp
          try simp only [Act.put, Sa, Sb, Sc, Sd, Se, Sf]
          refine TK 5 (.agg #[.int .u64 q0, .int .u64 q1, .int .u64 q2, .int .u64 q3]) rfl hH37 (fun w' hw' => ?_) ?_
          · go_simp
          try simp only [Act.put, Sa, Sb, Sc, Sd, Se, Sf]
          refine TK 6 (.agg #[.int .u64 r0, .int .u64 r1, .int .u64 r2, .int .u64 r3]) rfl hH37 (fun w' hw' => ?_) ?_
          · go_simp
          try simp only [Act.put, Sa, Sb, Sc, Sd, Se, Sf]
          refine TK 7 (.int .i64 0) rfl hH37 (fun w' hw' => ?_) ?_
          · go_simp
          try simp only [Act.put, Sa, Sb, Sc, Sd, Se, Sf]
          refine RD 9 rfl (fun K hK => ?_)
          rw [if_pos (by rfl)]
          refine op_alloc 51 11 (by kernel_rfl) (by kernel_rfl) zeroW ?_
          have kbB38 := Blk.new (w37) (#[.int .u64 0, .int .u64 0, .int .u64 0, .int .u64 0] : Array Value) 51
          have hH38 := hH37.alloc (.cells (#[.int .u64 0, .int .u64 0, .int .u64 0, .int .u64 0] : Array Value) 51)
          have hgeB38 := hH37.size
          have kbA38 := kbA37.alloc (.cells (#[.int .u64 0, .int .u64 0, .int .u64 0, .int .u64 0] : Array Value) 51)
          have hneAB38 := kbA37.lt
          obtain ⟨gB38, hgg38⟩ : ∃ g, g = (w37).heap.size := ⟨_, rfl⟩
          rw [← hgg38] at kbB38 hgeB38 hneAB38 ⊢
          generalize (w37).alloc (.cells (#[.int .u64 0, .int .u64 0, .int .u64 0, .int .u64 0] : Array Value) 51) = w38 at hH38 kbA38 kbB38 ⊢
          clear hgg38
          refine hK.out _ _ hH38 (fun _ => ?_)
          try simp only [Act.put, Sa, Sb, Sc]
          refine RD 10 rfl (fun K hK => ?_)
          rw [if_pos (by rfl)]
          refine op_store 51 (.tmp 10) (.tmp 33) (by kernel_rfl) (by kernel_rfl) rfl (cs := [.int .u64 q0, .int .u64 q1, .int .u64 q2, .int .u64 q3]) rfl kbA38 (by simp) infoW (by simp [Value.oneCell']) ?_
          intro w39 kbA39 hc39
          have hH39 : Chg [] W0 w39 := hH38.trans hc39 (by simp; omega)
          have kbB39 := kbB38.chg hc39 (by simp; omega)
          refine hK.out _ _ hH39 (fun _ => ?_)
          try simp only [Act.put, Sa, Sb, Sc, Sd, Se, Sf]
          refine RD 11 rfl (fun K hK => ?_)
          rw [if_pos (by rfl)]
          refine op_store 51 (.tmp 11) (.tmp 34) (by kernel_rfl) (by kernel_rfl) rfl (cs := [.int .u64 r0, .int .u64 r1, .int .u64 r2, .int .u64 r3]) rfl kbB39 (by simp) infoW (by simp [Value.oneCell']) ?_
          intro w40 kbB40 hc40
          have hH40 : Chg [] W0 w40 := hH39.trans hc40 (by simp; omega)
          have kbA40 := kbA39.chg hc40 (by simp; omega)
          refine hK.out _ _ hH40 (fun _ => ?_)
          try simp only [Act.put, Sa, Sb, Sc, Sd, Se, Sf]
          refine RD 12 rfl (fun K hK => ?_)
          go_simp
          refine hK.out _ _ hH40 (fun _ => ?_)
          try simp only [Act.put, Sa, Sb, Sc, Sd, Se, Sf]
          refine wpAnyH_done (by kernel_rfl) ?_ _
          go_wp2_with fail
          go_meet
          exact ⟨gA35, gB38, rfl, rfl, kbA40, kbB40, by omega, by omega, by omega, hH40⟩
        · rw [if_pos (by rfl)]
          refine op_alloc 51 11 (by kernel_rfl) (by kernel_rfl) zeroW ?_
          have kbB42 := Blk.new (w36) (#[.int .u64 0, .int .u64 0, .int .u64 0, .int .u64 0] : Array Value) 51
          have hH42 := hH36.alloc (.cells (#[.int .u64 0, .int .u64 0, .int .u64 0, .int .u64 0] : Array Value) 51)
          have hgeB42 := hH36.size
          have kbA42 := kbA36.alloc (.cells (#[.int .u64 0, .int .u64 0, .int .u64 0, .int .u64 0] : Array Value) 51)
          have hneAB42 := kbA36.lt
          obtain ⟨gB42, hgg42⟩ : ∃ g, g = (w36).heap.size := ⟨_, rfl⟩
          rw [← hgg42] at kbB42 hgeB42 hneAB42 ⊢
          generalize (w36).alloc (.cells (#[.int .u64 0, .int .u64 0, .int .u64 0, .int .u64 0] : Array Value) 51) = w42 at hH42 kbA42 kbB42 ⊢
          clear hgg42
          refine hK.out _ _ hH42 (fun _ => ?_)
          try simp only [Act.put, Sa, Sb, Sc]
          refine RD 3 rfl (fun K hK => ?_)
          go_simp
          go_at_call 98
          refine (hdiv _).mono ?_
          rintro e43 w43 ⟨rfl, hc43⟩
          dsimp only
          have hH43 := hH42.trans hc43 (by simp)
          have kbA43 := kbA42.chg hc43 (by simp)
          have kbB43 := kbB42.chg hc43 (by simp)
          refine hK.out _ _ hH43 (fun _ => ?_)
          try simp only [Act.put, Sa, Sb, Sc, Sd, Se, Sf]
          refine TK 4 (.tuple #[.agg #[.int .u64 q0, .int .u64 q1, .int .u64 q2, .int .u64 q3], .agg #[.int .u64 r0, .int .u64 r1, .int .u64 r2, .int .u64 r3], .int .i64 0]) rfl hH43 (fun w' hw' => ?_) ?_
          · go_simp
          try simp only [Act.put, Sa, Sb, Sc, Sd, Se, Sf]
          refine TK 5 (.agg #[.int .u64 q0, .int .u64 q1, .int .u64 q2, .int .u64 q3]) rfl hH43 (fun w' hw' => ?_) ?_
          · go_simp
          try simp only [Act.put, Sa, Sb, Sc, Sd, Se, Sf]
          refine TK 6 (.agg #[.int .u64 r0, .int .u64 r1, .int .u64 r2, .int .u64 r3]) rfl hH43 (fun w' hw' => ?_) ?_
          · go_simp
          try simp only [Act.put, Sa, Sb, Sc, Sd, Se, Sf]
          refine TK 7 (.int .i64 0) rfl hH43 (fun w' hw' => ?_) ?_
          · go_simp
          try simp only [Act.put, Sa, Sb, Sc, Sd, Se, Sf]
          refine RD 10 rfl (fun K hK => ?_)
          rw [if_pos (by rfl)]
          refine op_store 51 (.tmp 10) (.tmp 33) (by kernel_rfl) (by kernel_rfl) rfl (cs := [.int .u64 q0, .int .u64 q1, .int .u64 q2, .int .u64 q3]) rfl kbA43 (by simp) infoW (by simp [Value.oneCell']) ?_
          intro w44 kbA44 hc44
          have hH44 : Chg [] W0 w44 := hH43.trans hc44 (by simp; omega)
          have kbB44 := kbB43.chg hc44 (by simp; omega)
          refine hK.out _ _ hH44 (fun _ => ?_)
          try simp only [Act.put, Sa, Sb, Sc, Sd, Se, Sf]
          refine RD 11 rfl (fun K hK => ?_)
          rw [if_pos (by rfl)]
          refine op_store 51 (.tmp 11) (.tmp 34) (by kernel_rfl) (by kernel_rfl) rfl (cs := [.int .u64 r0, .int .u64 r1, .int .u64 r2, .int .u64 r3]) rfl kbB44 (by simp) infoW (by simp [Value.oneCell']) ?_
          intro w45 kbB45 hc45
          have hH45 : Chg [] W0 w45 := hH44.trans hc45 (by simp; omega)
          have kbA45 := kbA44.chg hc45 (by simp; omega)
          refine hK.out _ _ hH45 (fun _ => ?_)
          try simp only [Act.put, Sa, Sb, Sc, Sd, Se, Sf]
          refine RD 12 rfl (fun K hK => ?_)
          go_simp
          refine hK.out _ _ hH45 (fun _ => ?_)
          try simp only [Act.put, Sa, Sb, Sc, Sd, Se, Sf]
          refine wpAnyH_done (by kernel_rfl) ?_ _
          go_wp2_with fail
          go_meet
          exact ⟨gA35, gB42, rfl, rfl, kbA45, kbB45, by omega, by omega, by omega, hH45⟩
      · rw [if_pos (by rfl)]
        refine op_alloc 51 11 (by kernel_rfl) (by kernel_rfl) zeroW ?_
        have kbB47 := Blk.new (w35) (#[.int .u64 0, .int .u64 0, .int .u64 0, .int .u64 0] : Array Value) 51
        have hH47 := hH35.alloc (.cells (#[.int .u64 0, .int .u64 0, .int .u64 0, .int .u64 0] : Array Value) 51)
        have hgeB47 := hH35.size
        have kbA47 := kbA35.alloc (.cells (#[.int .u64 0, .int .u64 0, .int .u64 0, .int .u64 0] : Array Value) 51)
        have hneAB47 := kbA35.lt
        obtain ⟨gB47, hgg47⟩ : ∃ g, g = (w35).heap.size := ⟨_, rfl⟩
        rw [← hgg47] at kbB47 hgeB47 hneAB47 ⊢
        generalize (w35).alloc (.cells (#[.int .u64 0, .int .u64 0, .int .u64 0, .int .u64 0] : Array Value) 51) = w47 at hH47 kbA47 kbB47 ⊢
        clear hgg47
        refine hK.out _ _ hH47 (fun _ => ?_)
        try simp only [Act.put, Sa, Sb, Sc]
        refine RD 2 rfl (fun K hK => ?_)
        go_simp
        go_at_call 87
        refine (hof _).mono ?_
        rintro e48 w48 ⟨rfl, hc48⟩
        dsimp only
        have hH48 := hH47.trans hc48 (by simp)
        have kbA48 := kbA47.chg hc48 (by simp)
        have kbB48 := kbB47.chg hc48 (by simp)
        refine hK.out _ _ hH48 (fun _ => ?_)
        try simp only [Act.put, Sa, Sb, Sc, Sd, Se, Sf]
        refine RD 3 rfl (fun K hK => ?_)
        go_simp
        go_at_call 98
        refine (hdiv _).mono ?_
        rintro e49 w49 ⟨rfl, hc49⟩
        dsimp only
        have hH49 := hH48.trans hc49 (by simp)
        have kbA49 := kbA48.chg hc49 (by simp)
        have kbB49 := kbB48.chg hc49 (by simp)
        refine hK.out _ _ hH49 (fun _ => ?_)
        try simp only [Act.put, Sa, Sb, Sc, Sd, Se, Sf]
        refine TK 4 (.tuple #[.agg #[.int .u64 q0, .int .u64 q1, .int .u64 q2, .int .u64 q3], .agg #[.int .u64 r0, .int .u64 r1, .int .u64 r2, .int .u64 r3], .int .i64 0]) rfl hH49 (fun w' hw' => ?_) ?_
        · go_simp
        try simp only [Act.put, Sa, Sb, Sc, Sd, Se, Sf]
        refine TK 5 (.agg #[.int .u64 q0, .int .u64 q1, .int .u64 q2, .int .u64 q3]) rfl hH49 (fun w' hw' => ?_) ?_
        · go_simp
        try simp only [Act.put, Sa, Sb, Sc, Sd, Se, Sf]
        refine TK 6 (.agg #[.int .u64 r0, .int .u64 r1, .int .u64 r2, .int .u64 r3]) rfl hH49 (fun w' hw' => ?_) ?_
        · go_simp
        try simp only [Act.put, Sa, Sb, Sc, Sd, Se, Sf]
        refine TK 7 (.int .i64 0) rfl hH49 (fun w' hw' => ?_) ?_
        · go_simp
        try simp only [Act.put, Sa, Sb, Sc, Sd, Se, Sf]
        refine RD 10 rfl (fun K hK => ?_)
        rw [if_pos (by rfl)]
        refine op_store 51 (.tmp 10) (.tmp 33) (by kernel_rfl) (by kernel_rfl) rfl (cs := [.int .u64 q0, .int .u64 q1, .int .u64 q2, .int .u64 q3]) rfl kbA49 (by simp) infoW (by simp [Value.oneCell']) ?_
        intro w50 kbA50 hc50
        have hH50 : Chg [] W0 w50 := hH49.trans hc50 (by simp; omega)
        have kbB50 := kbB49.chg hc50 (by simp; omega)
        refine hK.out _ _ hH50 (fun _ => ?_)
        try simp only [Act.put, Sa, Sb, Sc, Sd, Se, Sf]
        refine RD 11 rfl (fun K hK => ?_)
        rw [if_pos (by rfl)]
        refine op_store 51 (.tmp 11) (.tmp 34) (by kernel_rfl) (by kernel_rfl) rfl (cs := [.int .u64 r0, .int .u64 r1, .int .u64 r2, .int .u64 r3]) rfl kbB50 (by simp) infoW (by simp [Value.oneCell']) ?_
        intro w51 kbB51 hc51
        have hH51 : Chg [] W0 w51 := hH50.trans hc51 (by simp; omega)
        have kbA51 := kbA50.chg hc51 (by simp; omega)
        refine hK.out _ _ hH51 (fun _ => ?_)
        try simp only [Act.put, Sa, Sb, Sc, Sd, Se, Sf]
        refine RD 12 rfl (fun K hK => ?_)
        go_simp
        refine hK.out _ _ hH51 (fun _ => ?_)
        try simp only [Act.put, Sa, Sb, Sc, Sd, Se, Sf]
        refine wpAnyH_done (by kernel_rfl) ?_ _
        go_wp2_with fail
        go_meet
        exact ⟨gA35, gB47, rfl, rfl, kbA51, kbB51, by omega, by omega, by omega, hH51⟩
    · rw [if_pos (by rfl)]
      refine op_alloc 51 11 (by kernel_rfl) (by kernel_rfl) zeroW ?_
      have kbB53 := Blk.new ((W0).drew) (#[.int .u64 0, .int .u64 0, .int .u64 0, .int .u64 0] : Array Value) 51
      have hH53 := hH.alloc (.cells (#[.int .u64 0, .int .u64 0, .int .u64 0, .int .u64 0] : Array Value) 51)
      have hgeB53 := hH.size
      obtain ⟨gB53, hgg53⟩ : ∃ g, g = ((W0).drew).heap.size := ⟨_, rfl⟩
      rw [← hgg53] at kbB53 hgeB53 ⊢
      generalize ((W0).drew).alloc (.cells (#[.int .u64 0, .int .u64 0, .int .u64 0, .int .u64 0] : Array Value) 51) = w53 at hH53 kbB53 ⊢
      clear hgg53
      refine hK.out _ _ hH53 (fun _ => ?_)
      try simp only [Act.put, Sa, Sb, Sc]
      refine RD2 2 8 rfl rfl (fun K hK => ?_) (fun K hK => ?_)
      · go_simp
        go_at_call 87
        refine (hof _).mono ?_
        rintro e54 w54 ⟨rfl, hc54⟩
        dsimp only
        have hH54 := hH53.trans hc54 (by simp)
        have kbB54 := kbB53.chg hc54 (by simp)
        refine hK.out _ _ hH54 (fun _ => ?_)
        try simp only [Act.put, Sa, Sb, Sc, Sd, Se, Sf]
        refine RD2 3 8 rfl rfl (fun K hK => ?_) (fun K hK => ?_)
        · go_simp
          go_at_call 98
          refine (hdiv _).mono ?_
          rintro e55 w55 ⟨rfl, hc55⟩
          dsimp only
          have hH55 := hH54.trans hc55 (by simp)
          have kbB55 := kbB54.chg hc55 (by simp)
          refine hK.out _ _ hH55 (fun _ => ?_)
          try simp only [Act.put, Sa, Sb, Sc, Sd, Se, Sf]
          refine TK 4 (.tuple #[.agg #[.int .u64 q0, .int .u64 q1, .int .u64 q2, .int .u64 q3], .agg #[.int .u64 r0, .int .u64 r1, .int .u64 r2, .int .u64 r3], .int .i64 0]) rfl hH55 (fun w' hw' => ?_) ?_
          · go_simp
          try simp only [Act.put, Sa, Sb, Sc, Sd, Se, Sf]
          refine TK 5 (.agg #[.int .u64 q0, .int .u64 q1, .int .u64 q2, .int .u64 q3]) rfl hH55 (fun w' hw' => ?_) ?_
          · go_simp
          try simp only [Act.put, Sa, Sb, Sc, Sd, Se, Sf]
          refine TK 6 (.agg #[.int .u64 r0, .int .u64 r1, .int .u64 r2, .int .u64 r3]) rfl hH55 (fun w' hw' => ?_) ?_
          · go_simp
          try simp only [Act.put, Sa, Sb, Sc, Sd, Se, Sf]
          refine TK 7 (.int .i64 0) rfl hH55 (fun w' hw' => ?_) ?_
          · go_simp
          try simp only [Act.put, Sa, Sb, Sc, Sd, Se, Sf]
          refine RD 8 rfl (fun K hK => ?_)
          rw [if_pos (by rfl)]
          refine op_alloc 51 10 (by kernel_rfl) (by kernel_rfl) zeroW ?_
          have kbA56 := Blk.new (w55) (#[.int .u64 0, .int .u64 0, .int .u64 0, .int .u64 0] : Array Value) 51
          have hH56 := hH55.alloc (.cells (#[.int .u64 0, .int .u64 0, .int .u64 0, .int .u64 0] : Array Value) 51)
          have hgeA56 := hH55.size
          have kbB56 := kbB55.alloc (.cells (#[.int .u64 0, .int .u64 0, .int .u64 0, .int .u64 0] : Array Value) 51)
          have hneBA56 := kbB55.lt
          obtain ⟨gA56, hgg56⟩ : ∃ g, g = (w55).heap.size := ⟨_, rfl⟩
          rw [← hgg56] at kbA56 hgeA56 hneBA56 ⊢
          generalize (w55).alloc (.cells (#[.int .u64 0, .int .u64 0, .int .u64 0, .int .u64 0] : Array Value) 51) = w56 at hH56 kbB56 kbA56 ⊢
          clear hgg56
          refine hK.out _ _ hH56 (fun _ => ?_)
          try simp only [Act.put, Sa, Sb, Sc]
          refine RD 10 rfl (fun K hK => ?_)
          rw [if_pos (by rfl)]
          refine op_store 51 (.tmp 10) (.tmp 33) (by kernel_rfl) (by kernel_rfl) rfl (cs := [.int .u64 q0, .int .u64 q1, .int .u64 q2, .int .u64 q3]) rfl kbA56 (by simp) infoW (by simp [Value.oneCell']) ?_
          intro w57 kbA57 hc57
          have hH57 : Chg [] W0 w57 := hH56.trans hc57 (by simp; omega)
          have kbB57 := kbB56.chg hc57 (by simp; omega)
          refine hK.out _ _ hH57 (fun _ => ?_)
          try simp only [Act.put, Sa, Sb, Sc, Sd, Se, Sf]
          refine RD 11 rfl (fun K hK => ?_)
          rw [if_pos (by rfl)]
          refine op_store 51 (.tmp 11) (.tmp 34) (by kernel_rfl) (by kernel_rfl) rfl (cs := [.int .u64 r0, .int .u64 r1, .int .u64 r2, .int .u64 r3]) rfl kbB57 (by simp) infoW (by simp [Value.oneCell']) ?_
          intro w58 kbB58 hc58
          have hH58 : Chg [] W0 w58 := hH57.trans hc58 (by simp; omega)
          have kbA58 := kbA57.chg hc58 (by simp; omega)
          refine hK.out _ _ hH58 (fun _ => ?_)
          try simp only [Act.put, Sa, Sb, Sc, Sd, Se, Sf]
          refine RD 12 rfl (fun K hK => ?_)
          go_simp
          refine hK.out _ _ hH58 (fun _ => ?_)
          try simp only [Act.put, Sa, Sb, Sc, Sd, Se, Sf]
          refine wpAnyH_done (by kernel_rfl) ?_ _
          go_wp2_with fail
          go_meet
          exact ⟨gA56, gB53, rfl, rfl, kbA58, kbB58, by omega, by omega, by omega, hH58⟩
        · rw [if_pos (by rfl)]
          refine op_alloc 51 10 (by kernel_rfl) (by kernel_rfl) zeroW ?_
          have kbA60 := Blk.new (w54) (#[.int .u64 0, .int .u64 0, .int .u64 0, .int .u64 0] : Array Value) 51
          have hH60 := hH54.alloc (.cells (#[.int .u64 0, .int .u64 0, .int .u64 0, .int .u64 0] : Array Value) 51)
          have hgeA60 := hH54.size
          have kbB60 := kbB54.alloc (.cells (#[.int .u64 0, .int .u64 0, .int .u64 0, .int .u64 0] : Array Value) 51)
          have hneBA60 := kbB54.lt
          obtain ⟨gA60, hgg60⟩ : ∃ g, g = (w54).heap.size := ⟨_, rfl⟩
          rw [← hgg60] at kbA60 hgeA60 hneBA60 ⊢
          generalize (w54).alloc (.cells (#[.int .u64 0, .int .u64 0, .int .u64 0, .int .u64 0] : Array Value) 51) = w60 at hH60 kbB60 kbA60 ⊢
          clear hgg60
          refine hK.out _ _ hH60 (fun _ => ?_)
          try simp only [Act.put, Sa, Sb, Sc]
          refine RD 3 rfl (fun K hK => ?_)
          go_simp
          go_at_call 98
          refine (hdiv _).mono ?_
          rintro e61 w61 ⟨rfl, hc61⟩
          dsimp only
          have hH61 := hH60.trans hc61 (by simp)
          have kbB61 := kbB60.chg hc61 (by simp)
          have kbA61 := kbA60.chg hc61 (by simp)
          refine hK.out _ _ hH61 (fun _ => ?_)
          try simp only [Act.put, Sa, Sb, Sc, Sd, Se, Sf]
          refine TK 4 (.tuple #[.agg #[.int .u64 q0, .int .u64 q1, .int .u64 q2, .int .u64 q3], .agg #[.int .u64 r0, .int .u64 r1, .int .u64 r2, .int .u64 r3], .int .i64 0]) rfl hH61 (fun w' hw' => ?_) ?_
          · go_simp
          try simp only [Act.put, Sa, Sb, Sc, Sd, Se, Sf]
          refine TK 5 (.agg #[.int .u64 q0, .int .u64 q1, .int .u64 q2, .int .u64 q3]) rfl hH61 (fun w' hw' => ?_) ?_
          · go_simp
          try simp only [Act.put, Sa, Sb, Sc, Sd, Se, Sf]
          refine TK 6 (.agg #[.int .u64 r0, .int .u64 r1, .int .u64 r2, .int .u64 r3]) rfl hH61 (fun w' hw' => ?_) ?_
          · go_simp
          try simp only [Act.put, Sa, Sb, Sc, Sd, Se, Sf]
          refine TK 7 (.int .i64 0) rfl hH61 (fun w' hw' => ?_) ?_
          · go_simp
          try simp only [Act.put, Sa, Sb, Sc, Sd, Se, Sf]
          refine RD 10 rfl (fun K hK => ?_)
          rw [if_pos (by rfl)]
          refine op_store 51 (.tmp 10) (.tmp 33) (by kernel_rfl) (by kernel_rfl) rfl (cs := [.int .u64 q0, .int .u64 q1, .int .u64 q2, .int .u64 q3]) rfl kbA61 (by simp) infoW (by simp [Value.oneCell']) ?_
          intro w62 kbA62 hc62
          have hH62 : Chg [] W0 w62 := hH61.trans hc62 (by simp; omega)
          have kbB62 := kbB61.chg hc62 (by simp; omega)
          refine hK.out _ _ hH62 (fun _ => ?_)
          try simp only [Act.put, Sa, Sb, Sc, Sd, Se, Sf]
          refine RD 11 rfl (fun K hK => ?_)
          rw [if_pos (by rfl)]
          refine op_store 51 (.tmp 11) (.tmp 34) (by kernel_rfl) (by kernel_rfl) rfl (cs := [.int .u64 r0, .int .u64 r1, .int .u64 r2, .int .u64 r3]) rfl kbB62 (by simp) infoW (by simp [Value.oneCell']) ?_
          intro w63 kbB63 hc63
          have hH63 : Chg [] W0 w63 := hH62.trans hc63 (by simp; omega)
          have kbA63 := kbA62.chg hc63 (by simp; omega)
          refine hK.out _ _ hH63 (fun _ => ?_)
          try simp only [Act.put, Sa, Sb, Sc, Sd, Se, Sf]
          refine RD 12 rfl (fun K hK => ?_)
          go_simp
          refine hK.out _ _ hH63 (fun _ => ?_)
          try simp only [Act.put, Sa, Sb, Sc, Sd, Se, Sf]
          refine wpAnyH_done (by kernel_rfl) ?_ _
          go_wp2_with fail
          go_meet
          exact ⟨gA60, gB53, rfl, rfl, kbA63, kbB63, by omega, by omega, by omega, hH63⟩
      · rw [if_pos (by rfl)]
        refine op_alloc 51 10 (by kernel_rfl) (by kernel_rfl) zeroW ?_
        have kbA65 := Blk.new (w53) (#[.int .u64 0, .int .u64 0, .int .u64 0, .int .u64 0] : Array Value) 51
        have hH65 := hH53.alloc (.cells (#[.int .u64 0, .int .u64 0, .int .u64 0, .int .u64 0] : Array Value) 51)
        have hgeA65 := hH53.size
        have kbB65 := kbB53.alloc (.cells (#[.int .u64 0, .int .u64 0, .int .u64 0, .int .u64 0] : Array Value) 51)
        have hneBA65 := kbB53.lt
        obtain ⟨gA65, hgg65⟩ : ∃ g, g = (w53).heap.size := ⟨_, rfl⟩
        rw [← hgg65] at kbA65 hgeA65 hneBA65 ⊢
        generalize (w53).alloc (.cells (#[.int .u64 0, .int .u64 0, .int .u64 0, .int .u64 0] : Array Value) 51) = w65 at hH65 kbB65 kbA65 ⊢
        clear hgg65
        refine hK.out _ _ hH65 (fun _ => ?_)
        try simp only [Act.put, Sa, Sb, Sc]
        refine RD 2 rfl (fun K hK => ?_)
        go_simp
        go_at_call 87
        refine (hof _).mono ?_
        rintro e66 w66 ⟨rfl, hc66⟩
        dsimp only
        have hH66 := hH65.trans hc66 (by simp)
        have kbB66 := kbB65.chg hc66 (by simp)
        have kbA66 := kbA65.chg hc66 (by simp)
        refine hK.out _ _ hH66 (fun _ => ?_)
        try simp only [Act.put, Sa, Sb, Sc, Sd, Se, Sf]
        refine RD 3 rfl (fun K hK => ?_)
        go_simp
        go_at_call 98
        refine (hdiv _).mono ?_
        rintro e67 w67 ⟨rfl, hc67⟩
        dsimp only
        have hH67 := hH66.trans hc67 (by simp)
        have kbB67 := kbB66.chg hc67 (by simp)
        have kbA67 := kbA66.chg hc67 (by simp)
        refine hK.out _ _ hH67 (fun _ => ?_)
        try simp only [Act.put, Sa, Sb, Sc, Sd, Se, Sf]
        refine TK 4 (.tuple #[.agg #[.int .u64 q0, .int .u64 q1, .int .u64 q2, .int .u64 q3], .agg #[.int .u64 r0, .int .u64 r1, .int .u64 r2, .int .u64 r3], .int .i64 0]) rfl hH67 (fun w' hw' => ?_) ?_
        · go_simp
        try simp only [Act.put, Sa, Sb, Sc, Sd, Se, Sf]
        refine TK 5 (.agg #[.int .u64 q0, .int .u64 q1, .int .u64 q2, .int .u64 q3]) rfl hH67 (fun w' hw' => ?_) ?_
        · go_simp
        try simp only [Act.put, Sa, Sb, Sc, Sd, Se, Sf]
        refine TK 6 (.agg #[.int .u64 r0, .int .u64 r1, .int .u64 r2, .int .u64 r3]) rfl hH67 (fun w' hw' => ?_) ?_
        · go_simp
        try simp only [Act.put, Sa, Sb, Sc, Sd, Se, Sf]
        refine TK 7 (.int .i64 0) rfl hH67 (fun w' hw' => ?_) ?_
        · go_simp
        try simp only [Act.put, Sa, Sb, Sc, Sd, Se, Sf]
        refine RD 10 rfl (fun K hK => ?_)
        rw [if_pos (by rfl)]
        refine op_store 51 (.tmp 10) (.tmp 33) (by kernel_rfl) (by kernel_rfl) rfl (cs := [.int .u64 q0, .int .u64 q1, .int .u64 q2, .int .u64 q3]) rfl kbA67 (by simp) infoW (by simp [Value.oneCell']) ?_
        intro w68 kbA68 hc68
        have hH68 : Chg [] W0 w68 := hH67.trans hc68 (by simp; omega)
        have kbB68 := kbB67.chg hc68 (by simp; omega)
        refine hK.out _ _ hH68 (fun _ => ?_)
        try simp only [Act.put, Sa, Sb, Sc, Sd, Se, Sf]
        refine RD 11 rfl (fun K hK => ?_)
        rw [if_pos (by rfl)]
        refine op_store 51 (.tmp 11) (.tmp 34) (by kernel_rfl) (by kernel_rfl) rfl (cs := [.int .u64 r0, .int .u64 r1, .int .u64 r2, .int .u64 r3]) rfl kbB68 (by simp) infoW (by simp [Value.oneCell']) ?_
        intro w69 kbB69 hc69
        have hH69 : Chg [] W0 w69 := hH68.trans hc69 (by simp; omega)
        have kbA69 := kbA68.chg hc69 (by simp; omega)
        refine hK.out _ _ hH69 (fun _ => ?_)
        try simp only [Act.put, Sa, Sb, Sc, Sd, Se, Sf]
        refine RD 12 rfl (fun K hK => ?_)
        go_simp
        refine hK.out _ _ hH69 (fun _ => ?_)
        try simp only [Act.put, Sa, Sb, Sc, Sd, Se, Sf]
        refine wpAnyH_done (by kernel_rfl) ?_ _
        go_wp2_with fail
        go_meet
        exact ⟨gA65, gB53, rfl, rfl, kbA69, kbB69, by omega, by omega, by omega, hH69⟩
  case rest =>
    obtain ⟨gA, gB, rfl, rfl, hA, hB, hAB, hgA, hgB, hc5⟩ := hcut
    have bM := b7.chg hc5 (by simp)
    have bR := b8.chg hc5 (by simp)
    have bB := hB
    have p0 := hA.cell 0 rfl; have p1 := hA.cell 1 rfl; have p2 := hA.cell 2 rfl; have p3 := hA.cell 3 rfl
    have r0 := hB.cell 0 rfl; have r1 := hB.cell 1 rfl; have r2 := hB.cell 2 rfl; have r3 := hB.cell 3 rfl
    go_wp2_with fail
    refine (hmq _).mono ?_
    rintro e w6 ⟨rfl, hc6⟩
    dsimp only
    clear heq
    go_upto_region 7 with fail
    replace bB := bB.chg hc6 (by simp)
    replace bM := bM.chg hc6 (by simp)
    replace bR := bR.chg hc6 (by simp)
    have hcc6 := hc5.trans hc6 (by simp)
    have bH := Blk.new w6 #[.int .u64 h0, .int .u64 h1, .int .u64 h2, .int .u64 h3] 51
    have hcH := hcc6.alloc (.cells #[.int .u64 h0, .int .u64 h1, .int .u64 h2, .int .u64 h3] 51)
    have hgeH := hcc6.size
    obtain ⟨gH, hggH⟩ : ∃ g, g = w6.heap.size := ⟨_, rfl⟩
    have hneBH := bB.lt
    replace bB := bB.alloc (.cells #[.int .u64 h0, .int .u64 h1, .int .u64 h2, .int .u64 h3] 51)
    have hneMH := bM.lt
    replace bM := bM.alloc (.cells #[.int .u64 h0, .int .u64 h1, .int .u64 h2, .int .u64 h3] 51)
    have hneRH := bR.lt
    replace bR := bR.alloc (.cells #[.int .u64 h0, .int .u64 h1, .int .u64 h2, .int .u64 h3] 51)
    rw [← hggH] at bH hgeH hneBH hneMH hneRH ⊢
    generalize w6.alloc (.cells #[.int .u64 h0, .int .u64 h1, .int .u64 h2, .int .u64 h3] 51) = w7 at hcH bH bB bM bR ⊢
    clear hggH
    have rb0 := bB.cell 0 rfl; have rb1 := bB.cell 1 rfl; have rb2 := bB.cell 2 rfl; have rb3 := bB.cell 3 rfl
    go_wp2_with fail
    refine (hmr _).mono ?_
    rintro e w8 ⟨rfl, hc8⟩
    dsimp only
    replace bH := bH.chg hc8 (by simp)
    replace bM := bM.chg hc8 (by simp)
    replace bR := bR.chg hc8 (by simp)
    have hcc8 := hcH.trans hc8 (by simp)
    go_upto_region 8 with fail
    have bL := Blk.new w8 #[.int .u64 l0, .int .u64 l1, .int .u64 l2, .int .u64 l3] 51
    have hcL := hcc8.alloc (.cells #[.int .u64 l0, .int .u64 l1, .int .u64 l2, .int .u64 l3] 51)
    have hgeL := hcc8.size
    obtain ⟨gL, hggL⟩ : ∃ g, g = w8.heap.size := ⟨_, rfl⟩
    have hneHL := bH.lt
    replace bH := bH.alloc (.cells #[.int .u64 l0, .int .u64 l1, .int .u64 l2, .int .u64 l3] 51)
    have hneML := bM.lt
    replace bM := bM.alloc (.cells #[.int .u64 l0, .int .u64 l1, .int .u64 l2, .int .u64 l3] 51)
    have hneRL := bR.lt
    replace bR := bR.alloc (.cells #[.int .u64 l0, .int .u64 l1, .int .u64 l2, .int .u64 l3] 51)
    rw [← hggL] at bL hgeL hneHL hneML hneRL ⊢
    generalize w8.alloc (.cells #[.int .u64 l0, .int .u64 l1, .int .u64 l2, .int .u64 l3] 51) = w9 at hcL bL bH bM bR ⊢
    clear hggL
    refine wp_region_held_drew (S := fun w' => Chg [] W0 w') (by kernel_rfl) (hcL.drew) (fun hH21 => ?_)
    have kdL21 := bL.chg ((Chg.refl [] _).drew) (by simp)
    have kdH21 := bH.chg ((Chg.refl [] _).drew) (by simp)
    have kdM21 := bM.chg ((Chg.refl [] _).drew) (by simp)
    have kdR21 := bR.chg ((Chg.refl [] _).drew) (by simp)
    refine TK 1 (.int .u64 by_) rfl hH21 (fun w' hw' => ?_) ?_
    · go_simp
    try simp only [Act.put, Sa, Sb, Sc, Sd, Se, Sf]
    refine RD2 0 2 rfl rfl (fun K hK => ?_) (fun K hK => ?_)
    · have c22_0 := kdL21.cell 0 rfl
      have c22_1 := kdL21.cell 1 rfl
      have c22_2 := kdL21.cell 2 rfl
      have c22_3 := kdL21.cell 3 rfl
      go_simp
      refine hK.out _ _ hH21 (fun _ => ?_)
      try simp only [Act.put, Sa, Sb, Sc, Sd, Se, Sf]
      refine RD 2 rfl (fun K hK => ?_)
      go_simp
      go_at_call 87
      refine (hof _).mono ?_
      rintro e23 w23 ⟨rfl, hc23⟩
      dsimp only
      have hH23 := hH21.trans hc23 (by simp)
      have kbL23 := kdL21.chg hc23 (by simp)
      have kbH23 := kdH21.chg hc23 (by simp)
      have kbM23 := kdM21.chg hc23 (by simp)
      have kbR23 := kdR21.chg hc23 (by simp)
      refine hK.out _ _ hH23 (fun _ => ?_)
      try simp only [Act.put, Sa, Sb, Sc, Sd, Se, Sf]
      refine RD 3 rfl (fun K hK => ?_)
      go_simp
      go_at_call 98
      refine (hdl _).mono ?_
      rintro e24 w24 ⟨rfl, hc24⟩
      dsimp only
      have hH24 := hH23.trans hc24 (by simp)
      have kbL24 := kbL23.chg hc24 (by simp)
      have kbH24 := kbH23.chg hc24 (by simp)
      have kbM24 := kbM23.chg hc24 (by simp)
      have kbR24 := kbR23.chg hc24 (by simp)
      refine hK.out _ _ hH24 (fun _ => ?_)
      try simp only [Act.put, Sa, Sb, Sc, Sd, Se, Sf]
      refine TK 4 (.tuple #[.agg #[.int .u64 y0, .int .u64 y1, .int .u64 y2, .int .u64 y3], .agg #[.int .u64 z0, .int .u64 z1, .int .u64 z2, .int .u64 z3], .int .i64 0]) rfl hH24 (fun w' hw' => ?_) ?_
      · go_simp
      try simp only [Act.put, Sa, Sb, Sc, Sd, Se, Sf]
      refine TK 5 (.agg #[.int .u64 y0, .int .u64 y1, .int .u64 y2, .int .u64 y3]) rfl hH24 (fun w' hw' => ?_) ?_
      · go_simp
      try simp only [Act.put, Sa, Sb, Sc, Sd, Se, Sf]
      refine TK 6 (.agg #[.int .u64 z0, .int .u64 z1, .int .u64 z2, .int .u64 z3]) rfl hH24 (fun w' hw' => ?_) ?_
      · go_simp
      try simp only [Act.put, Sa, Sb, Sc, Sd, Se, Sf]
      refine TK 7 (.int .i64 0) rfl hH24 (fun w' hw' => ?_) ?_
      · go_simp
      try simp only [Act.put, Sa, Sb, Sc, Sd, Se, Sf]
      refine RD 8 rfl (fun K hK => ?_)
      rw [if_pos (by rfl)]
      refine op_store 51 (.tmp 15) (.tmp 53) (by kernel_rfl) (by kernel_rfl) rfl (cs := [.int .u64 y0, .int .u64 y1, .int .u64 y2, .int .u64 y3]) rfl kbL24 (by simp) infoW (by simp [Value.oneCell']) ?_
      intro w25 kbL25 hc25
      have hH25 : Chg [] W0 w25 := hH24.trans hc25 (by simp; omega)
      have kbH25 := kbH24.chg hc25 (by simp; omega)
      have kbM25 := kbM24.chg hc25 (by simp; omega)
      have kbR25 := kbR24.chg hc25 (by simp; omega)
      refine hK.out _ _ hH25 (fun _ => ?_)
      try simp only [Act.put, Sa, Sb, Sc, Sd, Se, Sf]
      refine wpAnyH_done (by kernel_rfl) ?_ _
      have bM := kbM25
      have bR := kbR25
      have fL := kbL25
      have fH := kbH25
      have fc := hH25
      have sl0 := fL.cell 0 rfl; have sl1 := fL.cell 1 rfl; have sl2 := fL.cell 2 rfl; have sl3 := fL.cell 3 rfl
      have sh0 := fH.cell 0 rfl; have sh1 := fH.cell 1 rfl; have sh2 := fH.cell 2 rfl; have sh3 := fH.cell 3 rfl
      go_wp2_with fail
      refine (hadd _).mono ?_
      rintro e wa ⟨rfl, hca⟩
      dsimp only
      go_upto_region 10 with fail
      replace bM := bM.chg hca (by simp)
      replace bR := bR.chg hca (by simp)
      have hcca := fc.trans hca (by simp)
      have bO := Blk.new wa #[.int .u64 o0, .int .u64 o1, .int .u64 o2, .int .u64 o3] 51
      have hcO := hcca.alloc (.cells #[.int .u64 o0, .int .u64 o1, .int .u64 o2, .int .u64 o3] 51)
      have hgeO := hcca.size
      obtain ⟨gO, hggO⟩ : ∃ g, g = wa.heap.size := ⟨_, rfl⟩
      have hneMO := bM.lt
      replace bM := bM.alloc (.cells #[.int .u64 o0, .int .u64 o1, .int .u64 o2, .int .u64 o3] 51)
      have hneRO := bR.lt
      replace bR := bR.alloc (.cells #[.int .u64 o0, .int .u64 o1, .int .u64 o2, .int .u64 o3] 51)
      rw [← hggO] at bO hgeO hneMO hneRO ⊢
      generalize wa.alloc (.cells #[.int .u64 o0, .int .u64 o1, .int .u64 o2, .int .u64 o3] 51) = wo at hcO bO bM bR ⊢
      clear hggO
      clear hof hdiv hmq hmr hdl hadd
      have sm0 := bM.cell 0 rfl; have sm1 := bM.cell 1 rfl; have sm2 := bM.cell 2 rfl; have sm3 := bM.cell 3 rfl
      have so0 := bO.cell 0 rfl; have so1 := bO.cell 1 rfl; have so2 := bO.cell 2 rfl; have so3 := bO.cell 3 rfl
      have sr0 := bR.cell 0 rfl; have sr1 := bR.cell 1 rfl; have sr2 := bR.cell 2 rfl; have sr3 := bR.cell 3 rfl
      have fr0 := bR.free 0; have fr1 := bR.free 1; have fr2 := bR.free 2; have fr3 := bR.free 3
      cases ov
      case true =>
        go_wp2
        have hk2 := (((bR.set 0 (.int .u64 m0)).set 1 (.int .u64 m1)).set 2 (.int .u64 m2)).set 3 (.int .u64 m3)
        have d0 := hk2.cell 0 rfl
        have d1 := hk2.cell 1 rfl
        have d2 := hk2.cell 2 rfl
        have d3 := hk2.cell 3 rfl
        exact bodyPost_ret (v := .tuple #[V4 m0 m1 m2 m3, .int .i64 0]) (by simp [results, Tryz.results120, go_sem, V4, d0, d1, d2, d3]) rfl ⟨by simp [V4, *], ((((hc0.trans hcO (by simp)).setCell (.inr (by simp; omega)) _).setCell (.inr (by simp; omega)) _).setCell (.inr (by simp; omega)) _).setCell (.inr (by simp; omega)) _⟩
      cases mo
      case true =>
        go_wp2
        have hk2 := (((bR.set 0 (.int .u64 m0)).set 1 (.int .u64 m1)).set 2 (.int .u64 m2)).set 3 (.int .u64 m3)
        have d0 := hk2.cell 0 rfl
        have d1 := hk2.cell 1 rfl
        have d2 := hk2.cell 2 rfl
        have d3 := hk2.cell 3 rfl
        exact bodyPost_ret (v := .tuple #[V4 m0 m1 m2 m3, .int .i64 0]) (by simp [results, Tryz.results120, go_sem, V4, d0, d1, d2, d3]) rfl ⟨by simp [V4, *], ((((hc0.trans hcO (by simp)).setCell (.inr (by simp; omega)) _).setCell (.inr (by simp; omega)) _).setCell (.inr (by simp; omega)) _).setCell (.inr (by simp; omega)) _⟩
      go_wp2_with fail
      refine (hcmp _).mono ?_
      rintro e wb ⟨rfl, hcb⟩
      dsimp only
      replace bM := bM.chg hcb (by simp)
      replace bR := bR.chg hcb (by simp)
      replace bO := bO.chg hcb (by simp)
      have hcB := hcO.trans hcb (by simp)
      have sm0 := bM.cell 0 rfl; have sm1 := bM.cell 1 rfl; have sm2 := bM.cell 2 rfl; have sm3 := bM.cell 3 rfl
      have so0 := bO.cell 0 rfl; have so1 := bO.cell 1 rfl; have so2 := bO.cell 2 rfl; have so3 := bO.cell 3 rfl
      have sr0 := bR.cell 0 rfl; have sr1 := bR.cell 1 rfl; have sr2 := bR.cell 2 rfl; have sr3 := bR.cell 3 rfl
      have fr0 := bR.free 0; have fr1 := bR.free 1; have fr2 := bR.free 2; have fr3 := bR.free 3
      by_cases hcp : (0 : Int) < c
      · have hcd : decide ((0 : Int) < c) = true := by simpa using hcp
        go_wp2
        have hk2 := (((bR.set 0 (.int .u64 m0)).set 1 (.int .u64 m1)).set 2 (.int .u64 m2)).set 3 (.int .u64 m3)
        have d0 := hk2.cell 0 rfl
        have d1 := hk2.cell 1 rfl
        have d2 := hk2.cell 2 rfl
        have d3 := hk2.cell 3 rfl
        exact bodyPost_ret (v := .tuple #[V4 m0 m1 m2 m3, .int .i64 0]) (by simp [results, Tryz.results120, go_sem, V4, d0, d1, d2, d3]) rfl ⟨by simp [V4, *], ((((hc0.trans hcB (by simp)).setCell (.inr (by simp; omega)) _).setCell (.inr (by simp; omega)) _).setCell (.inr (by simp; omega)) _).setCell (.inr (by simp; omega)) _⟩
      have hcd : decide ((0 : Int) < c) = false := by simpa using hcp
      cases zo
      case false =>
        go_wp2
        have hk2 := (((bR.set 0 (.int .u64 o0)).set 1 (.int .u64 o1)).set 2 (.int .u64 o2)).set 3 (.int .u64 o3)
        have d0 := hk2.cell 0 rfl
        have d1 := hk2.cell 1 rfl
        have d2 := hk2.cell 2 rfl
        have d3 := hk2.cell 3 rfl
        exact bodyPost_ret (v := .tuple #[V4 o0 o1 o2 o3, .int .i64 0]) (by simp [results, Tryz.results120, go_sem, V4, d0, d1, d2, d3]) rfl ⟨by simp [V4, *], ((((hc0.trans hcB (by simp)).setCell (.inr (by simp; omega)) _).setCell (.inr (by simp; omega)) _).setCell (.inr (by simp; omega)) _).setCell (.inr (by simp; omega)) _⟩
      go_wp2_with fail
      refine (hone _).mono ?_
      rintro e wf ⟨rfl, hcf⟩
      dsimp only
      replace bR := bR.chg hcf (by simp)
      have hcF := hcB.trans hcf (by simp)
      have sr0 := bR.cell 0 rfl; have sr1 := bR.cell 1 rfl; have sr2 := bR.cell 2 rfl; have sr3 := bR.cell 3 rfl
      have fr0 := bR.free 0; have fr1 := bR.free 1; have fr2 := bR.free 2; have fr3 := bR.free 3
      go_wp2
      have hk2 := (((bR.set 0 (.int .u64 1)).set 1 (.int .u64 0)).set 2 (.int .u64 0)).set 3 (.int .u64 0)
      have d0 := hk2.cell 0 rfl
      have d1 := hk2.cell 1 rfl
      have d2 := hk2.cell 2 rfl
      have d3 := hk2.cell 3 rfl
      exact bodyPost_ret (v := .tuple #[V4 1 0 0 0, .int .i64 0]) (by simp [results, Tryz.results120, go_sem, V4, d0, d1, d2, d3]) rfl ⟨by simp [V4, *], ((((hc0.trans hcF (by simp)).setCell (.inr (by simp; omega)) _).setCell (.inr (by simp; omega)) _).setCell (.inr (by simp; omega)) _).setCell (.inr (by simp; omega)) _⟩
    · go_simp
      go_at_call 87
      refine (hof _).mono ?_
      rintro e26 w26 ⟨rfl, hc26⟩
      dsimp only
      have hH26 := hH21.trans hc26 (by simp)
      have kbL26 := kdL21.chg hc26 (by simp)
      have kbH26 := kdH21.chg hc26 (by simp)
      have kbM26 := kdM21.chg hc26 (by simp)
      have kbR26 := kdR21.chg hc26 (by simp)
      refine hK.out _ _ hH26 (fun _ => ?_)
      try simp only [Act.put, Sa, Sb, Sc, Sd, Se, Sf]
      refine RD 0 rfl (fun K hK => ?_)
      have c27_0 := kbL26.cell 0 rfl
      have c27_1 := kbL26.cell 1 rfl
      have c27_2 := kbL26.cell 2 rfl
      have c27_3 := kbL26.cell 3 rfl
      go_simp
      refine hK.out _ _ hH26 (fun _ => ?_)
      try simp only [Act.put, Sa, Sb, Sc, Sd, Se, Sf]
      refine RD 3 rfl (fun K hK => ?_)
      go_simp
      go_at_call 98
      refine (hdl _).mono ?_
      rintro e28 w28 ⟨rfl, hc28⟩
      dsimp only
      have hH28 := hH26.trans hc28 (by simp)
      have kbL28 := kbL26.chg hc28 (by simp)
      have kbH28 := kbH26.chg hc28 (by simp)
      have kbM28 := kbM26.chg hc28 (by simp)
      have kbR28 := kbR26.chg hc28 (by simp)
      refine hK.out _ _ hH28 (fun _ => ?_)
      try simp only [Act.put, Sa, Sb, Sc, Sd, Se, Sf]
      refine TK 4 (.tuple #[.agg #[.int .u64 y0, .int .u64 y1, .int .u64 y2, .int .u64 y3], .agg #[.int .u64 z0, .int .u64 z1, .int .u64 z2, .int .u64 z3], .int .i64 0]) rfl hH28 (fun w' hw' => ?_) ?_
      · go_simp
      try simp only [Act.put, Sa, Sb, Sc, Sd, Se, Sf]
      refine TK 5 (.agg #[.int .u64 y0, .int .u64 y1, .int .u64 y2, .int .u64 y3]) rfl hH28 (fun w' hw' => ?_) ?_
      · go_simp
      try simp only [Act.put, Sa, Sb, Sc, Sd, Se, Sf]
      refine TK 6 (.agg #[.int .u64 z0, .int .u64 z1, .int .u64 z2, .int .u64 z3]) rfl hH28 (fun w' hw' => ?_) ?_
      · go_simp
      try simp only [Act.put, Sa, Sb, Sc, Sd, Se, Sf]
      refine TK 7 (.int .i64 0) rfl hH28 (fun w' hw' => ?_) ?_
      · go_simp
      try simp only [Act.put, Sa, Sb, Sc, Sd, Se, Sf]
      refine RD 8 rfl (fun K hK => ?_)
      rw [if_pos (by rfl)]
      refine op_store 51 (.tmp 15) (.tmp 53) (by kernel_rfl) (by kernel_rfl) rfl (cs := [.int .u64 y0, .int .u64 y1, .int .u64 y2, .int .u64 y3]) rfl kbL28 (by simp) infoW (by simp [Value.oneCell']) ?_
      intro w29 kbL29 hc29
      have hH29 : Chg [] W0 w29 := hH28.trans hc29 (by simp; omega)
      have kbH29 := kbH28.chg hc29 (by simp; omega)
      have kbM29 := kbM28.chg hc29 (by simp; omega)
      have kbR29 := kbR28.chg hc29 (by simp; omega)
      refine hK.out _ _ hH29 (fun _ => ?_)
      try simp only [Act.put, Sa, Sb, Sc, Sd, Se, Sf]
      refine wpAnyH_done (by kernel_rfl) ?_ _
      have bM := kbM29
      have bR := kbR29
      have fL := kbL29
      have fH := kbH29
      have fc := hH29
      have sl0 := fL.cell 0 rfl; have sl1 := fL.cell 1 rfl; have sl2 := fL.cell 2 rfl; have sl3 := fL.cell 3 rfl
      have sh0 := fH.cell 0 rfl; have sh1 := fH.cell 1 rfl; have sh2 := fH.cell 2 rfl; have sh3 := fH.cell 3 rfl
      go_wp2_with fail
      refine (hadd _).mono ?_
      rintro e wa ⟨rfl, hca⟩
      dsimp only
      go_upto_region 10 with fail
      replace bM := bM.chg hca (by simp)
      replace bR := bR.chg hca (by simp)
      have hcca := fc.trans hca (by simp)
      have bO := Blk.new wa #[.int .u64 o0, .int .u64 o1, .int .u64 o2, .int .u64 o3] 51
      have hcO := hcca.alloc (.cells #[.int .u64 o0, .int .u64 o1, .int .u64 o2, .int .u64 o3] 51)
      have hgeO := hcca.size
      obtain ⟨gO, hggO⟩ : ∃ g, g = wa.heap.size := ⟨_, rfl⟩
      have hneMO := bM.lt
      replace bM := bM.alloc (.cells #[.int .u64 o0, .int .u64 o1, .int .u64 o2, .int .u64 o3] 51)
      have hneRO := bR.lt
      replace bR := bR.alloc (.cells #[.int .u64 o0, .int .u64 o1, .int .u64 o2, .int .u64 o3] 51)
      rw [← hggO] at bO hgeO hneMO hneRO ⊢
      generalize wa.alloc (.cells #[.int .u64 o0, .int .u64 o1, .int .u64 o2, .int .u64 o3] 51) = wo at hcO bO bM bR ⊢
      clear hggO
      clear hof hdiv hmq hmr hdl hadd
      have sm0 := bM.cell 0 rfl; have sm1 := bM.cell 1 rfl; have sm2 := bM.cell 2 rfl; have sm3 := bM.cell 3 rfl
      have so0 := bO.cell 0 rfl; have so1 := bO.cell 1 rfl; have so2 := bO.cell 2 rfl; have so3 := bO.cell 3 rfl
      have sr0 := bR.cell 0 rfl; have sr1 := bR.cell 1 rfl; have sr2 := bR.cell 2 rfl; have sr3 := bR.cell 3 rfl
      have fr0 := bR.free 0; have fr1 := bR.free 1; have fr2 := bR.free 2; have fr3 := bR.free 3
      cases ov
      case true =>
        go_wp2
        have hk2 := (((bR.set 0 (.int .u64 m0)).set 1 (.int .u64 m1)).set 2 (.int .u64 m2)).set 3 (.int .u64 m3)
        have d0 := hk2.cell 0 rfl
        have d1 := hk2.cell 1 rfl
        have d2 := hk2.cell 2 rfl
        have d3 := hk2.cell 3 rfl
        exact bodyPost_ret (v := .tuple #[V4 m0 m1 m2 m3, .int .i64 0]) (by simp [results, Tryz.results120, go_sem, V4, d0, d1, d2, d3]) rfl ⟨by simp [V4, *], ((((hc0.trans hcO (by simp)).setCell (.inr (by simp; omega)) _).setCell (.inr (by simp; omega)) _).setCell (.inr (by simp; omega)) _).setCell (.inr (by simp; omega)) _⟩
      cases mo
      case true =>
        go_wp2
        have hk2 := (((bR.set 0 (.int .u64 m0)).set 1 (.int .u64 m1)).set 2 (.int .u64 m2)).set 3 (.int .u64 m3)
        have d0 := hk2.cell 0 rfl
        have d1 := hk2.cell 1 rfl
        have d2 := hk2.cell 2 rfl
        have d3 := hk2.cell 3 rfl
        exact bodyPost_ret (v := .tuple #[V4 m0 m1 m2 m3, .int .i64 0]) (by simp [results, Tryz.results120, go_sem, V4, d0, d1, d2, d3]) rfl ⟨by simp [V4, *], ((((hc0.trans hcO (by simp)).setCell (.inr (by simp; omega)) _).setCell (.inr (by simp; omega)) _).setCell (.inr (by simp; omega)) _).setCell (.inr (by simp; omega)) _⟩
      go_wp2_with fail
      refine (hcmp _).mono ?_
      rintro e wb ⟨rfl, hcb⟩
      dsimp only
      replace bM := bM.chg hcb (by simp)
      replace bR := bR.chg hcb (by simp)
      replace bO := bO.chg hcb (by simp)
      have hcB := hcO.trans hcb (by simp)
      have sm0 := bM.cell 0 rfl; have sm1 := bM.cell 1 rfl; have sm2 := bM.cell 2 rfl; have sm3 := bM.cell 3 rfl
      have so0 := bO.cell 0 rfl; have so1 := bO.cell 1 rfl; have so2 := bO.cell 2 rfl; have so3 := bO.cell 3 rfl
      have sr0 := bR.cell 0 rfl; have sr1 := bR.cell 1 rfl; have sr2 := bR.cell 2 rfl; have sr3 := bR.cell 3 rfl
      have fr0 := bR.free 0; have fr1 := bR.free 1; have fr2 := bR.free 2; have fr3 := bR.free 3
      by_cases hcp : (0 : Int) < c
      · have hcd : decide ((0 : Int) < c) = true := by simpa using hcp
        go_wp2
        have hk2 := (((bR.set 0 (.int .u64 m0)).set 1 (.int .u64 m1)).set 2 (.int .u64 m2)).set 3 (.int .u64 m3)
        have d0 := hk2.cell 0 rfl
        have d1 := hk2.cell 1 rfl
        have d2 := hk2.cell 2 rfl
        have d3 := hk2.cell 3 rfl
        exact bodyPost_ret (v := .tuple #[V4 m0 m1 m2 m3, .int .i64 0]) (by simp [results, Tryz.results120, go_sem, V4, d0, d1, d2, d3]) rfl ⟨by simp [V4, *], ((((hc0.trans hcB (by simp)).setCell (.inr (by simp; omega)) _).setCell (.inr (by simp; omega)) _).setCell (.inr (by simp; omega)) _).setCell (.inr (by simp; omega)) _⟩
      have hcd : decide ((0 : Int) < c) = false := by simpa using hcp
      cases zo
      case false =>
        go_wp2
        have hk2 := (((bR.set 0 (.int .u64 o0)).set 1 (.int .u64 o1)).set 2 (.int .u64 o2)).set 3 (.int .u64 o3)
        have d0 := hk2.cell 0 rfl
        have d1 := hk2.cell 1 rfl
        have d2 := hk2.cell 2 rfl
        have d3 := hk2.cell 3 rfl
        exact bodyPost_ret (v := .tuple #[V4 o0 o1 o2 o3, .int .i64 0]) (by simp [results, Tryz.results120, go_sem, V4, d0, d1, d2, d3]) rfl ⟨by simp [V4, *], ((((hc0.trans hcB (by simp)).setCell (.inr (by simp; omega)) _).setCell (.inr (by simp; omega)) _).setCell (.inr (by simp; omega)) _).setCell (.inr (by simp; omega)) _⟩
      go_wp2_with fail
      refine (hone _).mono ?_
      rintro e wf ⟨rfl, hcf⟩
      dsimp only
      replace bR := bR.chg hcf (by simp)
      have hcF := hcB.trans hcf (by simp)
      have sr0 := bR.cell 0 rfl; have sr1 := bR.cell 1 rfl; have sr2 := bR.cell 2 rfl; have sr3 := bR.cell 3 rfl
      have fr0 := bR.free 0; have fr1 := bR.free 1; have fr2 := bR.free 2; have fr3 := bR.free 3
      go_wp2
      have hk2 := (((bR.set 0 (.int .u64 1)).set 1 (.int .u64 0)).set 2 (.int .u64 0)).set 3 (.int .u64 0)
      have d0 := hk2.cell 0 rfl
      have d1 := hk2.cell 1 rfl
      have d2 := hk2.cell 2 rfl
      have d3 := hk2.cell 3 rfl
      exact bodyPost_ret (v := .tuple #[V4 1 0 0 0, .int .i64 0]) (by simp [results, Tryz.results120, go_sem, V4, d0, d1, d2, d3]) rfl ⟨by simp [V4, *], ((((hc0.trans hcF (by simp)).setCell (.inr (by simp; omega)) _).setCell (.inr (by simp; omega)) _).setCell (.inr (by simp; omega)) _).setCell (.inr (by simp; omega)) _⟩

end Go.Proofs.YtmkgbinmilcojaaGreat
