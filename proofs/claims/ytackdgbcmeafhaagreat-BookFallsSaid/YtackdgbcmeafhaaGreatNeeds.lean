/- Package rate: divide (rounded up), Needs. Printed by needsgen.py. -/
import Derived.Test.YtackdgbcmeafhaaGreatRate
import Derived.Test.YtackdgbcmeafhaaGreatPart
import Derived.Test.YtackdgbcmeafhaaGreatReg
namespace Go.Proofs.YtackdgbcmeafhaaGreat
open Go.RowKit Go.Maps Go.Shelf

def upQ (n m : Nat) : Nat := if n % m ≠ 0 then n / m + 1 else n / m
theorem zeroW0 : ∀ w, (zeroValue 116).run Tryz.prog w = .ok (.agg #[.int .u64 0, .int .u64 0, .int .u64 0, .int .u64 0]) w := fun w => by kernel_rfl
theorem infoW0 : (Tryz.prog.info? 116).map (·.size) = some 4 := by kernel_rfl
set_option maxRecDepth 100000 in
set_option maxHeartbeats 8000000 in
theorem rate_divideW (a b c x y : Int) (n0 n1 n2 n3 q0 q1 q2 q3 r0 r1 r2 r3 s0 s1 s2 s3 Q : Int) (VX VM : Value) (z : Bool) (ov ov2 : Bool)
    (c1 : ∀ w, Calls Tryz.prog 60 #[.int .u64 a, .int .u64 b] w fun e w' => e = .returned VX ∧ Chg [] w w')
    (c2 : ∀ w, Calls Tryz.prog 99 #[VX, .int .u64 c] w fun e w' => e = .returned (.tuple #[.agg #[.int .u64 n0, .int .u64 n1, .int .u64 n2, .int .u64 n3], .bool ov]) ∧ Chg [] w w')
    (c3 : ∀ w, Calls Tryz.prog 60 #[.int .u64 x, .int .u64 y] w fun e w' => e = .returned VM ∧ Chg [] w w')
    (c4 : ∀ w, Calls Tryz.prog 61 #[.agg #[.int .u64 n0, .int .u64 n1, .int .u64 n2, .int .u64 n3], VM] w fun e w' => e = .returned (.tuple #[.agg #[.int .u64 q0, .int .u64 q1, .int .u64 q2, .int .u64 q3], .agg #[.int .u64 r0, .int .u64 r1, .int .u64 r2, .int .u64 r3], .int .i64 0]) ∧ Chg [] w w')
    (c5 : ∀ w, Calls Tryz.prog 62 #[.int .u64 1] w fun e w' => e = .returned (V4 1 0 0 0) ∧ Chg [] w w')
    (c6 : ∀ w, Calls Tryz.prog 63 #[.agg #[.int .u64 q0, .int .u64 q1, .int .u64 q2, .int .u64 q3], V4 1 0 0 0] w fun e w' => e = .returned (.tuple #[.agg #[.int .u64 s0, .int .u64 s1, .int .u64 s2, .int .u64 s3], .bool ov2]) ∧ Chg [] w w')
    (c7 : ∀ w, Calls Tryz.prog 64 #[if z then .agg #[.int .u64 q0, .int .u64 q1, .int .u64 q2, .int .u64 q3] else .agg #[.int .u64 s0, .int .u64 s1, .int .u64 s2, .int .u64 s3]] w fun e w' => e = .returned (.tuple #[.int .u64 Q, .bool true]) ∧ Chg [] w w')
    (c8 : ∀ w, Calls Tryz.prog 51 #[.int .u64 Q] w fun e w' => e = .returned (.bool true) ∧ w = w')
    (heq : ∀ w, (Op.equalIn 10000 116 (V4 r0 r1 r2 r3) (V4 0 0 0 0)).run Tryz.prog w = .ok z w) (w : World) :
    Calls Tryz.prog 44 #[.int .u64 a, .int .u64 b, .int .u64 c, .int .u64 x, .int .u64 y, .bool true] w fun e w' => e = .returned (.tuple #[.int .u64 Q, .int .i64 0]) ∧ Chg [] w w' := by
  unfold V4 at *
  go_enter Tryz.func44, Tryz.ntmps44
  go_wp2_with fail
  refine (c1 _).mono ?_
  rintro e w1 ⟨rfl, k1⟩
  go_wp2_with fail
  refine (c2 _).mono ?_
  rintro e w2 ⟨rfl, k2⟩
  go_upto_region 2 with fail
  have b4 := Blk.new w2 #[.int .u64 n0, .int .u64 n1, .int .u64 n2, .int .u64 n3] 116
  have kW : Chg [] w (w2.alloc (.cells #[.int .u64 n0, .int .u64 n1, .int .u64 n2, .int .u64 n3] 116)) := (k1.trans k2 (by simp)).alloc _
  generalize w2.alloc (.cells #[.int .u64 n0, .int .u64 n1, .int .u64 n2, .int .u64 n3] 116) = W0 at b4 kW ⊢
  generalize w2.heap.size = g4 at b4 ⊢
  clear k1 k2
  go_cut [16, 17, 18] (fun s16 s17 s18 wx => ∃ gA gB : Nat, s18 = .int .i64 0 ∧ s16 = .pointer (some ⟨gA, 0, none⟩) ∧ s17 = .pointer (some ⟨gB, 0, none⟩) ∧ Blk wx gA #[.int .u64 q0, .int .u64 q1, .int .u64 q2, .int .u64 q3] 116 ∧ Blk wx gB #[.int .u64 r0, .int .u64 r1, .int .u64 r2, .int .u64 r3] 116 ∧ gA ≠ gB ∧ W0.heap.size ≤ gA ∧ W0.heap.size ≤ gB ∧ Chg [] W0 wx)
  case first =>
    refine wp_region_held_drew (S := fun w' => Chg [] W0 w') (by kernel_rfl) ((Chg.refl _ _).drew) (fun hH => ?_)
    refine wpAnyH_take (i := 0) (v := .agg #[.int .u64 n0, .int .u64 n1, .int .u64 n2, .int .u64 n3]) rfl (by kernel_rfl) (by kernel_rfl) (by kernel_rfl) (fun _ _ _ h => h) (.inl ⟨by rfl, fun w' hw' => ?_⟩) hH ?_
    · (have k := b4.chg hw' (by simp); have c0 := k.cell 0 (v := .int .u64 n0) rfl; have c1 := k.cell 1 (v := .int .u64 n1) rfl; have c2 := k.cell 2 (v := .int .u64 n2) rfl; have c3 := k.cell 3 (v := .int .u64 n3) rfl; go_simp)
    try simp only [Act.put, List.setIfInBounds_toArray, List.set_cons_zero, List.set_cons_succ, List.getElem_toArray, List.getElem_cons_succ, List.getElem_cons_zero]
    refine wpAnyH_take (i := 1) (v := .int .u64 x) rfl (by kernel_rfl) (by kernel_rfl) (by kernel_rfl) (fun _ _ _ h => h) (.inl ⟨by rfl, fun w' hw' => ?_⟩) hH ?_
    · go_simp
    try simp only [Act.put, List.setIfInBounds_toArray, List.set_cons_zero, List.set_cons_succ, List.getElem_toArray, List.getElem_cons_succ, List.getElem_cons_zero]
    refine wpAnyH_take (i := 2) (v := .int .u64 y) rfl (by kernel_rfl) (by kernel_rfl) (by kernel_rfl) (fun _ _ _ h => h) (.inl ⟨by rfl, fun w' hw' => ?_⟩) hH ?_
    · go_simp
    try simp only [Act.put, List.setIfInBounds_toArray, List.set_cons_zero, List.set_cons_succ, List.getElem_toArray, List.getElem_cons_succ, List.getElem_cons_zero]
    refine wpAnyH_ready (rs := [3, 9, 10]) (by kernel_rfl) (by simp) (AllReadyH.cons rfl (fun K hK => ?_) (AllReadyH.cons rfl (fun K hK => ?_) (AllReadyH.cons rfl (fun K hK => ?_) AllReadyH.nil)))
    · try rw [if_pos (by rfl)]
      go_simp
      go_at_call 60
      refine (c3 _).mono ?_
      rintro e1 w1 ⟨rfl, hc1⟩
      dsimp only
      have hH1 := hH.trans hc1 (by simp)
      refine hK.out _ _ hH1 (fun _ => ?_)
      try simp only [Act.put, List.setIfInBounds_toArray, List.set_cons_zero, List.set_cons_succ, List.getElem_toArray, List.getElem_cons_succ, List.getElem_cons_zero]
      refine wpAnyH_ready (rs := [4, 9, 10]) (by kernel_rfl) (by simp) (AllReadyH.cons rfl (fun K hK => ?_) (AllReadyH.cons rfl (fun K hK => ?_) (AllReadyH.cons rfl (fun K hK => ?_) AllReadyH.nil)))
      · try rw [if_pos (by rfl)]
        go_simp
        go_at_call 61
        refine (c4 _).mono ?_
        rintro e2 w2 ⟨rfl, hc2⟩
        dsimp only
        have hH2 := hH1.trans hc2 (by simp)
        refine hK.out _ _ hH2 (fun _ => ?_)
        try simp only [Act.put, List.setIfInBounds_toArray, List.set_cons_zero, List.set_cons_succ, List.getElem_toArray, List.getElem_cons_succ, List.getElem_cons_zero]
        refine wpAnyH_take (i := 5) (v := .tuple #[.agg #[.int .u64 q0, .int .u64 q1, .int .u64 q2, .int .u64 q3], .agg #[.int .u64 r0, .int .u64 r1, .int .u64 r2, .int .u64 r3], .int .i64 0]) rfl (by kernel_rfl) (by kernel_rfl) (by kernel_rfl) (fun _ _ _ h => h) (.inl ⟨by rfl, fun w' hw' => ?_⟩) hH2 ?_
        · go_simp
        try simp only [Act.put, List.setIfInBounds_toArray, List.set_cons_zero, List.set_cons_succ, List.getElem_toArray, List.getElem_cons_succ, List.getElem_cons_zero]
        refine wpAnyH_take (i := 6) (v := .agg #[.int .u64 q0, .int .u64 q1, .int .u64 q2, .int .u64 q3]) rfl (by kernel_rfl) (by kernel_rfl) (by kernel_rfl) (fun _ _ _ h => h) (.inl ⟨by rfl, fun w' hw' => ?_⟩) hH2 ?_
        · go_simp
        try simp only [Act.put, List.setIfInBounds_toArray, List.set_cons_zero, List.set_cons_succ, List.getElem_toArray, List.getElem_cons_succ, List.getElem_cons_zero]
        refine wpAnyH_take (i := 7) (v := .agg #[.int .u64 r0, .int .u64 r1, .int .u64 r2, .int .u64 r3]) rfl (by kernel_rfl) (by kernel_rfl) (by kernel_rfl) (fun _ _ _ h => h) (.inl ⟨by rfl, fun w' hw' => ?_⟩) hH2 ?_
        · go_simp
        try simp only [Act.put, List.setIfInBounds_toArray, List.set_cons_zero, List.set_cons_succ, List.getElem_toArray, List.getElem_cons_succ, List.getElem_cons_zero]
        refine wpAnyH_take (i := 8) (v := .int .i64 0) rfl (by kernel_rfl) (by kernel_rfl) (by kernel_rfl) (fun _ _ _ h => h) (.inl ⟨by rfl, fun w' hw' => ?_⟩) hH2 ?_
        · go_simp
        try simp only [Act.put, List.setIfInBounds_toArray, List.set_cons_zero, List.set_cons_succ, List.getElem_toArray, List.getElem_cons_succ, List.getElem_cons_zero]
        refine wpAnyH_ready (rs := [9, 10]) (by kernel_rfl) (by simp) (AllReadyH.cons rfl (fun K hK => ?_) (AllReadyH.cons rfl (fun K hK => ?_) AllReadyH.nil))
        · rw [if_pos (by rfl)]
          refine op_alloc 116 16 (by kernel_rfl) (by kernel_rfl) zeroW0 ?_
          have kbA3 := Blk.new (w2) (#[.int .u64 0, .int .u64 0, .int .u64 0, .int .u64 0] : Array Value) 116
          have hH3 := hH2.alloc (.cells (#[.int .u64 0, .int .u64 0, .int .u64 0, .int .u64 0] : Array Value) 116)
          have hgeA3 := hH2.size
          obtain ⟨gA3, hgg3⟩ : ∃ g, g = (w2).heap.size := ⟨_, rfl⟩
          rw [← hgg3] at kbA3 hgeA3 ⊢
          generalize (w2).alloc (.cells (#[.int .u64 0, .int .u64 0, .int .u64 0, .int .u64 0] : Array Value) 116) = w3 at hH3 kbA3 ⊢
          clear hgg3
          refine hK.out _ _ hH3 (fun _ => ?_)
          try simp only [Act.put, List.setIfInBounds_toArray, List.set_cons_zero, List.set_cons_succ, List.getElem_toArray, List.getElem_cons_succ, List.getElem_cons_zero]
          refine wpAnyH_ready (rs := [10]) (by kernel_rfl) (by simp) (AllReadyH.cons rfl (fun K hK => ?_) AllReadyH.nil)
          rw [if_pos (by rfl)]
          refine op_alloc 116 17 (by kernel_rfl) (by kernel_rfl) zeroW0 ?_
          have kbB4 := Blk.new (w3) (#[.int .u64 0, .int .u64 0, .int .u64 0, .int .u64 0] : Array Value) 116
          have hH4 := hH3.alloc (.cells (#[.int .u64 0, .int .u64 0, .int .u64 0, .int .u64 0] : Array Value) 116)
          have hgeB4 := hH3.size
          have kbA4 := kbA3.alloc (.cells (#[.int .u64 0, .int .u64 0, .int .u64 0, .int .u64 0] : Array Value) 116)
          have hneAB4 := kbA3.lt
          obtain ⟨gB4, hgg4⟩ : ∃ g, g = (w3).heap.size := ⟨_, rfl⟩
          rw [← hgg4] at kbB4 hgeB4 hneAB4 ⊢
          generalize (w3).alloc (.cells (#[.int .u64 0, .int .u64 0, .int .u64 0, .int .u64 0] : Array Value) 116) = w4 at hH4 kbA4 kbB4 ⊢
          clear hgg4
          refine hK.out _ _ hH4 (fun _ => ?_)
          try simp only [Act.put, List.setIfInBounds_toArray, List.set_cons_zero, List.set_cons_succ, List.getElem_toArray, List.getElem_cons_succ, List.getElem_cons_zero]
          refine wpAnyH_ready (rs := [11]) (by kernel_rfl) (by simp) (AllReadyH.cons rfl (fun K hK => ?_) AllReadyH.nil)
          rw [if_pos (by rfl)]
          refine op_store 116 (.tmp 16) (.tmp 35) (by kernel_rfl) (by kernel_rfl) rfl (cs := [.int .u64 q0, .int .u64 q1, .int .u64 q2, .int .u64 q3]) rfl kbA4 (by simp) infoW0 (by simp [Value.oneCell']) ?_
          intro w5 kbA5 hc5
          have hH5 : Chg [] W0 w5 := hH4.trans hc5 (by simp; omega)
          have kbB5 := kbB4.chg hc5 (by simp; omega)
          refine hK.out _ _ hH5 (fun _ => ?_)
          try simp only [Act.put, List.setIfInBounds_toArray, List.set_cons_zero, List.set_cons_succ, List.getElem_toArray, List.getElem_cons_succ, List.getElem_cons_zero]
          refine wpAnyH_ready (rs := [12]) (by kernel_rfl) (by simp) (AllReadyH.cons rfl (fun K hK => ?_) AllReadyH.nil)
          rw [if_pos (by rfl)]
          refine op_store 116 (.tmp 17) (.tmp 36) (by kernel_rfl) (by kernel_rfl) rfl (cs := [.int .u64 r0, .int .u64 r1, .int .u64 r2, .int .u64 r3]) rfl kbB5 (by simp) infoW0 (by simp [Value.oneCell']) ?_
          intro w6 kbB6 hc6
          have hH6 : Chg [] W0 w6 := hH5.trans hc6 (by simp; omega)
          have kbA6 := kbA5.chg hc6 (by simp; omega)
          refine hK.out _ _ hH6 (fun _ => ?_)
          try simp only [Act.put, List.setIfInBounds_toArray, List.set_cons_zero, List.set_cons_succ, List.getElem_toArray, List.getElem_cons_succ, List.getElem_cons_zero]
          refine wpAnyH_ready (rs := [13]) (by kernel_rfl) (by simp) (AllReadyH.cons rfl (fun K hK => ?_) AllReadyH.nil)
          go_simp
          refine hK.out _ _ hH6 (fun _ => ?_)
          try simp only [Act.put, List.setIfInBounds_toArray, List.set_cons_zero, List.set_cons_succ, List.getElem_toArray, List.getElem_cons_succ, List.getElem_cons_zero]
          refine wpAnyH_done (by kernel_rfl) ?_ _
          go_wp2_with fail
          go_meet
          exact ⟨gA3, gB4, rfl, rfl, rfl, kbA6, kbB6, by omega, by omega, by omega, hH6⟩
        · rw [if_pos (by rfl)]
          refine op_alloc 116 17 (by kernel_rfl) (by kernel_rfl) zeroW0 ?_
          have kbB8 := Blk.new (w2) (#[.int .u64 0, .int .u64 0, .int .u64 0, .int .u64 0] : Array Value) 116
          have hH8 := hH2.alloc (.cells (#[.int .u64 0, .int .u64 0, .int .u64 0, .int .u64 0] : Array Value) 116)
          have hgeB8 := hH2.size
          obtain ⟨gB8, hgg8⟩ : ∃ g, g = (w2).heap.size := ⟨_, rfl⟩
          rw [← hgg8] at kbB8 hgeB8 ⊢
          generalize (w2).alloc (.cells (#[.int .u64 0, .int .u64 0, .int .u64 0, .int .u64 0] : Array Value) 116) = w8 at hH8 kbB8 ⊢
          clear hgg8
          refine hK.out _ _ hH8 (fun _ => ?_)
          try simp only [Act.put, List.setIfInBounds_toArray, List.set_cons_zero, List.set_cons_succ, List.getElem_toArray, List.getElem_cons_succ, List.getElem_cons_zero]
          refine wpAnyH_ready (rs := [9]) (by kernel_rfl) (by simp) (AllReadyH.cons rfl (fun K hK => ?_) AllReadyH.nil)
          rw [if_pos (by rfl)]
          refine op_alloc 116 16 (by kernel_rfl) (by kernel_rfl) zeroW0 ?_
          have kbA9 := Blk.new (w8) (#[.int .u64 0, .int .u64 0, .int .u64 0, .int .u64 0] : Array Value) 116
          have hH9 := hH8.alloc (.cells (#[.int .u64 0, .int .u64 0, .int .u64 0, .int .u64 0] : Array Value) 116)
          have hgeA9 := hH8.size
          have kbB9 := kbB8.alloc (.cells (#[.int .u64 0, .int .u64 0, .int .u64 0, .int .u64 0] : Array Value) 116)
          have hneBA9 := kbB8.lt
          obtain ⟨gA9, hgg9⟩ : ∃ g, g = (w8).heap.size := ⟨_, rfl⟩
          rw [← hgg9] at kbA9 hgeA9 hneBA9 ⊢
          generalize (w8).alloc (.cells (#[.int .u64 0, .int .u64 0, .int .u64 0, .int .u64 0] : Array Value) 116) = w9 at hH9 kbB9 kbA9 ⊢
          clear hgg9
          refine hK.out _ _ hH9 (fun _ => ?_)
          try simp only [Act.put, List.setIfInBounds_toArray, List.set_cons_zero, List.set_cons_succ, List.getElem_toArray, List.getElem_cons_succ, List.getElem_cons_zero]
          refine wpAnyH_ready (rs := [11]) (by kernel_rfl) (by simp) (AllReadyH.cons rfl (fun K hK => ?_) AllReadyH.nil)
          rw [if_pos (by rfl)]
          refine op_store 116 (.tmp 16) (.tmp 35) (by kernel_rfl) (by kernel_rfl) rfl (cs := [.int .u64 q0, .int .u64 q1, .int .u64 q2, .int .u64 q3]) rfl kbA9 (by simp) infoW0 (by simp [Value.oneCell']) ?_
          intro w10 kbA10 hc10
          have hH10 : Chg [] W0 w10 := hH9.trans hc10 (by simp; omega)
          have kbB10 := kbB9.chg hc10 (by simp; omega)
          refine hK.out _ _ hH10 (fun _ => ?_)
          try simp only [Act.put, List.setIfInBounds_toArray, List.set_cons_zero, List.set_cons_succ, List.getElem_toArray, List.getElem_cons_succ, List.getElem_cons_zero]
          refine wpAnyH_ready (rs := [12]) (by kernel_rfl) (by simp) (AllReadyH.cons rfl (fun K hK => ?_) AllReadyH.nil)
          rw [if_pos (by rfl)]
          refine op_store 116 (.tmp 17) (.tmp 36) (by kernel_rfl) (by kernel_rfl) rfl (cs := [.int .u64 r0, .int .u64 r1, .int .u64 r2, .int .u64 r3]) rfl kbB10 (by simp) infoW0 (by simp [Value.oneCell']) ?_
          intro w11 kbB11 hc11
          have hH11 : Chg [] W0 w11 := hH10.trans hc11 (by simp; omega)
          have kbA11 := kbA10.chg hc11 (by simp; omega)
          refine hK.out _ _ hH11 (fun _ => ?_)
          try simp only [Act.put, List.setIfInBounds_toArray, List.set_cons_zero, List.set_cons_succ, List.getElem_toArray, List.getElem_cons_succ, List.getElem_cons_zero]
          refine wpAnyH_ready (rs := [13]) (by kernel_rfl) (by simp) (AllReadyH.cons rfl (fun K hK => ?_) AllReadyH.nil)
          go_simp
          refine hK.out _ _ hH11 (fun _ => ?_)
          try simp only [Act.put, List.setIfInBounds_toArray, List.set_cons_zero, List.set_cons_succ, List.getElem_toArray, List.getElem_cons_succ, List.getElem_cons_zero]
          refine wpAnyH_done (by kernel_rfl) ?_ _
          go_wp2_with fail
          go_meet
          exact ⟨gA9, gB8, rfl, rfl, rfl, kbA11, kbB11, by omega, by omega, by omega, hH11⟩
      · rw [if_pos (by rfl)]
        refine op_alloc 116 16 (by kernel_rfl) (by kernel_rfl) zeroW0 ?_
        have kbA13 := Blk.new (w1) (#[.int .u64 0, .int .u64 0, .int .u64 0, .int .u64 0] : Array Value) 116
        have hH13 := hH1.alloc (.cells (#[.int .u64 0, .int .u64 0, .int .u64 0, .int .u64 0] : Array Value) 116)
        have hgeA13 := hH1.size
        obtain ⟨gA13, hgg13⟩ : ∃ g, g = (w1).heap.size := ⟨_, rfl⟩
        rw [← hgg13] at kbA13 hgeA13 ⊢
        generalize (w1).alloc (.cells (#[.int .u64 0, .int .u64 0, .int .u64 0, .int .u64 0] : Array Value) 116) = w13 at hH13 kbA13 ⊢
        clear hgg13
        refine hK.out _ _ hH13 (fun _ => ?_)
        try simp only [Act.put, List.setIfInBounds_toArray, List.set_cons_zero, List.set_cons_succ, List.getElem_toArray, List.getElem_cons_succ, List.getElem_cons_zero]
        refine wpAnyH_ready (rs := [4, 10]) (by kernel_rfl) (by simp) (AllReadyH.cons rfl (fun K hK => ?_) (AllReadyH.cons rfl (fun K hK => ?_) AllReadyH.nil))
        · try rw [if_pos (by rfl)]
          go_simp
          go_at_call 61
          refine (c4 _).mono ?_
          rintro e14 w14 ⟨rfl, hc14⟩
          dsimp only
          have hH14 := hH13.trans hc14 (by simp)
          have kbA14 := kbA13.chg hc14 (by simp)
          refine hK.out _ _ hH14 (fun _ => ?_)
          try simp only [Act.put, List.setIfInBounds_toArray, List.set_cons_zero, List.set_cons_succ, List.getElem_toArray, List.getElem_cons_succ, List.getElem_cons_zero]
          refine wpAnyH_take (i := 5) (v := .tuple #[.agg #[.int .u64 q0, .int .u64 q1, .int .u64 q2, .int .u64 q3], .agg #[.int .u64 r0, .int .u64 r1, .int .u64 r2, .int .u64 r3], .int .i64 0]) rfl (by kernel_rfl) (by kernel_rfl) (by kernel_rfl) (fun _ _ _ h => h) (.inl ⟨by rfl, fun w' hw' => ?_⟩) hH14 ?_
          · go_simp
          try simp only [Act.put, List.setIfInBounds_toArray, List.set_cons_zero, List.set_cons_succ, List.getElem_toArray, List.getElem_cons_succ, List.getElem_cons_zero]
          refine wpAnyH_take (i := 6) (v := .agg #[.int .u64 q0, .int .u64 q1, .int .u64 q2, .int .u64 q3]) rfl (by kernel_rfl) (by kernel_rfl) (by kernel_rfl) (fun _ _ _ h => h) (.inl ⟨by rfl, fun w' hw' => ?_⟩) hH14 ?_
          · go_simp
          try simp only [Act.put, List.setIfInBounds_toArray, List.set_cons_zero, List.set_cons_succ, List.getElem_toArray, List.getElem_cons_succ, List.getElem_cons_zero]
          refine wpAnyH_take (i := 7) (v := .agg #[.int .u64 r0, .int .u64 r1, .int .u64 r2, .int .u64 r3]) rfl (by kernel_rfl) (by kernel_rfl) (by kernel_rfl) (fun _ _ _ h => h) (.inl ⟨by rfl, fun w' hw' => ?_⟩) hH14 ?_
          · go_simp
          try simp only [Act.put, List.setIfInBounds_toArray, List.set_cons_zero, List.set_cons_succ, List.getElem_toArray, List.getElem_cons_succ, List.getElem_cons_zero]
          refine wpAnyH_take (i := 8) (v := .int .i64 0) rfl (by kernel_rfl) (by kernel_rfl) (by kernel_rfl) (fun _ _ _ h => h) (.inl ⟨by rfl, fun w' hw' => ?_⟩) hH14 ?_
          · go_simp
          try simp only [Act.put, List.setIfInBounds_toArray, List.set_cons_zero, List.set_cons_succ, List.getElem_toArray, List.getElem_cons_succ, List.getElem_cons_zero]
          refine wpAnyH_ready (rs := [10]) (by kernel_rfl) (by simp) (AllReadyH.cons rfl (fun K hK => ?_) AllReadyH.nil)
          rw [if_pos (by rfl)]
          refine op_alloc 116 17 (by kernel_rfl) (by kernel_rfl) zeroW0 ?_
          have kbB15 := Blk.new (w14) (#[.int .u64 0, .int .u64 0, .int .u64 0, .int .u64 0] : Array Value) 116
          have hH15 := hH14.alloc (.cells (#[.int .u64 0, .int .u64 0, .int .u64 0, .int .u64 0] : Array Value) 116)
          have hgeB15 := hH14.size
          have kbA15 := kbA14.alloc (.cells (#[.int .u64 0, .int .u64 0, .int .u64 0, .int .u64 0] : Array Value) 116)
          have hneAB15 := kbA14.lt
          obtain ⟨gB15, hgg15⟩ : ∃ g, g = (w14).heap.size := ⟨_, rfl⟩
          rw [← hgg15] at kbB15 hgeB15 hneAB15 ⊢
          generalize (w14).alloc (.cells (#[.int .u64 0, .int .u64 0, .int .u64 0, .int .u64 0] : Array Value) 116) = w15 at hH15 kbA15 kbB15 ⊢
          clear hgg15
          refine hK.out _ _ hH15 (fun _ => ?_)
          try simp only [Act.put, List.setIfInBounds_toArray, List.set_cons_zero, List.set_cons_succ, List.getElem_toArray, List.getElem_cons_succ, List.getElem_cons_zero]
          refine wpAnyH_ready (rs := [11]) (by kernel_rfl) (by simp) (AllReadyH.cons rfl (fun K hK => ?_) AllReadyH.nil)
          rw [if_pos (by rfl)]
          refine op_store 116 (.tmp 16) (.tmp 35) (by kernel_rfl) (by kernel_rfl) rfl (cs := [.int .u64 q0, .int .u64 q1, .int .u64 q2, .int .u64 q3]) rfl kbA15 (by simp) infoW0 (by simp [Value.oneCell']) ?_
          intro w16 kbA16 hc16
          have hH16 : Chg [] W0 w16 := hH15.trans hc16 (by simp; omega)
          have kbB16 := kbB15.chg hc16 (by simp; omega)
          refine hK.out _ _ hH16 (fun _ => ?_)
          try simp only [Act.put, List.setIfInBounds_toArray, List.set_cons_zero, List.set_cons_succ, List.getElem_toArray, List.getElem_cons_succ, List.getElem_cons_zero]
          refine wpAnyH_ready (rs := [12]) (by kernel_rfl) (by simp) (AllReadyH.cons rfl (fun K hK => ?_) AllReadyH.nil)
          rw [if_pos (by rfl)]
          refine op_store 116 (.tmp 17) (.tmp 36) (by kernel_rfl) (by kernel_rfl) rfl (cs := [.int .u64 r0, .int .u64 r1, .int .u64 r2, .int .u64 r3]) rfl kbB16 (by simp) infoW0 (by simp [Value.oneCell']) ?_
          intro w17 kbB17 hc17
          have hH17 : Chg [] W0 w17 := hH16.trans hc17 (by simp; omega)
          have kbA17 := kbA16.chg hc17 (by simp; omega)
          refine hK.out _ _ hH17 (fun _ => ?_)
          try simp only [Act.put, List.setIfInBounds_toArray, List.set_cons_zero, List.set_cons_succ, List.getElem_toArray, List.getElem_cons_succ, List.getElem_cons_zero]
          refine wpAnyH_ready (rs := [13]) (by kernel_rfl) (by simp) (AllReadyH.cons rfl (fun K hK => ?_) AllReadyH.nil)
          go_simp
          refine hK.out _ _ hH17 (fun _ => ?_)
          try simp only [Act.put, List.setIfInBounds_toArray, List.set_cons_zero, List.set_cons_succ, List.getElem_toArray, List.getElem_cons_succ, List.getElem_cons_zero]
          refine wpAnyH_done (by kernel_rfl) ?_ _
          go_wp2_with fail
          go_meet
          exact ⟨gA13, gB15, rfl, rfl, rfl, kbA17, kbB17, by omega, by omega, by omega, hH17⟩
        · rw [if_pos (by rfl)]
          refine op_alloc 116 17 (by kernel_rfl) (by kernel_rfl) zeroW0 ?_
          have kbB19 := Blk.new (w13) (#[.int .u64 0, .int .u64 0, .int .u64 0, .int .u64 0] : Array Value) 116
          have hH19 := hH13.alloc (.cells (#[.int .u64 0, .int .u64 0, .int .u64 0, .int .u64 0] : Array Value) 116)
          have hgeB19 := hH13.size
          have kbA19 := kbA13.alloc (.cells (#[.int .u64 0, .int .u64 0, .int .u64 0, .int .u64 0] : Array Value) 116)
          have hneAB19 := kbA13.lt
          obtain ⟨gB19, hgg19⟩ : ∃ g, g = (w13).heap.size := ⟨_, rfl⟩
          rw [← hgg19] at kbB19 hgeB19 hneAB19 ⊢
          generalize (w13).alloc (.cells (#[.int .u64 0, .int .u64 0, .int .u64 0, .int .u64 0] : Array Value) 116) = w19 at hH19 kbA19 kbB19 ⊢
          clear hgg19
          refine hK.out _ _ hH19 (fun _ => ?_)
          try simp only [Act.put, List.setIfInBounds_toArray, List.set_cons_zero, List.set_cons_succ, List.getElem_toArray, List.getElem_cons_succ, List.getElem_cons_zero]
          refine wpAnyH_ready (rs := [4]) (by kernel_rfl) (by simp) (AllReadyH.cons rfl (fun K hK => ?_) AllReadyH.nil)
          try rw [if_pos (by rfl)]
          go_simp
          go_at_call 61
          refine (c4 _).mono ?_
          rintro e20 w20 ⟨rfl, hc20⟩
          dsimp only
          have hH20 := hH19.trans hc20 (by simp)
          have kbA20 := kbA19.chg hc20 (by simp)
          have kbB20 := kbB19.chg hc20 (by simp)
          refine hK.out _ _ hH20 (fun _ => ?_)
          try simp only [Act.put, List.setIfInBounds_toArray, List.set_cons_zero, List.set_cons_succ, List.getElem_toArray, List.getElem_cons_succ, List.getElem_cons_zero]
          refine wpAnyH_take (i := 5) (v := .tuple #[.agg #[.int .u64 q0, .int .u64 q1, .int .u64 q2, .int .u64 q3], .agg #[.int .u64 r0, .int .u64 r1, .int .u64 r2, .int .u64 r3], .int .i64 0]) rfl (by kernel_rfl) (by kernel_rfl) (by kernel_rfl) (fun _ _ _ h => h) (.inl ⟨by rfl, fun w' hw' => ?_⟩) hH20 ?_
          · go_simp
          try simp only [Act.put, List.setIfInBounds_toArray, List.set_cons_zero, List.set_cons_succ, List.getElem_toArray, List.getElem_cons_succ, List.getElem_cons_zero]
          refine wpAnyH_take (i := 6) (v := .agg #[.int .u64 q0, .int .u64 q1, .int .u64 q2, .int .u64 q3]) rfl (by kernel_rfl) (by kernel_rfl) (by kernel_rfl) (fun _ _ _ h => h) (.inl ⟨by rfl, fun w' hw' => ?_⟩) hH20 ?_
          · go_simp
          try simp only [Act.put, List.setIfInBounds_toArray, List.set_cons_zero, List.set_cons_succ, List.getElem_toArray, List.getElem_cons_succ, List.getElem_cons_zero]
          refine wpAnyH_take (i := 7) (v := .agg #[.int .u64 r0, .int .u64 r1, .int .u64 r2, .int .u64 r3]) rfl (by kernel_rfl) (by kernel_rfl) (by kernel_rfl) (fun _ _ _ h => h) (.inl ⟨by rfl, fun w' hw' => ?_⟩) hH20 ?_
          · go_simp
          try simp only [Act.put, List.setIfInBounds_toArray, List.set_cons_zero, List.set_cons_succ, List.getElem_toArray, List.getElem_cons_succ, List.getElem_cons_zero]
          refine wpAnyH_take (i := 8) (v := .int .i64 0) rfl (by kernel_rfl) (by kernel_rfl) (by kernel_rfl) (fun _ _ _ h => h) (.inl ⟨by rfl, fun w' hw' => ?_⟩) hH20 ?_
          · go_simp
          try simp only [Act.put, List.setIfInBounds_toArray, List.set_cons_zero, List.set_cons_succ, List.getElem_toArray, List.getElem_cons_succ, List.getElem_cons_zero]
          refine wpAnyH_ready (rs := [11]) (by kernel_rfl) (by simp) (AllReadyH.cons rfl (fun K hK => ?_) AllReadyH.nil)
          rw [if_pos (by rfl)]
          refine op_store 116 (.tmp 16) (.tmp 35) (by kernel_rfl) (by kernel_rfl) rfl (cs := [.int .u64 q0, .int .u64 q1, .int .u64 q2, .int .u64 q3]) rfl kbA20 (by simp) infoW0 (by simp [Value.oneCell']) ?_
          intro w21 kbA21 hc21
          have hH21 : Chg [] W0 w21 := hH20.trans hc21 (by simp; omega)
          have kbB21 := kbB20.chg hc21 (by simp; omega)
          refine hK.out _ _ hH21 (fun _ => ?_)
          try simp only [Act.put, List.setIfInBounds_toArray, List.set_cons_zero, List.set_cons_succ, List.getElem_toArray, List.getElem_cons_succ, List.getElem_cons_zero]
          refine wpAnyH_ready (rs := [12]) (by kernel_rfl) (by simp) (AllReadyH.cons rfl (fun K hK => ?_) AllReadyH.nil)
          rw [if_pos (by rfl)]
          refine op_store 116 (.tmp 17) (.tmp 36) (by kernel_rfl) (by kernel_rfl) rfl (cs := [.int .u64 r0, .int .u64 r1, .int .u64 r2, .int .u64 r3]) rfl kbB21 (by simp) infoW0 (by simp [Value.oneCell']) ?_
          intro w22 kbB22 hc22
          have hH22 : Chg [] W0 w22 := hH21.trans hc22 (by simp; omega)
          have kbA22 := kbA21.chg hc22 (by simp; omega)
          refine hK.out _ _ hH22 (fun _ => ?_)
          try simp only [Act.put, List.setIfInBounds_toArray, List.set_cons_zero, List.set_cons_succ, List.getElem_toArray, List.getElem_cons_succ, List.getElem_cons_zero]
          refine wpAnyH_ready (rs := [13]) (by kernel_rfl) (by simp) (AllReadyH.cons rfl (fun K hK => ?_) AllReadyH.nil)
          go_simp
          refine hK.out _ _ hH22 (fun _ => ?_)
          try simp only [Act.put, List.setIfInBounds_toArray, List.set_cons_zero, List.set_cons_succ, List.getElem_toArray, List.getElem_cons_succ, List.getElem_cons_zero]
          refine wpAnyH_done (by kernel_rfl) ?_ _
          go_wp2_with fail
          go_meet
          exact ⟨gA13, gB19, rfl, rfl, rfl, kbA22, kbB22, by omega, by omega, by omega, hH22⟩
      · rw [if_pos (by rfl)]
        refine op_alloc 116 17 (by kernel_rfl) (by kernel_rfl) zeroW0 ?_
        have kbB24 := Blk.new (w1) (#[.int .u64 0, .int .u64 0, .int .u64 0, .int .u64 0] : Array Value) 116
        have hH24 := hH1.alloc (.cells (#[.int .u64 0, .int .u64 0, .int .u64 0, .int .u64 0] : Array Value) 116)
        have hgeB24 := hH1.size
        obtain ⟨gB24, hgg24⟩ : ∃ g, g = (w1).heap.size := ⟨_, rfl⟩
        rw [← hgg24] at kbB24 hgeB24 ⊢
        generalize (w1).alloc (.cells (#[.int .u64 0, .int .u64 0, .int .u64 0, .int .u64 0] : Array Value) 116) = w24 at hH24 kbB24 ⊢
        clear hgg24
        refine hK.out _ _ hH24 (fun _ => ?_)
        try simp only [Act.put, List.setIfInBounds_toArray, List.set_cons_zero, List.set_cons_succ, List.getElem_toArray, List.getElem_cons_succ, List.getElem_cons_zero]
        refine wpAnyH_ready (rs := [4, 9]) (by kernel_rfl) (by simp) (AllReadyH.cons rfl (fun K hK => ?_) (AllReadyH.cons rfl (fun K hK => ?_) AllReadyH.nil))
        · try rw [if_pos (by rfl)]
          go_simp
          go_at_call 61
          refine (c4 _).mono ?_
          rintro e25 w25 ⟨rfl, hc25⟩
          dsimp only
          have hH25 := hH24.trans hc25 (by simp)
          have kbB25 := kbB24.chg hc25 (by simp)
          refine hK.out _ _ hH25 (fun _ => ?_)
          try simp only [Act.put, List.setIfInBounds_toArray, List.set_cons_zero, List.set_cons_succ, List.getElem_toArray, List.getElem_cons_succ, List.getElem_cons_zero]
          refine wpAnyH_take (i := 5) (v := .tuple #[.agg #[.int .u64 q0, .int .u64 q1, .int .u64 q2, .int .u64 q3], .agg #[.int .u64 r0, .int .u64 r1, .int .u64 r2, .int .u64 r3], .int .i64 0]) rfl (by kernel_rfl) (by kernel_rfl) (by kernel_rfl) (fun _ _ _ h => h) (.inl ⟨by rfl, fun w' hw' => ?_⟩) hH25 ?_
          · go_simp
          try simp only [Act.put, List.setIfInBounds_toArray, List.set_cons_zero, List.set_cons_succ, List.getElem_toArray, List.getElem_cons_succ, List.getElem_cons_zero]
          refine wpAnyH_take (i := 6) (v := .agg #[.int .u64 q0, .int .u64 q1, .int .u64 q2, .int .u64 q3]) rfl (by kernel_rfl) (by kernel_rfl) (by kernel_rfl) (fun _ _ _ h => h) (.inl ⟨by rfl, fun w' hw' => ?_⟩) hH25 ?_
          · go_simp
          try simp only [Act.put, List.setIfInBounds_toArray, List.set_cons_zero, List.set_cons_succ, List.getElem_toArray, List.getElem_cons_succ, List.getElem_cons_zero]
          refine wpAnyH_take (i := 7) (v := .agg #[.int .u64 r0, .int .u64 r1, .int .u64 r2, .int .u64 r3]) rfl (by kernel_rfl) (by kernel_rfl) (by kernel_rfl) (fun _ _ _ h => h) (.inl ⟨by rfl, fun w' hw' => ?_⟩) hH25 ?_
          · go_simp
          try simp only [Act.put, List.setIfInBounds_toArray, List.set_cons_zero, List.set_cons_succ, List.getElem_toArray, List.getElem_cons_succ, List.getElem_cons_zero]
          refine wpAnyH_take (i := 8) (v := .int .i64 0) rfl (by kernel_rfl) (by kernel_rfl) (by kernel_rfl) (fun _ _ _ h => h) (.inl ⟨by rfl, fun w' hw' => ?_⟩) hH25 ?_
          · go_simp
          try simp only [Act.put, List.setIfInBounds_toArray, List.set_cons_zero, List.set_cons_succ, List.getElem_toArray, List.getElem_cons_succ, List.getElem_cons_zero]
          refine wpAnyH_ready (rs := [9]) (by kernel_rfl) (by simp) (AllReadyH.cons rfl (fun K hK => ?_) AllReadyH.nil)
          rw [if_pos (by rfl)]
          refine op_alloc 116 16 (by kernel_rfl) (by kernel_rfl) zeroW0 ?_
          have kbA26 := Blk.new (w25) (#[.int .u64 0, .int .u64 0, .int .u64 0, .int .u64 0] : Array Value) 116
          have hH26 := hH25.alloc (.cells (#[.int .u64 0, .int .u64 0, .int .u64 0, .int .u64 0] : Array Value) 116)
          have hgeA26 := hH25.size
          have kbB26 := kbB25.alloc (.cells (#[.int .u64 0, .int .u64 0, .int .u64 0, .int .u64 0] : Array Value) 116)
          have hneBA26 := kbB25.lt
          obtain ⟨gA26, hgg26⟩ : ∃ g, g = (w25).heap.size := ⟨_, rfl⟩
          rw [← hgg26] at kbA26 hgeA26 hneBA26 ⊢
          generalize (w25).alloc (.cells (#[.int .u64 0, .int .u64 0, .int .u64 0, .int .u64 0] : Array Value) 116) = w26 at hH26 kbB26 kbA26 ⊢
          clear hgg26
          refine hK.out _ _ hH26 (fun _ => ?_)
          try simp only [Act.put, List.setIfInBounds_toArray, List.set_cons_zero, List.set_cons_succ, List.getElem_toArray, List.getElem_cons_succ, List.getElem_cons_zero]
          refine wpAnyH_ready (rs := [11]) (by kernel_rfl) (by simp) (AllReadyH.cons rfl (fun K hK => ?_) AllReadyH.nil)
          rw [if_pos (by rfl)]
          refine op_store 116 (.tmp 16) (.tmp 35) (by kernel_rfl) (by kernel_rfl) rfl (cs := [.int .u64 q0, .int .u64 q1, .int .u64 q2, .int .u64 q3]) rfl kbA26 (by simp) infoW0 (by simp [Value.oneCell']) ?_
          intro w27 kbA27 hc27
          have hH27 : Chg [] W0 w27 := hH26.trans hc27 (by simp; omega)
          have kbB27 := kbB26.chg hc27 (by simp; omega)
          refine hK.out _ _ hH27 (fun _ => ?_)
          try simp only [Act.put, List.setIfInBounds_toArray, List.set_cons_zero, List.set_cons_succ, List.getElem_toArray, List.getElem_cons_succ, List.getElem_cons_zero]
          refine wpAnyH_ready (rs := [12]) (by kernel_rfl) (by simp) (AllReadyH.cons rfl (fun K hK => ?_) AllReadyH.nil)
          rw [if_pos (by rfl)]
          refine op_store 116 (.tmp 17) (.tmp 36) (by kernel_rfl) (by kernel_rfl) rfl (cs := [.int .u64 r0, .int .u64 r1, .int .u64 r2, .int .u64 r3]) rfl kbB27 (by simp) infoW0 (by simp [Value.oneCell']) ?_
          intro w28 kbB28 hc28
          have hH28 : Chg [] W0 w28 := hH27.trans hc28 (by simp; omega)
          have kbA28 := kbA27.chg hc28 (by simp; omega)
          refine hK.out _ _ hH28 (fun _ => ?_)
          try simp only [Act.put, List.setIfInBounds_toArray, List.set_cons_zero, List.set_cons_succ, List.getElem_toArray, List.getElem_cons_succ, List.getElem_cons_zero]
          refine wpAnyH_ready (rs := [13]) (by kernel_rfl) (by simp) (AllReadyH.cons rfl (fun K hK => ?_) AllReadyH.nil)
          go_simp
          refine hK.out _ _ hH28 (fun _ => ?_)
          try simp only [Act.put, List.setIfInBounds_toArray, List.set_cons_zero, List.set_cons_succ, List.getElem_toArray, List.getElem_cons_succ, List.getElem_cons_zero]
          refine wpAnyH_done (by kernel_rfl) ?_ _
          go_wp2_with fail
          go_meet
          exact ⟨gA26, gB24, rfl, rfl, rfl, kbA28, kbB28, by omega, by omega, by omega, hH28⟩
        · rw [if_pos (by rfl)]
          refine op_alloc 116 16 (by kernel_rfl) (by kernel_rfl) zeroW0 ?_
          have kbA30 := Blk.new (w24) (#[.int .u64 0, .int .u64 0, .int .u64 0, .int .u64 0] : Array Value) 116
          have hH30 := hH24.alloc (.cells (#[.int .u64 0, .int .u64 0, .int .u64 0, .int .u64 0] : Array Value) 116)
          have hgeA30 := hH24.size
          have kbB30 := kbB24.alloc (.cells (#[.int .u64 0, .int .u64 0, .int .u64 0, .int .u64 0] : Array Value) 116)
          have hneBA30 := kbB24.lt
          obtain ⟨gA30, hgg30⟩ : ∃ g, g = (w24).heap.size := ⟨_, rfl⟩
          rw [← hgg30] at kbA30 hgeA30 hneBA30 ⊢
          generalize (w24).alloc (.cells (#[.int .u64 0, .int .u64 0, .int .u64 0, .int .u64 0] : Array Value) 116) = w30 at hH30 kbB30 kbA30 ⊢
          clear hgg30
          refine hK.out _ _ hH30 (fun _ => ?_)
          try simp only [Act.put, List.setIfInBounds_toArray, List.set_cons_zero, List.set_cons_succ, List.getElem_toArray, List.getElem_cons_succ, List.getElem_cons_zero]
          refine wpAnyH_ready (rs := [4]) (by kernel_rfl) (by simp) (AllReadyH.cons rfl (fun K hK => ?_) AllReadyH.nil)
          try rw [if_pos (by rfl)]
          go_simp
          go_at_call 61
          refine (c4 _).mono ?_
          rintro e31 w31 ⟨rfl, hc31⟩
          dsimp only
          have hH31 := hH30.trans hc31 (by simp)
          have kbB31 := kbB30.chg hc31 (by simp)
          have kbA31 := kbA30.chg hc31 (by simp)
          refine hK.out _ _ hH31 (fun _ => ?_)
          try simp only [Act.put, List.setIfInBounds_toArray, List.set_cons_zero, List.set_cons_succ, List.getElem_toArray, List.getElem_cons_succ, List.getElem_cons_zero]
          refine wpAnyH_take (i := 5) (v := .tuple #[.agg #[.int .u64 q0, .int .u64 q1, .int .u64 q2, .int .u64 q3], .agg #[.int .u64 r0, .int .u64 r1, .int .u64 r2, .int .u64 r3], .int .i64 0]) rfl (by kernel_rfl) (by kernel_rfl) (by kernel_rfl) (fun _ _ _ h => h) (.inl ⟨by rfl, fun w' hw' => ?_⟩) hH31 ?_
          · go_simp
          try simp only [Act.put, List.setIfInBounds_toArray, List.set_cons_zero, List.set_cons_succ, List.getElem_toArray, List.getElem_cons_succ, List.getElem_cons_zero]
          refine wpAnyH_take (i := 6) (v := .agg #[.int .u64 q0, .int .u64 q1, .int .u64 q2, .int .u64 q3]) rfl (by kernel_rfl) (by kernel_rfl) (by kernel_rfl) (fun _ _ _ h => h) (.inl ⟨by rfl, fun w' hw' => ?_⟩) hH31 ?_
          · go_simp
          try simp only [Act.put, List.setIfInBounds_toArray, List.set_cons_zero, List.set_cons_succ, List.getElem_toArray, List.getElem_cons_succ, List.getElem_cons_zero]
          refine wpAnyH_take (i := 7) (v := .agg #[.int .u64 r0, .int .u64 r1, .int .u64 r2, .int .u64 r3]) rfl (by kernel_rfl) (by kernel_rfl) (by kernel_rfl) (fun _ _ _ h => h) (.inl ⟨by rfl, fun w' hw' => ?_⟩) hH31 ?_
          · go_simp
          try simp only [Act.put, List.setIfInBounds_toArray, List.set_cons_zero, List.set_cons_succ, List.getElem_toArray, List.getElem_cons_succ, List.getElem_cons_zero]
          refine wpAnyH_take (i := 8) (v := .int .i64 0) rfl (by kernel_rfl) (by kernel_rfl) (by kernel_rfl) (fun _ _ _ h => h) (.inl ⟨by rfl, fun w' hw' => ?_⟩) hH31 ?_
          · go_simp
          try simp only [Act.put, List.setIfInBounds_toArray, List.set_cons_zero, List.set_cons_succ, List.getElem_toArray, List.getElem_cons_succ, List.getElem_cons_zero]
          refine wpAnyH_ready (rs := [11]) (by kernel_rfl) (by simp) (AllReadyH.cons rfl (fun K hK => ?_) AllReadyH.nil)
          rw [if_pos (by rfl)]
          refine op_store 116 (.tmp 16) (.tmp 35) (by kernel_rfl) (by kernel_rfl) rfl (cs := [.int .u64 q0, .int .u64 q1, .int .u64 q2, .int .u64 q3]) rfl kbA31 (by simp) infoW0 (by simp [Value.oneCell']) ?_
          intro w32 kbA32 hc32
          have hH32 : Chg [] W0 w32 := hH31.trans hc32 (by simp; omega)
          have kbB32 := kbB31.chg hc32 (by simp; omega)
          refine hK.out _ _ hH32 (fun _ => ?_)
          try simp only [Act.put, List.setIfInBounds_toArray, List.set_cons_zero, List.set_cons_succ, List.getElem_toArray, List.getElem_cons_succ, List.getElem_cons_zero]
          refine wpAnyH_ready (rs := [12]) (by kernel_rfl) (by simp) (AllReadyH.cons rfl (fun K hK => ?_) AllReadyH.nil)
          rw [if_pos (by rfl)]
          refine op_store 116 (.tmp 17) (.tmp 36) (by kernel_rfl) (by kernel_rfl) rfl (cs := [.int .u64 r0, .int .u64 r1, .int .u64 r2, .int .u64 r3]) rfl kbB32 (by simp) infoW0 (by simp [Value.oneCell']) ?_
          intro w33 kbB33 hc33
          have hH33 : Chg [] W0 w33 := hH32.trans hc33 (by simp; omega)
          have kbA33 := kbA32.chg hc33 (by simp; omega)
          refine hK.out _ _ hH33 (fun _ => ?_)
          try simp only [Act.put, List.setIfInBounds_toArray, List.set_cons_zero, List.set_cons_succ, List.getElem_toArray, List.getElem_cons_succ, List.getElem_cons_zero]
          refine wpAnyH_ready (rs := [13]) (by kernel_rfl) (by simp) (AllReadyH.cons rfl (fun K hK => ?_) AllReadyH.nil)
          go_simp
          refine hK.out _ _ hH33 (fun _ => ?_)
          try simp only [Act.put, List.setIfInBounds_toArray, List.set_cons_zero, List.set_cons_succ, List.getElem_toArray, List.getElem_cons_succ, List.getElem_cons_zero]
          refine wpAnyH_done (by kernel_rfl) ?_ _
          go_wp2_with fail
          go_meet
          exact ⟨gA30, gB24, rfl, rfl, rfl, kbA33, kbB33, by omega, by omega, by omega, hH33⟩
    · rw [if_pos (by rfl)]
      refine op_alloc 116 16 (by kernel_rfl) (by kernel_rfl) zeroW0 ?_
      have kbA35 := Blk.new ((W0).drew) (#[.int .u64 0, .int .u64 0, .int .u64 0, .int .u64 0] : Array Value) 116
      have hH35 := hH.alloc (.cells (#[.int .u64 0, .int .u64 0, .int .u64 0, .int .u64 0] : Array Value) 116)
      have hgeA35 := hH.size
      obtain ⟨gA35, hgg35⟩ : ∃ g, g = ((W0).drew).heap.size := ⟨_, rfl⟩
      rw [← hgg35] at kbA35 hgeA35 ⊢
      generalize ((W0).drew).alloc (.cells (#[.int .u64 0, .int .u64 0, .int .u64 0, .int .u64 0] : Array Value) 116) = w35 at hH35 kbA35 ⊢
      clear hgg35
      refine hK.out _ _ hH35 (fun _ => ?_)
      try simp only [Act.put, List.setIfInBounds_toArray, List.set_cons_zero, List.set_cons_succ, List.getElem_toArray, List.getElem_cons_succ, List.getElem_cons_zero]
      refine wpAnyH_ready (rs := [3, 10]) (by kernel_rfl) (by simp) (AllReadyH.cons rfl (fun K hK => ?_) (AllReadyH.cons rfl (fun K hK => ?_) AllReadyH.nil))
      · try rw [if_pos (by rfl)]
        go_simp
        go_at_call 60
        refine (c3 _).mono ?_
        rintro e36 w36 ⟨rfl, hc36⟩
        dsimp only
        have hH36 := hH35.trans hc36 (by simp)
        have kbA36 := kbA35.chg hc36 (by simp)
        refine hK.out _ _ hH36 (fun _ => ?_)
        try simp only [Act.put, List.setIfInBounds_toArray, List.set_cons_zero, List.set_cons_succ, List.getElem_toArray, List.getElem_cons_succ, List.getElem_cons_zero]
        refine wpAnyH_ready (rs := [4, 10]) (by kernel_rfl) (by simp) (AllReadyH.cons rfl (fun K hK => ?_) (AllReadyH.cons rfl (fun K hK => ?_) AllReadyH.nil))
        · try rw [if_pos (by rfl)]
          go_simp
          go_at_call 61
          refine (c4 _).mono ?_
          rintro e37 w37 ⟨rfl, hc37⟩
          dsimp only
          have hH37 := hH36.trans hc37 (by simp)
          have kbA37 := kbA36.chg hc37 (by simp)
          refine hK.out _ _ hH37 (fun _ => ?_)
          try simp only [Act.put, List.setIfInBounds_toArray, List.set_cons_zero, List.set_cons_succ, List.getElem_toArray, List.getElem_cons_succ, List.getElem_cons_zero]
          refine wpAnyH_take (i := 5) (v := .tuple #[.agg #[.int .u64 q0, .int .u64 q1, .int .u64 q2, .int .u64 q3], .agg #[.int .u64 r0, .int .u64 r1, .int .u64 r2, .int .u64 r3], .int .i64 0]) rfl (by kernel_rfl) (by kernel_rfl) (by kernel_rfl) (fun _ _ _ h => h) (.inl ⟨by rfl, fun w' hw' => ?_⟩) hH37 ?_
          · go_simp
          try simp only [Act.put, List.setIfInBounds_toArray, List.set_cons_zero, List.set_cons_succ, List.getElem_toArray, List.getElem_cons_succ, List.getElem_cons_zero]
          refine wpAnyH_take (i := 6) (v := .agg #[.int .u64 q0, .int .u64 q1, .int .u64 q2, .int .u64 q3]) rfl (by kernel_rfl) (by kernel_rfl) (by kernel_rfl) (fun _ _ _ h => h) (.inl ⟨by rfl, fun w' hw' => ?_⟩) hH37 ?_
          · go_simp
          try simp only [Act.put, List.setIfInBounds_toArray, List.set_cons_zero, List.set_cons_succ, List.getElem_toArray, List.getElem_cons_succ, List.getElem_cons_zero]
          refine wpAnyH_take (i := 7) (v := .agg #[.int .u64 r0, .int .u64 r1, .int .u64 r2, .int .u64 r3]) rfl (by kernel_rfl) (by kernel_rfl) (by kernel_rfl) (fun _ _ _ h => h) (.inl ⟨by rfl, fun w' hw' => ?_⟩) hH37 ?_
          · go_simp
          try simp only [Act.put, List.setIfInBounds_toArray, List.set_cons_zero, List.set_cons_succ, List.getElem_toArray, List.getElem_cons_succ, List.getElem_cons_zero]
          refine wpAnyH_take (i := 8) (v := .int .i64 0) rfl (by kernel_rfl) (by kernel_rfl) (by kernel_rfl) (fun _ _ _ h => h) (.inl ⟨by rfl, fun w' hw' => ?_⟩) hH37 ?_
          · go_simp
          try simp only [Act.put, List.setIfInBounds_toArray, List.set_cons_zero, List.set_cons_succ, List.getElem_toArray, List.getElem_cons_succ, List.getElem_cons_zero]
          refine wpAnyH_ready (rs := [10]) (by kernel_rfl) (by simp) (AllReadyH.cons rfl (fun K hK => ?_) AllReadyH.nil)
          rw [if_pos (by rfl)]
          refine op_alloc 116 17 (by kernel_rfl) (by kernel_rfl) zeroW0 ?_
          have kbB38 := Blk.new (w37) (#[.int .u64 0, .int .u64 0, .int .u64 0, .int .u64 0] : Array Value) 116
          have hH38 := hH37.alloc (.cells (#[.int .u64 0, .int .u64 0, .int .u64 0, .int .u64 0] : Array Value) 116)
          have hgeB38 := hH37.size
          have kbA38 := kbA37.alloc (.cells (#[.int .u64 0, .int .u64 0, .int .u64 0, .int .u64 0] : Array Value) 116)
          have hneAB38 := kbA37.lt
          obtain ⟨gB38, hgg38⟩ : ∃ g, g = (w37).heap.size := ⟨_, rfl⟩
          rw [← hgg38] at kbB38 hgeB38 hneAB38 ⊢
          generalize (w37).alloc (.cells (#[.int .u64 0, .int .u64 0, .int .u64 0, .int .u64 0] : Array Value) 116) = w38 at hH38 kbA38 kbB38 ⊢
          clear hgg38
          refine hK.out _ _ hH38 (fun _ => ?_)
          try simp only [Act.put, List.setIfInBounds_toArray, List.set_cons_zero, List.set_cons_succ, List.getElem_toArray, List.getElem_cons_succ, List.getElem_cons_zero]
          refine wpAnyH_ready (rs := [11]) (by kernel_rfl) (by simp) (AllReadyH.cons rfl (fun K hK => ?_) AllReadyH.nil)
          rw [if_pos (by rfl)]
          refine op_store 116 (.tmp 16) (.tmp 35) (by kernel_rfl) (by kernel_rfl) rfl (cs := [.int .u64 q0, .int .u64 q1, .int .u64 q2, .int .u64 q3]) rfl kbA38 (by simp) infoW0 (by simp [Value.oneCell']) ?_
          intro w39 kbA39 hc39
          have hH39 : Chg [] W0 w39 := hH38.trans hc39 (by simp; omega)
          have kbB39 := kbB38.chg hc39 (by simp; omega)
          refine hK.out _ _ hH39 (fun _ => ?_)
          try simp only [Act.put, List.setIfInBounds_toArray, List.set_cons_zero, List.set_cons_succ, List.getElem_toArray, List.getElem_cons_succ, List.getElem_cons_zero]
          refine wpAnyH_ready (rs := [12]) (by kernel_rfl) (by simp) (AllReadyH.cons rfl (fun K hK => ?_) AllReadyH.nil)
          rw [if_pos (by rfl)]
          refine op_store 116 (.tmp 17) (.tmp 36) (by kernel_rfl) (by kernel_rfl) rfl (cs := [.int .u64 r0, .int .u64 r1, .int .u64 r2, .int .u64 r3]) rfl kbB39 (by simp) infoW0 (by simp [Value.oneCell']) ?_
          intro w40 kbB40 hc40
          have hH40 : Chg [] W0 w40 := hH39.trans hc40 (by simp; omega)
          have kbA40 := kbA39.chg hc40 (by simp; omega)
          refine hK.out _ _ hH40 (fun _ => ?_)
          try simp only [Act.put, List.setIfInBounds_toArray, List.set_cons_zero, List.set_cons_succ, List.getElem_toArray, List.getElem_cons_succ, List.getElem_cons_zero]
          refine wpAnyH_ready (rs := [13]) (by kernel_rfl) (by simp) (AllReadyH.cons rfl (fun K hK => ?_) AllReadyH.nil)
          go_simp
          refine hK.out _ _ hH40 (fun _ => ?_)
          try simp only [Act.put, List.setIfInBounds_toArray, List.set_cons_zero, List.set_cons_succ, List.getElem_toArray, List.getElem_cons_succ, List.getElem_cons_zero]
          refine wpAnyH_done (by kernel_rfl) ?_ _
          go_wp2_with fail
          go_meet
          exact ⟨gA35, gB38, rfl, rfl, rfl, kbA40, kbB40, by omega, by omega, by omega, hH40⟩
        · rw [if_pos (by rfl)]
          refine op_alloc 116 17 (by kernel_rfl) (by kernel_rfl) zeroW0 ?_
          have kbB42 := Blk.new (w36) (#[.int .u64 0, .int .u64 0, .int .u64 0, .int .u64 0] : Array Value) 116
          have hH42 := hH36.alloc (.cells (#[.int .u64 0, .int .u64 0, .int .u64 0, .int .u64 0] : Array Value) 116)
          have hgeB42 := hH36.size
          have kbA42 := kbA36.alloc (.cells (#[.int .u64 0, .int .u64 0, .int .u64 0, .int .u64 0] : Array Value) 116)
          have hneAB42 := kbA36.lt
          obtain ⟨gB42, hgg42⟩ : ∃ g, g = (w36).heap.size := ⟨_, rfl⟩
          rw [← hgg42] at kbB42 hgeB42 hneAB42 ⊢
          generalize (w36).alloc (.cells (#[.int .u64 0, .int .u64 0, .int .u64 0, .int .u64 0] : Array Value) 116) = w42 at hH42 kbA42 kbB42 ⊢
          clear hgg42
          refine hK.out _ _ hH42 (fun _ => ?_)
          try simp only [Act.put, List.setIfInBounds_toArray, List.set_cons_zero, List.set_cons_succ, List.getElem_toArray, List.getElem_cons_succ, List.getElem_cons_zero]
          refine wpAnyH_ready (rs := [4]) (by kernel_rfl) (by simp) (AllReadyH.cons rfl (fun K hK => ?_) AllReadyH.nil)
          try rw [if_pos (by rfl)]
          go_simp
          go_at_call 61
          refine (c4 _).mono ?_
          rintro e43 w43 ⟨rfl, hc43⟩
          dsimp only
          have hH43 := hH42.trans hc43 (by simp)
          have kbA43 := kbA42.chg hc43 (by simp)
          have kbB43 := kbB42.chg hc43 (by simp)
          refine hK.out _ _ hH43 (fun _ => ?_)
          try simp only [Act.put, List.setIfInBounds_toArray, List.set_cons_zero, List.set_cons_succ, List.getElem_toArray, List.getElem_cons_succ, List.getElem_cons_zero]
          refine wpAnyH_take (i := 5) (v := .tuple #[.agg #[.int .u64 q0, .int .u64 q1, .int .u64 q2, .int .u64 q3], .agg #[.int .u64 r0, .int .u64 r1, .int .u64 r2, .int .u64 r3], .int .i64 0]) rfl (by kernel_rfl) (by kernel_rfl) (by kernel_rfl) (fun _ _ _ h => h) (.inl ⟨by rfl, fun w' hw' => ?_⟩) hH43 ?_
          · go_simp
          try simp only [Act.put, List.setIfInBounds_toArray, List.set_cons_zero, List.set_cons_succ, List.getElem_toArray, List.getElem_cons_succ, List.getElem_cons_zero]
          refine wpAnyH_take (i := 6) (v := .agg #[.int .u64 q0, .int .u64 q1, .int .u64 q2, .int .u64 q3]) rfl (by kernel_rfl) (by kernel_rfl) (by kernel_rfl) (fun _ _ _ h => h) (.inl ⟨by rfl, fun w' hw' => ?_⟩) hH43 ?_
          · go_simp
          try simp only [Act.put, List.setIfInBounds_toArray, List.set_cons_zero, List.set_cons_succ, List.getElem_toArray, List.getElem_cons_succ, List.getElem_cons_zero]
          refine wpAnyH_take (i := 7) (v := .agg #[.int .u64 r0, .int .u64 r1, .int .u64 r2, .int .u64 r3]) rfl (by kernel_rfl) (by kernel_rfl) (by kernel_rfl) (fun _ _ _ h => h) (.inl ⟨by rfl, fun w' hw' => ?_⟩) hH43 ?_
          · go_simp
          try simp only [Act.put, List.setIfInBounds_toArray, List.set_cons_zero, List.set_cons_succ, List.getElem_toArray, List.getElem_cons_succ, List.getElem_cons_zero]
          refine wpAnyH_take (i := 8) (v := .int .i64 0) rfl (by kernel_rfl) (by kernel_rfl) (by kernel_rfl) (fun _ _ _ h => h) (.inl ⟨by rfl, fun w' hw' => ?_⟩) hH43 ?_
          · go_simp
          try simp only [Act.put, List.setIfInBounds_toArray, List.set_cons_zero, List.set_cons_succ, List.getElem_toArray, List.getElem_cons_succ, List.getElem_cons_zero]
          refine wpAnyH_ready (rs := [11]) (by kernel_rfl) (by simp) (AllReadyH.cons rfl (fun K hK => ?_) AllReadyH.nil)
          rw [if_pos (by rfl)]
          refine op_store 116 (.tmp 16) (.tmp 35) (by kernel_rfl) (by kernel_rfl) rfl (cs := [.int .u64 q0, .int .u64 q1, .int .u64 q2, .int .u64 q3]) rfl kbA43 (by simp) infoW0 (by simp [Value.oneCell']) ?_
          intro w44 kbA44 hc44
          have hH44 : Chg [] W0 w44 := hH43.trans hc44 (by simp; omega)
          have kbB44 := kbB43.chg hc44 (by simp; omega)
          refine hK.out _ _ hH44 (fun _ => ?_)
          try simp only [Act.put, List.setIfInBounds_toArray, List.set_cons_zero, List.set_cons_succ, List.getElem_toArray, List.getElem_cons_succ, List.getElem_cons_zero]
          refine wpAnyH_ready (rs := [12]) (by kernel_rfl) (by simp) (AllReadyH.cons rfl (fun K hK => ?_) AllReadyH.nil)
          rw [if_pos (by rfl)]
          refine op_store 116 (.tmp 17) (.tmp 36) (by kernel_rfl) (by kernel_rfl) rfl (cs := [.int .u64 r0, .int .u64 r1, .int .u64 r2, .int .u64 r3]) rfl kbB44 (by simp) infoW0 (by simp [Value.oneCell']) ?_
          intro w45 kbB45 hc45
          have hH45 : Chg [] W0 w45 := hH44.trans hc45 (by simp; omega)
          have kbA45 := kbA44.chg hc45 (by simp; omega)
          refine hK.out _ _ hH45 (fun _ => ?_)
          try simp only [Act.put, List.setIfInBounds_toArray, List.set_cons_zero, List.set_cons_succ, List.getElem_toArray, List.getElem_cons_succ, List.getElem_cons_zero]
          refine wpAnyH_ready (rs := [13]) (by kernel_rfl) (by simp) (AllReadyH.cons rfl (fun K hK => ?_) AllReadyH.nil)
          go_simp
          refine hK.out _ _ hH45 (fun _ => ?_)
          try simp only [Act.put, List.setIfInBounds_toArray, List.set_cons_zero, List.set_cons_succ, List.getElem_toArray, List.getElem_cons_succ, List.getElem_cons_zero]
          refine wpAnyH_done (by kernel_rfl) ?_ _
          go_wp2_with fail
          go_meet
          exact ⟨gA35, gB42, rfl, rfl, rfl, kbA45, kbB45, by omega, by omega, by omega, hH45⟩
      · rw [if_pos (by rfl)]
        refine op_alloc 116 17 (by kernel_rfl) (by kernel_rfl) zeroW0 ?_
        have kbB47 := Blk.new (w35) (#[.int .u64 0, .int .u64 0, .int .u64 0, .int .u64 0] : Array Value) 116
        have hH47 := hH35.alloc (.cells (#[.int .u64 0, .int .u64 0, .int .u64 0, .int .u64 0] : Array Value) 116)
        have hgeB47 := hH35.size
        have kbA47 := kbA35.alloc (.cells (#[.int .u64 0, .int .u64 0, .int .u64 0, .int .u64 0] : Array Value) 116)
        have hneAB47 := kbA35.lt
        obtain ⟨gB47, hgg47⟩ : ∃ g, g = (w35).heap.size := ⟨_, rfl⟩
        rw [← hgg47] at kbB47 hgeB47 hneAB47 ⊢
        generalize (w35).alloc (.cells (#[.int .u64 0, .int .u64 0, .int .u64 0, .int .u64 0] : Array Value) 116) = w47 at hH47 kbA47 kbB47 ⊢
        clear hgg47
        refine hK.out _ _ hH47 (fun _ => ?_)
        try simp only [Act.put, List.setIfInBounds_toArray, List.set_cons_zero, List.set_cons_succ, List.getElem_toArray, List.getElem_cons_succ, List.getElem_cons_zero]
        refine wpAnyH_ready (rs := [3]) (by kernel_rfl) (by simp) (AllReadyH.cons rfl (fun K hK => ?_) AllReadyH.nil)
        try rw [if_pos (by rfl)]
        go_simp
        go_at_call 60
        refine (c3 _).mono ?_
        rintro e48 w48 ⟨rfl, hc48⟩
        dsimp only
        have hH48 := hH47.trans hc48 (by simp)
        have kbA48 := kbA47.chg hc48 (by simp)
        have kbB48 := kbB47.chg hc48 (by simp)
        refine hK.out _ _ hH48 (fun _ => ?_)
        try simp only [Act.put, List.setIfInBounds_toArray, List.set_cons_zero, List.set_cons_succ, List.getElem_toArray, List.getElem_cons_succ, List.getElem_cons_zero]
        refine wpAnyH_ready (rs := [4]) (by kernel_rfl) (by simp) (AllReadyH.cons rfl (fun K hK => ?_) AllReadyH.nil)
        try rw [if_pos (by rfl)]
        go_simp
        go_at_call 61
        refine (c4 _).mono ?_
        rintro e49 w49 ⟨rfl, hc49⟩
        dsimp only
        have hH49 := hH48.trans hc49 (by simp)
        have kbA49 := kbA48.chg hc49 (by simp)
        have kbB49 := kbB48.chg hc49 (by simp)
        refine hK.out _ _ hH49 (fun _ => ?_)
        try simp only [Act.put, List.setIfInBounds_toArray, List.set_cons_zero, List.set_cons_succ, List.getElem_toArray, List.getElem_cons_succ, List.getElem_cons_zero]
        refine wpAnyH_take (i := 5) (v := .tuple #[.agg #[.int .u64 q0, .int .u64 q1, .int .u64 q2, .int .u64 q3], .agg #[.int .u64 r0, .int .u64 r1, .int .u64 r2, .int .u64 r3], .int .i64 0]) rfl (by kernel_rfl) (by kernel_rfl) (by kernel_rfl) (fun _ _ _ h => h) (.inl ⟨by rfl, fun w' hw' => ?_⟩) hH49 ?_
        · go_simp
        try simp only [Act.put, List.setIfInBounds_toArray, List.set_cons_zero, List.set_cons_succ, List.getElem_toArray, List.getElem_cons_succ, List.getElem_cons_zero]
        refine wpAnyH_take (i := 6) (v := .agg #[.int .u64 q0, .int .u64 q1, .int .u64 q2, .int .u64 q3]) rfl (by kernel_rfl) (by kernel_rfl) (by kernel_rfl) (fun _ _ _ h => h) (.inl ⟨by rfl, fun w' hw' => ?_⟩) hH49 ?_
        · go_simp
        try simp only [Act.put, List.setIfInBounds_toArray, List.set_cons_zero, List.set_cons_succ, List.getElem_toArray, List.getElem_cons_succ, List.getElem_cons_zero]
        refine wpAnyH_take (i := 7) (v := .agg #[.int .u64 r0, .int .u64 r1, .int .u64 r2, .int .u64 r3]) rfl (by kernel_rfl) (by kernel_rfl) (by kernel_rfl) (fun _ _ _ h => h) (.inl ⟨by rfl, fun w' hw' => ?_⟩) hH49 ?_
        · go_simp
        try simp only [Act.put, List.setIfInBounds_toArray, List.set_cons_zero, List.set_cons_succ, List.getElem_toArray, List.getElem_cons_succ, List.getElem_cons_zero]
        refine wpAnyH_take (i := 8) (v := .int .i64 0) rfl (by kernel_rfl) (by kernel_rfl) (by kernel_rfl) (fun _ _ _ h => h) (.inl ⟨by rfl, fun w' hw' => ?_⟩) hH49 ?_
        · go_simp
        try simp only [Act.put, List.setIfInBounds_toArray, List.set_cons_zero, List.set_cons_succ, List.getElem_toArray, List.getElem_cons_succ, List.getElem_cons_zero]
        refine wpAnyH_ready (rs := [11]) (by kernel_rfl) (by simp) (AllReadyH.cons rfl (fun K hK => ?_) AllReadyH.nil)
        rw [if_pos (by rfl)]
        refine op_store 116 (.tmp 16) (.tmp 35) (by kernel_rfl) (by kernel_rfl) rfl (cs := [.int .u64 q0, .int .u64 q1, .int .u64 q2, .int .u64 q3]) rfl kbA49 (by simp) infoW0 (by simp [Value.oneCell']) ?_
        intro w50 kbA50 hc50
        have hH50 : Chg [] W0 w50 := hH49.trans hc50 (by simp; omega)
        have kbB50 := kbB49.chg hc50 (by simp; omega)
        refine hK.out _ _ hH50 (fun _ => ?_)
        try simp only [Act.put, List.setIfInBounds_toArray, List.set_cons_zero, List.set_cons_succ, List.getElem_toArray, List.getElem_cons_succ, List.getElem_cons_zero]
        refine wpAnyH_ready (rs := [12]) (by kernel_rfl) (by simp) (AllReadyH.cons rfl (fun K hK => ?_) AllReadyH.nil)
        rw [if_pos (by rfl)]
        refine op_store 116 (.tmp 17) (.tmp 36) (by kernel_rfl) (by kernel_rfl) rfl (cs := [.int .u64 r0, .int .u64 r1, .int .u64 r2, .int .u64 r3]) rfl kbB50 (by simp) infoW0 (by simp [Value.oneCell']) ?_
        intro w51 kbB51 hc51
        have hH51 : Chg [] W0 w51 := hH50.trans hc51 (by simp; omega)
        have kbA51 := kbA50.chg hc51 (by simp; omega)
        refine hK.out _ _ hH51 (fun _ => ?_)
        try simp only [Act.put, List.setIfInBounds_toArray, List.set_cons_zero, List.set_cons_succ, List.getElem_toArray, List.getElem_cons_succ, List.getElem_cons_zero]
        refine wpAnyH_ready (rs := [13]) (by kernel_rfl) (by simp) (AllReadyH.cons rfl (fun K hK => ?_) AllReadyH.nil)
        go_simp
        refine hK.out _ _ hH51 (fun _ => ?_)
        try simp only [Act.put, List.setIfInBounds_toArray, List.set_cons_zero, List.set_cons_succ, List.getElem_toArray, List.getElem_cons_succ, List.getElem_cons_zero]
        refine wpAnyH_done (by kernel_rfl) ?_ _
        go_wp2_with fail
        go_meet
        exact ⟨gA35, gB47, rfl, rfl, rfl, kbA51, kbB51, by omega, by omega, by omega, hH51⟩
    · rw [if_pos (by rfl)]
      refine op_alloc 116 17 (by kernel_rfl) (by kernel_rfl) zeroW0 ?_
      have kbB53 := Blk.new ((W0).drew) (#[.int .u64 0, .int .u64 0, .int .u64 0, .int .u64 0] : Array Value) 116
      have hH53 := hH.alloc (.cells (#[.int .u64 0, .int .u64 0, .int .u64 0, .int .u64 0] : Array Value) 116)
      have hgeB53 := hH.size
      obtain ⟨gB53, hgg53⟩ : ∃ g, g = ((W0).drew).heap.size := ⟨_, rfl⟩
      rw [← hgg53] at kbB53 hgeB53 ⊢
      generalize ((W0).drew).alloc (.cells (#[.int .u64 0, .int .u64 0, .int .u64 0, .int .u64 0] : Array Value) 116) = w53 at hH53 kbB53 ⊢
      clear hgg53
      refine hK.out _ _ hH53 (fun _ => ?_)
      try simp only [Act.put, List.setIfInBounds_toArray, List.set_cons_zero, List.set_cons_succ, List.getElem_toArray, List.getElem_cons_succ, List.getElem_cons_zero]
      refine wpAnyH_ready (rs := [3, 9]) (by kernel_rfl) (by simp) (AllReadyH.cons rfl (fun K hK => ?_) (AllReadyH.cons rfl (fun K hK => ?_) AllReadyH.nil))
      · try rw [if_pos (by rfl)]
        go_simp
        go_at_call 60
        refine (c3 _).mono ?_
        rintro e54 w54 ⟨rfl, hc54⟩
        dsimp only
        have hH54 := hH53.trans hc54 (by simp)
        have kbB54 := kbB53.chg hc54 (by simp)
        refine hK.out _ _ hH54 (fun _ => ?_)
        try simp only [Act.put, List.setIfInBounds_toArray, List.set_cons_zero, List.set_cons_succ, List.getElem_toArray, List.getElem_cons_succ, List.getElem_cons_zero]
        refine wpAnyH_ready (rs := [4, 9]) (by kernel_rfl) (by simp) (AllReadyH.cons rfl (fun K hK => ?_) (AllReadyH.cons rfl (fun K hK => ?_) AllReadyH.nil))
        · try rw [if_pos (by rfl)]
          go_simp
          go_at_call 61
          refine (c4 _).mono ?_
          rintro e55 w55 ⟨rfl, hc55⟩
          dsimp only
          have hH55 := hH54.trans hc55 (by simp)
          have kbB55 := kbB54.chg hc55 (by simp)
          refine hK.out _ _ hH55 (fun _ => ?_)
          try simp only [Act.put, List.setIfInBounds_toArray, List.set_cons_zero, List.set_cons_succ, List.getElem_toArray, List.getElem_cons_succ, List.getElem_cons_zero]
          refine wpAnyH_take (i := 5) (v := .tuple #[.agg #[.int .u64 q0, .int .u64 q1, .int .u64 q2, .int .u64 q3], .agg #[.int .u64 r0, .int .u64 r1, .int .u64 r2, .int .u64 r3], .int .i64 0]) rfl (by kernel_rfl) (by kernel_rfl) (by kernel_rfl) (fun _ _ _ h => h) (.inl ⟨by rfl, fun w' hw' => ?_⟩) hH55 ?_
          · go_simp
          try simp only [Act.put, List.setIfInBounds_toArray, List.set_cons_zero, List.set_cons_succ, List.getElem_toArray, List.getElem_cons_succ, List.getElem_cons_zero]
          refine wpAnyH_take (i := 6) (v := .agg #[.int .u64 q0, .int .u64 q1, .int .u64 q2, .int .u64 q3]) rfl (by kernel_rfl) (by kernel_rfl) (by kernel_rfl) (fun _ _ _ h => h) (.inl ⟨by rfl, fun w' hw' => ?_⟩) hH55 ?_
          · go_simp
          try simp only [Act.put, List.setIfInBounds_toArray, List.set_cons_zero, List.set_cons_succ, List.getElem_toArray, List.getElem_cons_succ, List.getElem_cons_zero]
          refine wpAnyH_take (i := 7) (v := .agg #[.int .u64 r0, .int .u64 r1, .int .u64 r2, .int .u64 r3]) rfl (by kernel_rfl) (by kernel_rfl) (by kernel_rfl) (fun _ _ _ h => h) (.inl ⟨by rfl, fun w' hw' => ?_⟩) hH55 ?_
          · go_simp
          try simp only [Act.put, List.setIfInBounds_toArray, List.set_cons_zero, List.set_cons_succ, List.getElem_toArray, List.getElem_cons_succ, List.getElem_cons_zero]
          refine wpAnyH_take (i := 8) (v := .int .i64 0) rfl (by kernel_rfl) (by kernel_rfl) (by kernel_rfl) (fun _ _ _ h => h) (.inl ⟨by rfl, fun w' hw' => ?_⟩) hH55 ?_
          · go_simp
          try simp only [Act.put, List.setIfInBounds_toArray, List.set_cons_zero, List.set_cons_succ, List.getElem_toArray, List.getElem_cons_succ, List.getElem_cons_zero]
          refine wpAnyH_ready (rs := [9]) (by kernel_rfl) (by simp) (AllReadyH.cons rfl (fun K hK => ?_) AllReadyH.nil)
          rw [if_pos (by rfl)]
          refine op_alloc 116 16 (by kernel_rfl) (by kernel_rfl) zeroW0 ?_
          have kbA56 := Blk.new (w55) (#[.int .u64 0, .int .u64 0, .int .u64 0, .int .u64 0] : Array Value) 116
          have hH56 := hH55.alloc (.cells (#[.int .u64 0, .int .u64 0, .int .u64 0, .int .u64 0] : Array Value) 116)
          have hgeA56 := hH55.size
          have kbB56 := kbB55.alloc (.cells (#[.int .u64 0, .int .u64 0, .int .u64 0, .int .u64 0] : Array Value) 116)
          have hneBA56 := kbB55.lt
          obtain ⟨gA56, hgg56⟩ : ∃ g, g = (w55).heap.size := ⟨_, rfl⟩
          rw [← hgg56] at kbA56 hgeA56 hneBA56 ⊢
          generalize (w55).alloc (.cells (#[.int .u64 0, .int .u64 0, .int .u64 0, .int .u64 0] : Array Value) 116) = w56 at hH56 kbB56 kbA56 ⊢
          clear hgg56
          refine hK.out _ _ hH56 (fun _ => ?_)
          try simp only [Act.put, List.setIfInBounds_toArray, List.set_cons_zero, List.set_cons_succ, List.getElem_toArray, List.getElem_cons_succ, List.getElem_cons_zero]
          refine wpAnyH_ready (rs := [11]) (by kernel_rfl) (by simp) (AllReadyH.cons rfl (fun K hK => ?_) AllReadyH.nil)
          rw [if_pos (by rfl)]
          refine op_store 116 (.tmp 16) (.tmp 35) (by kernel_rfl) (by kernel_rfl) rfl (cs := [.int .u64 q0, .int .u64 q1, .int .u64 q2, .int .u64 q3]) rfl kbA56 (by simp) infoW0 (by simp [Value.oneCell']) ?_
          intro w57 kbA57 hc57
          have hH57 : Chg [] W0 w57 := hH56.trans hc57 (by simp; omega)
          have kbB57 := kbB56.chg hc57 (by simp; omega)
          refine hK.out _ _ hH57 (fun _ => ?_)
          try simp only [Act.put, List.setIfInBounds_toArray, List.set_cons_zero, List.set_cons_succ, List.getElem_toArray, List.getElem_cons_succ, List.getElem_cons_zero]
          refine wpAnyH_ready (rs := [12]) (by kernel_rfl) (by simp) (AllReadyH.cons rfl (fun K hK => ?_) AllReadyH.nil)
          rw [if_pos (by rfl)]
          refine op_store 116 (.tmp 17) (.tmp 36) (by kernel_rfl) (by kernel_rfl) rfl (cs := [.int .u64 r0, .int .u64 r1, .int .u64 r2, .int .u64 r3]) rfl kbB57 (by simp) infoW0 (by simp [Value.oneCell']) ?_
          intro w58 kbB58 hc58
          have hH58 : Chg [] W0 w58 := hH57.trans hc58 (by simp; omega)
          have kbA58 := kbA57.chg hc58 (by simp; omega)
          refine hK.out _ _ hH58 (fun _ => ?_)
          try simp only [Act.put, List.setIfInBounds_toArray, List.set_cons_zero, List.set_cons_succ, List.getElem_toArray, List.getElem_cons_succ, List.getElem_cons_zero]
          refine wpAnyH_ready (rs := [13]) (by kernel_rfl) (by simp) (AllReadyH.cons rfl (fun K hK => ?_) AllReadyH.nil)
          go_simp
          refine hK.out _ _ hH58 (fun _ => ?_)
          try simp only [Act.put, List.setIfInBounds_toArray, List.set_cons_zero, List.set_cons_succ, List.getElem_toArray, List.getElem_cons_succ, List.getElem_cons_zero]
          refine wpAnyH_done (by kernel_rfl) ?_ _
          go_wp2_with fail
          go_meet
          exact ⟨gA56, gB53, rfl, rfl, rfl, kbA58, kbB58, by omega, by omega, by omega, hH58⟩
        · rw [if_pos (by rfl)]
          refine op_alloc 116 16 (by kernel_rfl) (by kernel_rfl) zeroW0 ?_
          have kbA60 := Blk.new (w54) (#[.int .u64 0, .int .u64 0, .int .u64 0, .int .u64 0] : Array Value) 116
          have hH60 := hH54.alloc (.cells (#[.int .u64 0, .int .u64 0, .int .u64 0, .int .u64 0] : Array Value) 116)
          have hgeA60 := hH54.size
          have kbB60 := kbB54.alloc (.cells (#[.int .u64 0, .int .u64 0, .int .u64 0, .int .u64 0] : Array Value) 116)
          have hneBA60 := kbB54.lt
          obtain ⟨gA60, hgg60⟩ : ∃ g, g = (w54).heap.size := ⟨_, rfl⟩
          rw [← hgg60] at kbA60 hgeA60 hneBA60 ⊢
          generalize (w54).alloc (.cells (#[.int .u64 0, .int .u64 0, .int .u64 0, .int .u64 0] : Array Value) 116) = w60 at hH60 kbB60 kbA60 ⊢
          clear hgg60
          refine hK.out _ _ hH60 (fun _ => ?_)
          try simp only [Act.put, List.setIfInBounds_toArray, List.set_cons_zero, List.set_cons_succ, List.getElem_toArray, List.getElem_cons_succ, List.getElem_cons_zero]
          refine wpAnyH_ready (rs := [4]) (by kernel_rfl) (by simp) (AllReadyH.cons rfl (fun K hK => ?_) AllReadyH.nil)
          try rw [if_pos (by rfl)]
          go_simp
          go_at_call 61
          refine (c4 _).mono ?_
          rintro e61 w61 ⟨rfl, hc61⟩
          dsimp only
          have hH61 := hH60.trans hc61 (by simp)
          have kbB61 := kbB60.chg hc61 (by simp)
          have kbA61 := kbA60.chg hc61 (by simp)
          refine hK.out _ _ hH61 (fun _ => ?_)
          try simp only [Act.put, List.setIfInBounds_toArray, List.set_cons_zero, List.set_cons_succ, List.getElem_toArray, List.getElem_cons_succ, List.getElem_cons_zero]
          refine wpAnyH_take (i := 5) (v := .tuple #[.agg #[.int .u64 q0, .int .u64 q1, .int .u64 q2, .int .u64 q3], .agg #[.int .u64 r0, .int .u64 r1, .int .u64 r2, .int .u64 r3], .int .i64 0]) rfl (by kernel_rfl) (by kernel_rfl) (by kernel_rfl) (fun _ _ _ h => h) (.inl ⟨by rfl, fun w' hw' => ?_⟩) hH61 ?_
          · go_simp
          try simp only [Act.put, List.setIfInBounds_toArray, List.set_cons_zero, List.set_cons_succ, List.getElem_toArray, List.getElem_cons_succ, List.getElem_cons_zero]
          refine wpAnyH_take (i := 6) (v := .agg #[.int .u64 q0, .int .u64 q1, .int .u64 q2, .int .u64 q3]) rfl (by kernel_rfl) (by kernel_rfl) (by kernel_rfl) (fun _ _ _ h => h) (.inl ⟨by rfl, fun w' hw' => ?_⟩) hH61 ?_
          · go_simp
          try simp only [Act.put, List.setIfInBounds_toArray, List.set_cons_zero, List.set_cons_succ, List.getElem_toArray, List.getElem_cons_succ, List.getElem_cons_zero]
          refine wpAnyH_take (i := 7) (v := .agg #[.int .u64 r0, .int .u64 r1, .int .u64 r2, .int .u64 r3]) rfl (by kernel_rfl) (by kernel_rfl) (by kernel_rfl) (fun _ _ _ h => h) (.inl ⟨by rfl, fun w' hw' => ?_⟩) hH61 ?_
          · go_simp
          try simp only [Act.put, List.setIfInBounds_toArray, List.set_cons_zero, List.set_cons_succ, List.getElem_toArray, List.getElem_cons_succ, List.getElem_cons_zero]
          refine wpAnyH_take (i := 8) (v := .int .i64 0) rfl (by kernel_rfl) (by kernel_rfl) (by kernel_rfl) (fun _ _ _ h => h) (.inl ⟨by rfl, fun w' hw' => ?_⟩) hH61 ?_
          · go_simp
          try simp only [Act.put, List.setIfInBounds_toArray, List.set_cons_zero, List.set_cons_succ, List.getElem_toArray, List.getElem_cons_succ, List.getElem_cons_zero]
          refine wpAnyH_ready (rs := [11]) (by kernel_rfl) (by simp) (AllReadyH.cons rfl (fun K hK => ?_) AllReadyH.nil)
          rw [if_pos (by rfl)]
          refine op_store 116 (.tmp 16) (.tmp 35) (by kernel_rfl) (by kernel_rfl) rfl (cs := [.int .u64 q0, .int .u64 q1, .int .u64 q2, .int .u64 q3]) rfl kbA61 (by simp) infoW0 (by simp [Value.oneCell']) ?_
          intro w62 kbA62 hc62
          have hH62 : Chg [] W0 w62 := hH61.trans hc62 (by simp; omega)
          have kbB62 := kbB61.chg hc62 (by simp; omega)
          refine hK.out _ _ hH62 (fun _ => ?_)
          try simp only [Act.put, List.setIfInBounds_toArray, List.set_cons_zero, List.set_cons_succ, List.getElem_toArray, List.getElem_cons_succ, List.getElem_cons_zero]
          refine wpAnyH_ready (rs := [12]) (by kernel_rfl) (by simp) (AllReadyH.cons rfl (fun K hK => ?_) AllReadyH.nil)
          rw [if_pos (by rfl)]
          refine op_store 116 (.tmp 17) (.tmp 36) (by kernel_rfl) (by kernel_rfl) rfl (cs := [.int .u64 r0, .int .u64 r1, .int .u64 r2, .int .u64 r3]) rfl kbB62 (by simp) infoW0 (by simp [Value.oneCell']) ?_
          intro w63 kbB63 hc63
          have hH63 : Chg [] W0 w63 := hH62.trans hc63 (by simp; omega)
          have kbA63 := kbA62.chg hc63 (by simp; omega)
          refine hK.out _ _ hH63 (fun _ => ?_)
          try simp only [Act.put, List.setIfInBounds_toArray, List.set_cons_zero, List.set_cons_succ, List.getElem_toArray, List.getElem_cons_succ, List.getElem_cons_zero]
          refine wpAnyH_ready (rs := [13]) (by kernel_rfl) (by simp) (AllReadyH.cons rfl (fun K hK => ?_) AllReadyH.nil)
          go_simp
          refine hK.out _ _ hH63 (fun _ => ?_)
          try simp only [Act.put, List.setIfInBounds_toArray, List.set_cons_zero, List.set_cons_succ, List.getElem_toArray, List.getElem_cons_succ, List.getElem_cons_zero]
          refine wpAnyH_done (by kernel_rfl) ?_ _
          go_wp2_with fail
          go_meet
          exact ⟨gA60, gB53, rfl, rfl, rfl, kbA63, kbB63, by omega, by omega, by omega, hH63⟩
      · rw [if_pos (by rfl)]
        refine op_alloc 116 16 (by kernel_rfl) (by kernel_rfl) zeroW0 ?_
        have kbA65 := Blk.new (w53) (#[.int .u64 0, .int .u64 0, .int .u64 0, .int .u64 0] : Array Value) 116
        have hH65 := hH53.alloc (.cells (#[.int .u64 0, .int .u64 0, .int .u64 0, .int .u64 0] : Array Value) 116)
        have hgeA65 := hH53.size
        have kbB65 := kbB53.alloc (.cells (#[.int .u64 0, .int .u64 0, .int .u64 0, .int .u64 0] : Array Value) 116)
        have hneBA65 := kbB53.lt
        obtain ⟨gA65, hgg65⟩ : ∃ g, g = (w53).heap.size := ⟨_, rfl⟩
        rw [← hgg65] at kbA65 hgeA65 hneBA65 ⊢
        generalize (w53).alloc (.cells (#[.int .u64 0, .int .u64 0, .int .u64 0, .int .u64 0] : Array Value) 116) = w65 at hH65 kbB65 kbA65 ⊢
        clear hgg65
        refine hK.out _ _ hH65 (fun _ => ?_)
        try simp only [Act.put, List.setIfInBounds_toArray, List.set_cons_zero, List.set_cons_succ, List.getElem_toArray, List.getElem_cons_succ, List.getElem_cons_zero]
        refine wpAnyH_ready (rs := [3]) (by kernel_rfl) (by simp) (AllReadyH.cons rfl (fun K hK => ?_) AllReadyH.nil)
        try rw [if_pos (by rfl)]
        go_simp
        go_at_call 60
        refine (c3 _).mono ?_
        rintro e66 w66 ⟨rfl, hc66⟩
        dsimp only
        have hH66 := hH65.trans hc66 (by simp)
        have kbB66 := kbB65.chg hc66 (by simp)
        have kbA66 := kbA65.chg hc66 (by simp)
        refine hK.out _ _ hH66 (fun _ => ?_)
        try simp only [Act.put, List.setIfInBounds_toArray, List.set_cons_zero, List.set_cons_succ, List.getElem_toArray, List.getElem_cons_succ, List.getElem_cons_zero]
        refine wpAnyH_ready (rs := [4]) (by kernel_rfl) (by simp) (AllReadyH.cons rfl (fun K hK => ?_) AllReadyH.nil)
        try rw [if_pos (by rfl)]
        go_simp
        go_at_call 61
        refine (c4 _).mono ?_
        rintro e67 w67 ⟨rfl, hc67⟩
        dsimp only
        have hH67 := hH66.trans hc67 (by simp)
        have kbB67 := kbB66.chg hc67 (by simp)
        have kbA67 := kbA66.chg hc67 (by simp)
        refine hK.out _ _ hH67 (fun _ => ?_)
        try simp only [Act.put, List.setIfInBounds_toArray, List.set_cons_zero, List.set_cons_succ, List.getElem_toArray, List.getElem_cons_succ, List.getElem_cons_zero]
        refine wpAnyH_take (i := 5) (v := .tuple #[.agg #[.int .u64 q0, .int .u64 q1, .int .u64 q2, .int .u64 q3], .agg #[.int .u64 r0, .int .u64 r1, .int .u64 r2, .int .u64 r3], .int .i64 0]) rfl (by kernel_rfl) (by kernel_rfl) (by kernel_rfl) (fun _ _ _ h => h) (.inl ⟨by rfl, fun w' hw' => ?_⟩) hH67 ?_
        · go_simp
        try simp only [Act.put, List.setIfInBounds_toArray, List.set_cons_zero, List.set_cons_succ, List.getElem_toArray, List.getElem_cons_succ, List.getElem_cons_zero]
        refine wpAnyH_take (i := 6) (v := .agg #[.int .u64 q0, .int .u64 q1, .int .u64 q2, .int .u64 q3]) rfl (by kernel_rfl) (by kernel_rfl) (by kernel_rfl) (fun _ _ _ h => h) (.inl ⟨by rfl, fun w' hw' => ?_⟩) hH67 ?_
        · go_simp
        try simp only [Act.put, List.setIfInBounds_toArray, List.set_cons_zero, List.set_cons_succ, List.getElem_toArray, List.getElem_cons_succ, List.getElem_cons_zero]
        refine wpAnyH_take (i := 7) (v := .agg #[.int .u64 r0, .int .u64 r1, .int .u64 r2, .int .u64 r3]) rfl (by kernel_rfl) (by kernel_rfl) (by kernel_rfl) (fun _ _ _ h => h) (.inl ⟨by rfl, fun w' hw' => ?_⟩) hH67 ?_
        · go_simp
        try simp only [Act.put, List.setIfInBounds_toArray, List.set_cons_zero, List.set_cons_succ, List.getElem_toArray, List.getElem_cons_succ, List.getElem_cons_zero]
        refine wpAnyH_take (i := 8) (v := .int .i64 0) rfl (by kernel_rfl) (by kernel_rfl) (by kernel_rfl) (fun _ _ _ h => h) (.inl ⟨by rfl, fun w' hw' => ?_⟩) hH67 ?_
        · go_simp
        try simp only [Act.put, List.setIfInBounds_toArray, List.set_cons_zero, List.set_cons_succ, List.getElem_toArray, List.getElem_cons_succ, List.getElem_cons_zero]
        refine wpAnyH_ready (rs := [11]) (by kernel_rfl) (by simp) (AllReadyH.cons rfl (fun K hK => ?_) AllReadyH.nil)
        rw [if_pos (by rfl)]
        refine op_store 116 (.tmp 16) (.tmp 35) (by kernel_rfl) (by kernel_rfl) rfl (cs := [.int .u64 q0, .int .u64 q1, .int .u64 q2, .int .u64 q3]) rfl kbA67 (by simp) infoW0 (by simp [Value.oneCell']) ?_
        intro w68 kbA68 hc68
        have hH68 : Chg [] W0 w68 := hH67.trans hc68 (by simp; omega)
        have kbB68 := kbB67.chg hc68 (by simp; omega)
        refine hK.out _ _ hH68 (fun _ => ?_)
        try simp only [Act.put, List.setIfInBounds_toArray, List.set_cons_zero, List.set_cons_succ, List.getElem_toArray, List.getElem_cons_succ, List.getElem_cons_zero]
        refine wpAnyH_ready (rs := [12]) (by kernel_rfl) (by simp) (AllReadyH.cons rfl (fun K hK => ?_) AllReadyH.nil)
        rw [if_pos (by rfl)]
        refine op_store 116 (.tmp 17) (.tmp 36) (by kernel_rfl) (by kernel_rfl) rfl (cs := [.int .u64 r0, .int .u64 r1, .int .u64 r2, .int .u64 r3]) rfl kbB68 (by simp) infoW0 (by simp [Value.oneCell']) ?_
        intro w69 kbB69 hc69
        have hH69 : Chg [] W0 w69 := hH68.trans hc69 (by simp; omega)
        have kbA69 := kbA68.chg hc69 (by simp; omega)
        refine hK.out _ _ hH69 (fun _ => ?_)
        try simp only [Act.put, List.setIfInBounds_toArray, List.set_cons_zero, List.set_cons_succ, List.getElem_toArray, List.getElem_cons_succ, List.getElem_cons_zero]
        refine wpAnyH_ready (rs := [13]) (by kernel_rfl) (by simp) (AllReadyH.cons rfl (fun K hK => ?_) AllReadyH.nil)
        go_simp
        refine hK.out _ _ hH69 (fun _ => ?_)
        try simp only [Act.put, List.setIfInBounds_toArray, List.set_cons_zero, List.set_cons_succ, List.getElem_toArray, List.getElem_cons_succ, List.getElem_cons_zero]
        refine wpAnyH_done (by kernel_rfl) ?_ _
        go_wp2_with fail
        go_meet
        exact ⟨gA65, gB53, rfl, rfl, rfl, kbA69, kbB69, by omega, by omega, by omega, hH69⟩
  case rest =>
    obtain ⟨gA, gB, rfl, rfl, rfl, hA, hB, hAB, hgA, hgB, hc5⟩ := hcut
    have kX := kW.trans hc5 (by simp)
    have hgA' : w.heap.size ≤ gA := Nat.le_trans kW.size hgA
    clear c1 c2 c3 c4 kW hc5
    have xq0 := hA.cell 0 (v := .int .u64 q0) rfl; have xq1 := hA.cell 1 (v := .int .u64 q1) rfl; have xq2 := hA.cell 2 (v := .int .u64 q2) rfl; have xq3 := hA.cell 3 (v := .int .u64 q3) rfl
    have xr0 := hB.cell 0 (v := .int .u64 r0) rfl; have xr1 := hB.cell 1 (v := .int .u64 r1) rfl; have xr2 := hB.cell 2 (v := .int .u64 r2) rfl; have xr3 := hB.cell 3 (v := .int .u64 r3) rfl
    cases z
    · rw [if_neg (by decide)] at c7
      go_upto_region 6 with fail
      have hAd := hA.drew
      have xd0 := hAd.cell 0 (v := .int .u64 q0) rfl; have xd1 := hAd.cell 1 (v := .int .u64 q1) rfl; have xd2 := hAd.cell 2 (v := .int .u64 q2) rfl; have xd3 := hAd.cell 3 (v := .int .u64 q3) rfl
      go_region_with (first
        | (go_at_call 62; refine (c5 _).mono ?_; rintro e w5 ⟨rfl, k5⟩; have hb5 := hAd.chg k5 (by simp); have xe0 := hb5.cell 0 (v := .int .u64 q0) rfl; have xe1 := hb5.cell 1 (v := .int .u64 q1) rfl; have xe2 := hb5.cell 2 (v := .int .u64 q2) rfl; have xe3 := hb5.cell 3 (v := .int .u64 q3) rfl)
        | (go_at_call 63; refine (c6 _).mono ?_; rintro e w6 ⟨rfl, k6⟩; have hb6 := hb5.chg k6 (by simp); have xf0 := hb6.cell 0 (v := .int .u64 q0) rfl; have xf1 := hb6.cell 1 (v := .int .u64 q1) rfl; have xf2 := hb6.cell 2 (v := .int .u64 q2) rfl; have xf3 := hb6.cell 3 (v := .int .u64 q3) rfl; have xg0 := hb6.free 0; have xg1 := hb6.free 1; have xg2 := hb6.free 2; have xg3 := hb6.free 3))
      all_goals
        go_wp2_with (first
          | (go_at_call 51; refine (c8 _).mono ?_; rintro e w' ⟨rfl, rfl⟩)
          | (go_at_call 64; refine (c7 _).mono ?_; rintro e w7 ⟨rfl, k7⟩))
        go_ret2
        have kZ := (kX.drew.trans k5 (by simp)).trans k6 (by simp)
        exact ⟨rfl, ((((kZ.setCell (.inr hgA') _).setCell (.inr hgA') _).setCell (.inr hgA') _).setCell (.inr hgA') _).trans k7 (by simp)⟩
    · rw [if_pos rfl] at c7
      go_wp2_with (first
        | (go_at_call 51; refine (c8 _).mono ?_; rintro e w' ⟨rfl, rfl⟩)
        | (go_at_call 64; refine (c7 _).mono ?_; rintro e w7 ⟨rfl, k7⟩))
      go_ret2
      exact ⟨rfl, kX.trans k7 (by simp)⟩

theorem rate_divide (a b c x y : Nat) (ha : a < 18446744073709551616) (hb : b < 18446744073709551616) (hc : c < 18446744073709551616) (hx : x < 18446744073709551616) (hy : y < 18446744073709551616) (hN : a * b * c < TOP) (hM : x * y ≠ 0) (hQ : upQ (a * b * c) (x * y) ≤ 4611686018427387904) (w : World) :
    Calls Tryz.prog 44 #[.int .u64 a, .int .u64 b, .int .u64 c, .int .u64 x, .int .u64 y, .bool true] w fun e w' => e = .returned (.tuple #[.int .u64 (upQ (a * b * c) (x * y)), .int .i64 0]) ∧ Chg [] w w' := by
  have hp1 := prod_lt ha hb
  have hp2 := prod_lt hx hy
  have c1 := wide_Product a b ha hb
  have c2 := wide_Mul (a * b) c (by unfold TOP; omega) hc
  have c3 := wide_Product x y hx hy
  have c4 := wide_Div (a * b * c) (x * y) hN (by unfold TOP; omega) hM
  rw [Nat.mod_eq_of_lt hN] at c2
  have hqle : a * b * c / (x * y) ≤ a * b * c := Nat.div_le_self _ _
  have hrle : a * b * c % (x * y) ≤ a * b * c := Nat.mod_le _ _
  have hqQ : a * b * c / (x * y) ≤ upQ (a * b * c) (x * y) := by unfold upQ; split <;> omega
  have c5 := wide_Of' 1 (by omega)
  have c6 := wide_Add (a * b * c / (x * y)) 1 (by omega) (by unfold TOP; omega)
  rw [Nat.mod_eq_of_lt (show a * b * c / (x * y) + 1 < TOP by unfold TOP; omega)] at c6
  have hQ1 : upQ (a * b * c) (x * y) < TOP := by unfold TOP; omega
  have c7 := wide_Uint (upQ (a * b * c) (x * y)) hQ1
  have hb64 := blen_64.2 (show upQ (a * b * c) (x * y) < 18446744073709551616 by omega)
  rw [if_pos hb64, decide_eq_true hb64] at c7
  have hrq := Amount_Right (upQ (a * b * c) (x * y))
  rw [show decide (((upQ (a * b * c) (x * y) : Nat) : Int) ≤ 4611686018427387904) = true by simp; omega] at hrq
  obtain ⟨n0, n1, n2, n3, -, -, -, -, -, en⟩ := words (a * b * c) hN
  obtain ⟨q0, q1, q2, q3, -, -, -, -, -, eq⟩ := words (a * b * c / (x * y)) (by omega)
  obtain ⟨r0, r1, r2, r3, hr0, hr1, hr2, hr3, hre, er⟩ := words (a * b * c % (x * y)) (by omega)
  obtain ⟨s0, s1, s2, s3, -, -, -, -, -, es⟩ := words (a * b * c / (x * y) + 1) (by unfold TOP; omega)
  have heq : ∀ w, (Op.equalIn 10000 116 (V4 r0 r1 r2 r3) (V4 0 0 0 0)).run Tryz.prog w = .ok (decide (a * b * c % (x * y) = 0)) w := fun w => by
    rw [run_eqW]
    have h1 : (r0 = 0 ∧ r1 = 0 ∧ r2 = 0 ∧ r3 = 0) ↔ a * b * c % (x * y) = 0 := by rw [n4_zero hr0 hr1 hr2 hr3, ← hre]; omega
    simp only [h1]
  have e1 : wv 1 = V4 1 0 0 0 := by rfl
  have c7' : ∀ w, Calls Tryz.prog 64 #[if decide (a * b * c % (x * y) = 0) = true then V4 q0 q1 q2 q3 else V4 s0 s1 s2 s3] w fun e w' => e = .returned (.tuple #[.int .u64 (upQ (a * b * c) (x * y)), .bool true]) ∧ Chg [] w w' := fun w => by
    have := c7 w
    have hw : wv (upQ (a * b * c) (x * y)) = if decide (a * b * c % (x * y) = 0) = true then V4 q0 q1 q2 q3 else V4 s0 s1 s2 s3 := by
      unfold upQ
      by_cases h : a * b * c % (x * y) = 0
      · rw [if_neg (by simpa using h), if_pos (by simpa using h), eq]
      · rw [if_pos h, if_neg (by simpa using h), es]
    rw [← hw]; exact this
  rw [en] at c2 c4
  rw [eq] at c4 c6
  rw [er] at c4
  rw [es] at c6
  rw [e1] at c5 c6
  exact rate_divideW a b c x y n0 n1 n2 n3 q0 q1 q2 q3 r0 r1 r2 r3 s0 s1 s2 s3 _ _ _ _ _ _ c1 c2 c3 c4 c5 c6 c7' hrq heq w
theorem rightB_one {a p t : Nat} (ha : a ≤ 4611686018427387904) (hp : 1 ≤ p) (hp2 : p ≤ 1099511627776) (ht : 1 ≤ t) (ht2 : t ≤ 1000000) : rightB p t [(a : Int)] = true := by
  simp [rightB, prB, thB]; omega
set_option maxRecDepth 100000 in
theorem rate_Needs (a p t : Nat) (ha : a ≤ 4611686018427387904) (hp : 1 ≤ p) (hp2 : p ≤ 1099511627776) (ht : 1 ≤ t) (ht2 : t ≤ 1000000) (hQ : upQ (a * p * t) 100000000000 ≤ 4611686018427387904) (w : World) :
    Calls Tryz.prog 12 #[.int .u64 a, .int .u64 p, .int .u64 t] w fun e w' => e = .returned (.tuple #[.int .u64 (upQ (a * p * t) 100000000000), .int .i64 0]) ∧ Chg [] w w' := by
  have hr := fun T => rate_right p t w.heap.size [(a : Int)] T _ (Blk.new w #[.int .u64 a] T) (by simp)
  rw [rightB_one ha hp hp2 ht ht2] at hr
  have hm := mul_top ha hp2 ht2
  have hd := rate_divide a p t 100000000 1000 (by omega) (by omega) (by omega) (by omega) (by omega) (by unfold TOP; omega) (by decide) hQ
  rw [show 100000000 * 1000 = 100000000000 by rfl] at hd
  generalize upQ (a * p * t) 100000000000 = Q at *
  go_enter Tryz.func12, Tryz.ntmps12
  go_wp2_with (first
    | (go_at_call 43; refine (hr _).mono ?_; rintro e w' ⟨rfl, rfl⟩)
    | (go_at_call 44; refine (hd _).mono ?_; rintro e w2 ⟨rfl, k2⟩))
  go_ret2
  exact ⟨rfl, ((Chg.refl [] w).alloc _).trans k2 (by simp)⟩
end Go.Proofs.YtackdgbcmeafhaaGreat
