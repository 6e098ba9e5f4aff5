/- Package target: Work; tree: work. Printed by workgen.py. -/
import Derived.Test.YtmkgbinmilcojaaGreatMeetsMine
import Derived.Test.YtmkgbinmilcojaaGreatWideK
namespace Go.Proofs.YtmkgbinmilcojaaGreat
open Go.RowKit Go.Maps
attribute [-go_sem] loadCellsFrom

theorem zeroW4 : ∀ w, (zeroValue 51).run Tryz.prog w = .ok (.agg #[.int .u64 0, .int .u64 0, .int .u64 0, .int .u64 0]) w := fun w => by kernel_rfl
set_option maxRecDepth 100000 in
set_option maxHeartbeats 8000000 in
theorem target_WorkW (ts on ss ns qs rs us zs : Array Value) (ov ov2 : Bool) (hts : ts.size = 4) (hss : ss.size = 4) (hqs : qs.size = 4) (hrs : rs.size = 4) (hus : us.size = 4) (hon : on.size = 4) (hzs : zs.size = 4) (oss : ss.all (·.oneCell') = true) (oqs : qs.all (·.oneCell') = true) (ors : rs.all (·.oneCell') = true) (ous : us.all (·.oneCell') = true) (oon : on.all (·.oneCell') = true) (ozs : zs.all (·.oneCell') = true)
    (hone : ∀ w, Calls Tryz.prog 87 #[.int .u64 1] w fun e w' => e = .returned (.agg on) ∧ Chg [] w w')
    (hadd : ∀ w, Calls Tryz.prog 43 #[.agg ts, .agg on] w fun e w' => e = .returned (.tuple #[.agg ss, .bool ov]) ∧ Chg [] w w')
    (hnot0 : ∀ w, Calls Tryz.prog 40 #[V4 0 0 0 0] w fun e w' => e = .returned (.agg zs) ∧ Chg [] w w')
    (hnot : ∀ w, Calls Tryz.prog 40 #[.agg ts] w fun e w' => e = .returned (.agg ns) ∧ Chg [] w w')
    (hdiv0 : ov = false → ∀ w, Calls Tryz.prog 98 #[.agg ns, .agg ss] w fun e w' => e = .returned (.tuple #[.agg qs, .agg rs, .int .i64 0]) ∧ Chg [] w w')
    (hadd2 : ∀ w, Calls Tryz.prog 43 #[.agg qs, .agg on] w fun e w' => e = .returned (.tuple #[.agg us, .bool ov2]) ∧ Chg [] w w') (w : World) :
    Calls Tryz.prog 69 #[.agg ts] w fun e w' => e = .returned (.agg (if ov then on else if ov2 then zs else us)) ∧ Chg [] w w' := by
  unfold V4 at hnot0
  have b1 := (Blk.new w ts 51).alloc (.cells #[.int .u64 0, .int .u64 0, .int .u64 0, .int .u64 0] 51)
  have b2 := Blk.at (w.alloc (.cells ts 51)) #[.int .u64 0, .int .u64 0, .int .u64 0, .int .u64 0] 51 (w.heap.size + 1) (by simp)
  have k0 : Chg [] w ((w.alloc (.cells ts 51)).alloc (.cells #[.int .u64 0, .int .u64 0, .int .u64 0, .int .u64 0] 51)) := ((Chg.refl _ _).alloc _).alloc _
  go_enter Tryz.func69, Tryz.ntmps69
  go_upto_region 1 with fail
  generalize (w.alloc (.cells ts 51)).alloc (.cells #[.int .u64 0, .int .u64 0, .int .u64 0, .int .u64 0] 51) = W0 at *
  go_cut [3, 4] (fun s3 s4 wx => ∃ gA : Nat, s3 = .pointer (some ⟨gA, 0, none⟩) ∧ s4 = .bool ov ∧ Blk wx gA ss 51 ∧ W0.heap.size ≤ gA ∧ Chg [] W0 wx)
  case first =>
    refine wp_region_held_drew (S := fun w' => Chg [] W0 w') (by kernel_rfl) ((Chg.refl _ _).drew) (fun hH => ?_)
    refine TK 0 (.agg ts) rfl hH (fun w' hw' => ?_) ?_
    · (have k := b1.chg hw' (by simp); have hl := load_blkC k 4 hts; go_simp)
    try simp only [Act.put, Sa, Sb, Sc, Sd, Sf]
    refine RD2 1 6 rfl rfl (fun K hK => ?_) (fun K hK => ?_)
    · try rw [if_pos (by rfl)]
      go_simp
      go_at_call 87
      refine (hone _).mono ?_
      rintro e1 w1 ⟨rfl, hc1⟩
      dsimp only
      have hH1 := hH.trans hc1 (by simp)
      refine hK.out _ _ hH1 (fun _ => ?_)
      try simp only [Act.put, Sa, Sb, Sc, Sd, Se, Sf]
      refine RD2 2 6 rfl rfl (fun K hK => ?_) (fun K hK => ?_)
      · try rw [if_pos (by rfl)]
        go_simp
        go_at_call 43
        refine (hadd _).mono ?_
        rintro e2 w2 ⟨rfl, hc2⟩
        dsimp only
        have hH2 := hH1.trans hc2 (by simp)
        refine hK.out _ _ hH2 (fun _ => ?_)
        try simp only [Act.put, Sa, Sb, Sc, Sd, Se, Sf]
        refine TK 3 (.tuple #[.agg ss, .bool ov]) rfl hH2 (fun w' hw' => ?_) ?_
        · go_simp
        try simp only [Act.put, Sa, Sb, Sc, Sd, Se, Sf]
        refine TK 4 (.agg ss) rfl hH2 (fun w' hw' => ?_) ?_
        · go_simp
        try simp only [Act.put, Sa, Sb, Sc, Sd, Se, Sf]
        refine TK 5 (.bool ov) rfl hH2 (fun w' hw' => ?_) ?_
        · go_simp
        try simp only [Act.put, Sa, Sb, Sc, Sd, Se, Sf]
        refine RD 6 rfl (fun K hK => ?_)
        rw [if_pos (by rfl)]
        refine op_alloc 51 3 (by kernel_rfl) (by kernel_rfl) zeroW4 ?_
        have kbA3 := Blk.new (w2) (#[.int .u64 0, .int .u64 0, .int .u64 0, .int .u64 0] : Array Value) 51
        have hH3 := hH2.alloc (.cells (#[.int .u64 0, .int .u64 0, .int .u64 0, .int .u64 0] : Array Value) 51)
        have hgeA3 := hH2.size
        obtain ⟨gA3, hgg3⟩ : ∃ g, g = (w2).heap.size := ⟨_, rfl⟩
        rw [← hgg3] at kbA3 hgeA3 ⊢
        generalize (w2).alloc (.cells (#[.int .u64 0, .int .u64 0, .int .u64 0, .int .u64 0] : Array Value) 51) = w3 at hH3 kbA3 ⊢
        clear hgg3
        refine hK.out _ _ hH3 (fun _ => ?_)
        try simp only [Act.put, Sa, Sb, Sc]
        refine RD 7 rfl (fun K hK => ?_)
        rw [if_pos (by rfl)]
        refine op_store 51 (.tmp 3) (.tmp 13) (by kernel_rfl) (by kernel_rfl) rfl (cs := ss.toList) rfl kbA3 (by simp [hss]) (by rw [Array.length_toList, hss]; exact infoW4) (by exact fun v hv => (Array.all_eq_true_iff_forall_mem.1 oss) v (by simpa using hv)) ?_
        intro w4 kbA4 hc4
        have hH4 : Chg [] W0 w4 := hH3.trans hc4 (by simp; omega)
        refine hK.out _ _ hH4 (fun _ => ?_)
        try simp only [Act.put, Sa, Sb, Sc, Sd, Se, Sf]
        refine RD 8 rfl (fun K hK => ?_)
        go_simp
        refine hK.out _ _ hH4 (fun _ => ?_)
        try simp only [Act.put, Sa, Sb, Sc, Sd, Se, Sf]
        refine wpAnyH_done (by kernel_rfl) ?_ _
        go_wp2_with fail
        go_meet
        exact ⟨gA3, rfl, rfl, by simpa using kbA4, by omega, hH4⟩
      · rw [if_pos (by rfl)]
        refine op_alloc 51 3 (by kernel_rfl) (by kernel_rfl) zeroW4 ?_
        have kbA6 := Blk.new (w1) (#[.int .u64 0, .int .u64 0, .int .u64 0, .int .u64 0] : Array Value) 51
        have hH6 := hH1.alloc (.cells (#[.int .u64 0, .int .u64 0, .int .u64 0, .int .u64 0] : Array Value) 51)
        have hgeA6 := hH1.size
        obtain ⟨gA6, hgg6⟩ : ∃ g, g = (w1).heap.size := ⟨_, rfl⟩
        rw [← hgg6] at kbA6 hgeA6 ⊢
        generalize (w1).alloc (.cells (#[.int .u64 0, .int .u64 0, .int .u64 0, .int .u64 0] : Array Value) 51) = w6 at hH6 kbA6 ⊢
        clear hgg6
        refine hK.out _ _ hH6 (fun _ => ?_)
        try simp only [Act.put, Sa, Sb, Sc]
        refine RD 2 rfl (fun K hK => ?_)
        try rw [if_pos (by rfl)]
        go_simp
        go_at_call 43
        refine (hadd _).mono ?_
        rintro e7 w7 ⟨rfl, hc7⟩
        dsimp only
        have hH7 := hH6.trans hc7 (by simp)
        have kbA7 := kbA6.chg hc7 (by simp)
        refine hK.out _ _ hH7 (fun _ => ?_)
        try simp only [Act.put, Sa, Sb, Sc, Sd, Se, Sf]
        refine TK 3 (.tuple #[.agg ss, .bool ov]) rfl hH7 (fun w' hw' => ?_) ?_
        · go_simp
        try simp only [Act.put, Sa, Sb, Sc, Sd, Se, Sf]
        refine TK 4 (.agg ss) rfl hH7 (fun w' hw' => ?_) ?_
        · go_simp
        try simp only [Act.put, Sa, Sb, Sc, Sd, Se, Sf]
        refine TK 5 (.bool ov) rfl hH7 (fun w' hw' => ?_) ?_
        · go_simp
        try simp only [Act.put, Sa, Sb, Sc, Sd, Se, Sf]
        refine RD 7 rfl (fun K hK => ?_)
        rw [if_pos (by rfl)]
        refine op_store 51 (.tmp 3) (.tmp 13) (by kernel_rfl) (by kernel_rfl) rfl (cs := ss.toList) rfl kbA7 (by simp [hss]) (by rw [Array.length_toList, hss]; exact infoW4) (by exact fun v hv => (Array.all_eq_true_iff_forall_mem.1 oss) v (by simpa using hv)) ?_
        intro w8 kbA8 hc8
        have hH8 : Chg [] W0 w8 := hH7.trans hc8 (by simp; omega)
        refine hK.out _ _ hH8 (fun _ => ?_)
        try simp only [Act.put, Sa, Sb, Sc, Sd, Se, Sf]
        refine RD 8 rfl (fun K hK => ?_)
        go_simp
        refine hK.out _ _ hH8 (fun _ => ?_)
        try simp only [Act.put, Sa, Sb, Sc, Sd, Se, Sf]
        refine wpAnyH_done (by kernel_rfl) ?_ _
        go_wp2_with fail
        go_meet
        exact ⟨gA6, rfl, rfl, by simpa using kbA8, by omega, hH8⟩
    · rw [if_pos (by rfl)]
      refine op_alloc 51 3 (by kernel_rfl) (by kernel_rfl) zeroW4 ?_
      have kbA10 := Blk.new ((W0).drew) (#[.int .u64 0, .int .u64 0, .int .u64 0, .int .u64 0] : Array Value) 51
      have hH10 := hH.alloc (.cells (#[.int .u64 0, .int .u64 0, .int .u64 0, .int .u64 0] : Array Value) 51)
      have hgeA10 := hH.size
      obtain ⟨gA10, hgg10⟩ : ∃ g, g = ((W0).drew).heap.size := ⟨_, rfl⟩
      rw [← hgg10] at kbA10 hgeA10 ⊢
      generalize ((W0).drew).alloc (.cells (#[.int .u64 0, .int .u64 0, .int .u64 0, .int .u64 0] : Array Value) 51) = w10 at hH10 kbA10 ⊢
      clear hgg10
      refine hK.out _ _ hH10 (fun _ => ?_)
      try simp only [Act.put, Sa, Sb, Sc]
      refine RD 1 rfl (fun K hK => ?_)
      try rw [if_pos (by rfl)]
      go_simp
      go_at_call 87
      refine (hone _).mono ?_
      rintro e11 w11 ⟨rfl, hc11⟩
      dsimp only
      have hH11 := hH10.trans hc11 (by simp)
      have kbA11 := kbA10.chg hc11 (by simp)
      refine hK.out _ _ hH11 (fun _ => ?_)
      try simp only [Act.put, Sa, Sb, Sc, Sd, Se, Sf]
      refine RD 2 rfl (fun K hK => ?_)
      try rw [if_pos (by rfl)]
      go_simp
      go_at_call 43
      refine (hadd _).mono ?_
      rintro e12 w12 ⟨rfl, hc12⟩
      dsimp only
      have hH12 := hH11.trans hc12 (by simp)
      have kbA12 := kbA11.chg hc12 (by simp)
      refine hK.out _ _ hH12 (fun _ => ?_)
      try simp only [Act.put, Sa, Sb, Sc, Sd, Se, Sf]
      refine TK 3 (.tuple #[.agg ss, .bool ov]) rfl hH12 (fun w' hw' => ?_) ?_
      · go_simp
      try simp only [Act.put, Sa, Sb, Sc, Sd, Se, Sf]
      refine TK 4 (.agg ss) rfl hH12 (fun w' hw' => ?_) ?_
      · go_simp
      try simp only [Act.put, Sa, Sb, Sc, Sd, Se, Sf]
      refine TK 5 (.bool ov) rfl hH12 (fun w' hw' => ?_) ?_
      · go_simp
      try simp only [Act.put, Sa, Sb, Sc, Sd, Se, Sf]
      refine RD 7 rfl (fun K hK => ?_)
      rw [if_pos (by rfl)]
      refine op_store 51 (.tmp 3) (.tmp 13) (by kernel_rfl) (by kernel_rfl) rfl (cs := ss.toList) rfl kbA12 (by simp [hss]) (by rw [Array.length_toList, hss]; exact infoW4) (by exact fun v hv => (Array.all_eq_true_iff_forall_mem.1 oss) v (by simpa using hv)) ?_
      intro w13 kbA13 hc13
      have hH13 : Chg [] W0 w13 := hH12.trans hc13 (by simp; omega)
      refine hK.out _ _ hH13 (fun _ => ?_)
      try simp only [Act.put, Sa, Sb, Sc, Sd, Se, Sf]
      refine RD 8 rfl (fun K hK => ?_)
      go_simp
      refine hK.out _ _ hH13 (fun _ => ?_)
      try simp only [Act.put, Sa, Sb, Sc, Sd, Se, Sf]
      refine wpAnyH_done (by kernel_rfl) ?_ _
      go_wp2_with fail
      go_meet
      exact ⟨gA10, rfl, rfl, by simpa using kbA13, by omega, hH13⟩
  case rest =>
    obtain ⟨gA, rfl, rfl, bA, hgA, k1⟩ := hcut
    have kA := k0.trans k1 (by simp)
    have b1 := b1.chg k1 (by simp)
    have b2 := b2.chg k1 (by simp)
    cases ov
    · have hdiv := hdiv0 rfl
      clear hdiv0 hadd
      go_upto_region 4 with fail
      generalize wc = wA at *
      go_cut [5, 7] (fun s5 s7 wx => ∃ gC : Nat, s5 = .pointer (some ⟨gC, 0, none⟩) ∧ s7 = .int .i64 0 ∧ Blk wx gC qs 51 ∧ wA.heap.size ≤ gC ∧ Chg [] wA wx)
      case first =>
        refine wp_region_held_drew (S := fun w' => Chg [] wA w') (by kernel_rfl) ((Chg.refl _ _).drew) (fun hH41 => ?_)
        refine TK 0 (.agg ts) rfl hH41 (fun w' hw' => ?_) ?_
        · (have k := b1.chg hw' (by simp); have hl := load_blkC k 4 hts; go_simp)
        try simp only [Act.put, Sa, Sb, Sc, Sd, Sf]
        refine TK 2 (.agg ss) rfl hH41 (fun w' hw' => ?_) ?_
        · (have k := bA.chg hw' (by simp); have hl := load_blkC k 4 hss; go_simp)
        try simp only [Act.put, Sa, Sb, Sc, Sd, Se, Sf]
        refine wpAnyH_ready (rs := [1, 8, 9]) (by kernel_rfl) (by simp) (AllReadyH.cons rfl (fun K hK => ?_) (AllReadyH.cons rfl (fun K hK => ?_) (AllReadyH.cons rfl (fun K hK => ?_) AllReadyH.nil)))
        · try rw [if_pos (by rfl)]
          go_simp
          go_at_call 40
          refine (hnot _).mono ?_
          rintro e42 w42 ⟨rfl, hc42⟩
          dsimp only
          have hH42 := hH41.trans hc42 (by simp)
          refine hK.out _ _ hH42 (fun _ => ?_)
          try simp only [Act.put, Sa, Sb, Sc, Sd, Se, Sf]
          refine wpAnyH_ready (rs := [3, 8, 9]) (by kernel_rfl) (by simp) (AllReadyH.cons rfl (fun K hK => ?_) (AllReadyH.cons rfl (fun K hK => ?_) (AllReadyH.cons rfl (fun K hK => ?_) AllReadyH.nil)))
          · try rw [if_pos (by rfl)]
            go_simp
            go_at_call 98
            refine (hdiv _).mono ?_
            rintro e43 w43 ⟨rfl, hc43⟩
            dsimp only
            have hH43 := hH42.trans hc43 (by simp)
            refine hK.out _ _ hH43 (fun _ => ?_)
            try simp only [Act.put, Sa, Sb, Sc, Sd, Se, Sf]
            refine TK 4 (.tuple #[.agg qs, .agg rs, .int .i64 0]) rfl hH43 (fun w' hw' => ?_) ?_
            · go_simp
            try simp only [Act.put, Sa, Sb, Sc, Sd, Se, Sf]
            refine TK 5 (.agg qs) rfl hH43 (fun w' hw' => ?_) ?_
            · go_simp
            try simp only [Act.put, Sa, Sb, Sc, Sd, Se, Sf]
            refine TK 6 (.agg rs) rfl hH43 (fun w' hw' => ?_) ?_
            · go_simp
            try simp only [Act.put, Sa, Sb, Sc, Sd, Se, Sf]
            refine TK 7 (.int .i64 0) rfl hH43 (fun w' hw' => ?_) ?_
            · go_simp
            try simp only [Act.put, Sa, Sb, Sc, Sd, Se, Sf]
            refine RD2 8 9 rfl rfl (fun K hK => ?_) (fun K hK => ?_)
            · rw [if_pos (by rfl)]
              refine op_alloc 51 5 (by kernel_rfl) (by kernel_rfl) zeroW4 ?_
              have kbC44 := Blk.new (w43) (#[.int .u64 0, .int .u64 0, .int .u64 0, .int .u64 0] : Array Value) 51
              have hH44 := hH43.alloc (.cells (#[.int .u64 0, .int .u64 0, .int .u64 0, .int .u64 0] : Array Value) 51)
              have hgeC44 := hH43.size
              obtain ⟨gC44, hgg44⟩ : ∃ g, g = (w43).heap.size := ⟨_, rfl⟩
              rw [← hgg44] at kbC44 hgeC44 ⊢
              generalize (w43).alloc (.cells (#[.int .u64 0, .int .u64 0, .int .u64 0, .int .u64 0] : Array Value) 51) = w44 at hH44 kbC44 ⊢
              clear hgg44
              refine hK.out _ _ hH44 (fun _ => ?_)
              try simp only [Act.put, Sa, Sb, Sc]
              refine RD 9 rfl (fun K hK => ?_)
              rw [if_pos (by rfl)]
              refine op_alloc 51 6 (by kernel_rfl) (by kernel_rfl) zeroW4 ?_
              have kbD45 := Blk.new (w44) (#[.int .u64 0, .int .u64 0, .int .u64 0, .int .u64 0] : Array Value) 51
              have hH45 := hH44.alloc (.cells (#[.int .u64 0, .int .u64 0, .int .u64 0, .int .u64 0] : Array Value) 51)
              have hgeD45 := hH44.size
              have kbC45 := kbC44.alloc (.cells (#[.int .u64 0, .int .u64 0, .int .u64 0, .int .u64 0] : Array Value) 51)
              have hneCD45 := kbC44.lt
              obtain ⟨gD45, hgg45⟩ : ∃ g, g = (w44).heap.size := ⟨_, rfl⟩
              rw [← hgg45] at kbD45 hgeD45 hneCD45 ⊢
              generalize (w44).alloc (.cells (#[.int .u64 0, .int .u64 0, .int .u64 0, .int .u64 0] : Array Value) 51) = w45 at hH45 kbC45 kbD45 ⊢
              clear hgg45
              refine hK.out _ _ hH45 (fun _ => ?_)
              try simp only [Act.put, Sa, Sb, Sc]
              refine RD 10 rfl (fun K hK => ?_)
              rw [if_pos (by rfl)]
              refine op_store 51 (.tmp 5) (.tmp 22) (by kernel_rfl) (by kernel_rfl) rfl (cs := qs.toList) rfl kbC45 (by simp [hqs]) (by rw [Array.length_toList, hqs]; exact infoW4) (by exact fun v hv => (Array.all_eq_true_iff_forall_mem.1 oqs) v (by simpa using hv)) ?_
              intro w46 kbC46 hc46
              have hH46 : Chg [] wA w46 := hH45.trans hc46 (by simp; omega)
              have kbD46 := kbD45.chg hc46 (by simp; omega)
              refine hK.out _ _ hH46 (fun _ => ?_)
              try simp only [Act.put, Sa, Sb, Sc, Sd, Se, Sf]
              refine RD 11 rfl (fun K hK => ?_)
              rw [if_pos (by rfl)]
              refine op_store 51 (.tmp 6) (.tmp 23) (by kernel_rfl) (by kernel_rfl) rfl (cs := rs.toList) rfl kbD46 (by simp [hrs]) (by rw [Array.length_toList, hrs]; exact infoW4) (by exact fun v hv => (Array.all_eq_true_iff_forall_mem.1 ors) v (by simpa using hv)) ?_
              intro w47 kbD47 hc47
              have hH47 : Chg [] wA w47 := hH46.trans hc47 (by simp; omega)
              have kbC47 := kbC46.chg hc47 (by simp; omega)
              refine hK.out _ _ hH47 (fun _ => ?_)
              try simp only [Act.put, Sa, Sb, Sc, Sd, Se, Sf]
              refine RD 12 rfl (fun K hK => ?_)
              go_simp
              refine hK.out _ _ hH47 (fun _ => ?_)
              try simp only [Act.put, Sa, Sb, Sc, Sd, Se, Sf]
              refine wpAnyH_done (by kernel_rfl) ?_ _
              go_wp2_with fail
              go_meet
              exact ⟨gC44, rfl, rfl, by simpa using kbC47, by omega, hH47⟩
            · rw [if_pos (by rfl)]
              refine op_alloc 51 6 (by kernel_rfl) (by kernel_rfl) zeroW4 ?_
              have kbD49 := Blk.new (w43) (#[.int .u64 0, .int .u64 0, .int .u64 0, .int .u64 0] : Array Value) 51
              have hH49 := hH43.alloc (.cells (#[.int .u64 0, .int .u64 0, .int .u64 0, .int .u64 0] : Array Value) 51)
              have hgeD49 := hH43.size
              obtain ⟨gD49, hgg49⟩ : ∃ g, g = (w43).heap.size := ⟨_, rfl⟩
              rw [← hgg49] at kbD49 hgeD49 ⊢
              generalize (w43).alloc (.cells (#[.int .u64 0, .int .u64 0, .int .u64 0, .int .u64 0] : Array Value) 51) = w49 at hH49 kbD49 ⊢
              clear hgg49
              refine hK.out _ _ hH49 (fun _ => ?_)
              try simp only [Act.put, Sa, Sb, Sc]
              refine RD 8 rfl (fun K hK => ?_)
              rw [if_pos (by rfl)]
              refine op_alloc 51 5 (by kernel_rfl) (by kernel_rfl) zeroW4 ?_
              have kbC50 := Blk.new (w49) (#[.int .u64 0, .int .u64 0, .int .u64 0, .int .u64 0] : Array Value) 51
              have hH50 := hH49.alloc (.cells (#[.int .u64 0, .int .u64 0, .int .u64 0, .int .u64 0] : Array Value) 51)
              have hgeC50 := hH49.size
              have kbD50 := kbD49.alloc (.cells (#[.int .u64 0, .int .u64 0, .int .u64 0, .int .u64 0] : Array Value) 51)
              have hneDC50 := kbD49.lt
              obtain ⟨gC50, hgg50⟩ : ∃ g, g = (w49).heap.size := ⟨_, rfl⟩
              rw [← hgg50] at kbC50 hgeC50 hneDC50 ⊢
              generalize (w49).alloc (.cells (#[.int .u64 0, .int .u64 0, .int .u64 0, .int .u64 0] : Array Value) 51) = w50 at hH50 kbD50 kbC50 ⊢
              clear hgg50
              refine hK.out _ _ hH50 (fun _ => ?_)
              try simp only [Act.put, Sa, Sb, Sc]
              refine RD 10 rfl (fun K hK => ?_)
              rw [if_pos (by rfl)]
              refine op_store 51 (.tmp 5) (.tmp 22) (by kernel_rfl) (by kernel_rfl) rfl (cs := qs.toList) rfl kbC50 (by simp [hqs]) (by rw [Array.length_toList, hqs]; exact infoW4) (by exact fun v hv => (Array.all_eq_true_iff_forall_mem.1 oqs) v (by simpa using hv)) ?_
              intro w51 kbC51 hc51
              have hH51 : Chg [] wA w51 := hH50.trans hc51 (by simp; omega)
              have kbD51 := kbD50.chg hc51 (by simp; omega)
              refine hK.out _ _ hH51 (fun _ => ?_)
              try simp only [Act.put, Sa, Sb, Sc, Sd, Se, Sf]
              refine RD 11 rfl (fun K hK => ?_)
              rw [if_pos (by rfl)]
              refine op_store 51 (.tmp 6) (.tmp 23) (by kernel_rfl) (by kernel_rfl) rfl (cs := rs.toList) rfl kbD51 (by simp [hrs]) (by rw [Array.length_toList, hrs]; exact infoW4) (by exact fun v hv => (Array.all_eq_true_iff_forall_mem.1 ors) v (by simpa using hv)) ?_
              intro w52 kbD52 hc52
              have hH52 : Chg [] wA w52 := hH51.trans hc52 (by simp; omega)
              have kbC52 := kbC51.chg hc52 (by simp; omega)
              refine hK.out _ _ hH52 (fun _ => ?_)
              try simp only [Act.put, Sa, Sb, Sc, Sd, Se, Sf]
              refine RD 12 rfl (fun K hK => ?_)
              go_simp
              refine hK.out _ _ hH52 (fun _ => ?_)
              try simp only [Act.put, Sa, Sb, Sc, Sd, Se, Sf]
              refine wpAnyH_done (by kernel_rfl) ?_ _
              go_wp2_with fail
              go_meet
              exact ⟨gC50, rfl, rfl, by simpa using kbC52, by omega, hH52⟩
          · rw [if_pos (by rfl)]
            refine op_alloc 51 5 (by kernel_rfl) (by kernel_rfl) zeroW4 ?_
            have kbC54 := Blk.new (w42) (#[.int .u64 0, .int .u64 0, .int .u64 0, .int .u64 0] : Array Value) 51
            have hH54 := hH42.alloc (.cells (#[.int .u64 0, .int .u64 0, .int .u64 0, .int .u64 0] : Array Value) 51)
            have hgeC54 := hH42.size
            obtain ⟨gC54, hgg54⟩ : ∃ g, g = (w42).heap.size := ⟨_, rfl⟩
            rw [← hgg54] at kbC54 hgeC54 ⊢
            generalize (w42).alloc (.cells (#[.int .u64 0, .int .u64 0, .int .u64 0, .int .u64 0] : Array Value) 51) = w54 at hH54 kbC54 ⊢
            clear hgg54
            refine hK.out _ _ hH54 (fun _ => ?_)
            try simp only [Act.put, Sa, Sb, Sc]
            refine RD2 3 9 rfl rfl (fun K hK => ?_) (fun K hK => ?_)
            · try rw [if_pos (by rfl)]
              go_simp
              go_at_call 98
              refine (hdiv _).mono ?_
              rintro e55 w55 ⟨rfl, hc55⟩
              dsimp only
              have hH55 := hH54.trans hc55 (by simp)
              have kbC55 := kbC54.chg hc55 (by simp)
              refine hK.out _ _ hH55 (fun _ => ?_)
              try simp only [Act.put, Sa, Sb, Sc, Sd, Se, Sf]
              refine TK 4 (.tuple #[.agg qs, .agg rs, .int .i64 0]) rfl hH55 (fun w' hw' => ?_) ?_
              · go_simp
              try simp only [Act.put, Sa, Sb, Sc, Sd, Se, Sf]
              refine TK 5 (.agg qs) rfl hH55 (fun w' hw' => ?_) ?_
              · go_simp
              try simp only [Act.put, Sa, Sb, Sc, Sd, Se, Sf]
              refine TK 6 (.agg rs) rfl hH55 (fun w' hw' => ?_) ?_
              · go_simp
              try simp only [Act.put, Sa, Sb, Sc, Sd, Se, Sf]
              refine TK 7 (.int .i64 0) rfl hH55 (fun w' hw' => ?_) ?_
              · go_simp
              try simp only [Act.put, Sa, Sb, Sc, Sd, Se, Sf]
              refine RD 9 rfl (fun K hK => ?_)
              rw [if_pos (by rfl)]
              refine op_alloc 51 6 (by kernel_rfl) (by kernel_rfl) zeroW4 ?_
              have kbD56 := Blk.new (w55) (#[.int .u64 0, .int .u64 0, .int .u64 0, .int .u64 0] : Array Value) 51
              have hH56 := hH55.alloc (.cells (#[.int .u64 0, .int .u64 0, .int .u64 0, .int .u64 0] : Array Value) 51)
              have hgeD56 := hH55.size
              have kbC56 := kbC55.alloc (.cells (#[.int .u64 0, .int .u64 0, .int .u64 0, .int .u64 0] : Array Value) 51)
              have hneCD56 := kbC55.lt
              obtain ⟨gD56, hgg56⟩ : ∃ g, g = (w55).heap.size := ⟨_, rfl⟩
              rw [← hgg56] at kbD56 hgeD56 hneCD56 ⊢
              generalize (w55).alloc (.cells (#[.int .u64 0, .int .u64 0, .int .u64 0, .int .u64 0] : Array Value) 51) = w56 at hH56 kbC56 kbD56 ⊢
              clear hgg56
              refine hK.out _ _ hH56 (fun _ => ?_)
              try simp only [Act.put, Sa, Sb, Sc]
              refine RD 10 rfl (fun K hK => ?_)
              rw [if_pos (by rfl)]
              refine op_store 51 (.tmp 5) (.tmp 22) (by kernel_rfl) (by kernel_rfl) rfl (cs := qs.toList) rfl kbC56 (by simp [hqs]) (by rw [Array.length_toList, hqs]; exact infoW4) (by exact fun v hv => (Array.all_eq_true_iff_forall_mem.1 oqs) v (by simpa using hv)) ?_
              intro w57 kbC57 hc57
              have hH57 : Chg [] wA w57 := hH56.trans hc57 (by simp; omega)
              have kbD57 := kbD56.chg hc57 (by simp; omega)
              refine hK.out _ _ hH57 (fun _ => ?_)
              try simp only [Act.put, Sa, Sb, Sc, Sd, Se, Sf]
              refine RD 11 rfl (fun K hK => ?_)
              rw [if_pos (by rfl)]
              refine op_store 51 (.tmp 6) (.tmp 23) (by kernel_rfl) (by kernel_rfl) rfl (cs := rs.toList) rfl kbD57 (by simp [hrs]) (by rw [Array.length_toList, hrs]; exact infoW4) (by exact fun v hv => (Array.all_eq_true_iff_forall_mem.1 ors) v (by simpa using hv)) ?_
              intro w58 kbD58 hc58
              have hH58 : Chg [] wA w58 := hH57.trans hc58 (by simp; omega)
              have kbC58 := kbC57.chg hc58 (by simp; omega)
              refine hK.out _ _ hH58 (fun _ => ?_)
              try simp only [Act.put, Sa, Sb, Sc, Sd, Se, Sf]
              refine RD 12 rfl (fun K hK => ?_)
              go_simp
              refine hK.out _ _ hH58 (fun _ => ?_)
              try simp only [Act.put, Sa, Sb, Sc, Sd, Se, Sf]
              refine wpAnyH_done (by kernel_rfl) ?_ _
              go_wp2_with fail
              go_meet
              exact ⟨gC54, rfl, rfl, by simpa using kbC58, by omega, hH58⟩
            · rw [if_pos (by rfl)]
              refine op_alloc 51 6 (by kernel_rfl) (by kernel_rfl) zeroW4 ?_
              have kbD60 := Blk.new (w54) (#[.int .u64 0, .int .u64 0, .int .u64 0, .int .u64 0] : Array Value) 51
              have hH60 := hH54.alloc (.cells (#[.int .u64 0, .int .u64 0, .int .u64 0, .int .u64 0] : Array Value) 51)
              have hgeD60 := hH54.size
              have kbC60 := kbC54.alloc (.cells (#[.int .u64 0, .int .u64 0, .int .u64 0, .int .u64 0] : Array Value) 51)
              have hneCD60 := kbC54.lt
              obtain ⟨gD60, hgg60⟩ : ∃ g, g = (w54).heap.size := ⟨_, rfl⟩
              rw [← hgg60] at kbD60 hgeD60 hneCD60 ⊢
              generalize (w54).alloc (.cells (#[.int .u64 0, .int .u64 0, .int .u64 0, .int .u64 0] : Array Value) 51) = w60 at hH60 kbC60 kbD60 ⊢
              clear hgg60
              refine hK.out _ _ hH60 (fun _ => ?_)
              try simp only [Act.put, Sa, Sb, Sc]
              refine RD 3 rfl (fun K hK => ?_)
              try rw [if_pos (by rfl)]
              go_simp
              go_at_call 98
              refine (hdiv _).mono ?_
              rintro e61 w61 ⟨rfl, hc61⟩
              dsimp only
              have hH61 := hH60.trans hc61 (by simp)
              have kbC61 := kbC60.chg hc61 (by simp)
              have kbD61 := kbD60.chg hc61 (by simp)
              refine hK.out _ _ hH61 (fun _ => ?_)
              try simp only [Act.put, Sa, Sb, Sc, Sd, Se, Sf]
              refine TK 4 (.tuple #[.agg qs, .agg rs, .int .i64 0]) rfl hH61 (fun w' hw' => ?_) ?_
              · go_simp
              try simp only [Act.put, Sa, Sb, Sc, Sd, Se, Sf]
              refine TK 5 (.agg qs) rfl hH61 (fun w' hw' => ?_) ?_
              · go_simp
              try simp only [Act.put, Sa, Sb, Sc, Sd, Se, Sf]
              refine TK 6 (.agg rs) rfl hH61 (fun w' hw' => ?_) ?_
              · go_simp
              try simp only [Act.put, Sa, Sb, Sc, Sd, Se, Sf]
              refine TK 7 (.int .i64 0) rfl hH61 (fun w' hw' => ?_) ?_
              · go_simp
              try simp only [Act.put, Sa, Sb, Sc, Sd, Se, Sf]
              refine RD 10 rfl (fun K hK => ?_)
              rw [if_pos (by rfl)]
              refine op_store 51 (.tmp 5) (.tmp 22) (by kernel_rfl) (by kernel_rfl) rfl (cs := qs.toList) rfl kbC61 (by simp [hqs]) (by rw [Array.length_toList, hqs]; exact infoW4) (by exact fun v hv => (Array.all_eq_true_iff_forall_mem.1 oqs) v (by simpa using hv)) ?_
              intro w62 kbC62 hc62
              have hH62 : Chg [] wA w62 := hH61.trans hc62 (by simp; omega)
              have kbD62 := kbD61.chg hc62 (by simp; omega)
              refine hK.out _ _ hH62 (fun _ => ?_)
              try simp only [Act.put, Sa, Sb, Sc, Sd, Se, Sf]
              refine RD 11 rfl (fun K hK => ?_)
              rw [if_pos (by rfl)]
              refine op_store 51 (.tmp 6) (.tmp 23) (by kernel_rfl) (by kernel_rfl) rfl (cs := rs.toList) rfl kbD62 (by simp [hrs]) (by rw [Array.length_toList, hrs]; exact infoW4) (by exact fun v hv => (Array.all_eq_true_iff_forall_mem.1 ors) v (by simpa using hv)) ?_
              intro w63 kbD63 hc63
              have hH63 : Chg [] wA w63 := hH62.trans hc63 (by simp; omega)
              have kbC63 := kbC62.chg hc63 (by simp; omega)
              refine hK.out _ _ hH63 (fun _ => ?_)
              try simp only [Act.put, Sa, Sb, Sc, Sd, Se, Sf]
              refine RD 12 rfl (fun K hK => ?_)
              go_simp
              refine hK.out _ _ hH63 (fun _ => ?_)
              try simp only [Act.put, Sa, Sb, Sc, Sd, Se, Sf]
              refine wpAnyH_done (by kernel_rfl) ?_ _
              go_wp2_with fail
              go_meet
              exact ⟨gC54, rfl, rfl, by simpa using kbC63, by omega, hH63⟩
          · rw [if_pos (by rfl)]
            refine op_alloc 51 6 (by kernel_rfl) (by kernel_rfl) zeroW4 ?_
            have kbD65 := Blk.new (w42) (#[.int .u64 0, .int .u64 0, .int .u64 0, .int .u64 0] : Array Value) 51
            have hH65 := hH42.alloc (.cells (#[.int .u64 0, .int .u64 0, .int .u64 0, .int .u64 0] : Array Value) 51)
            have hgeD65 := hH42.size
            obtain ⟨gD65, hgg65⟩ : ∃ g, g = (w42).heap.size := ⟨_, rfl⟩
            rw [← hgg65] at kbD65 hgeD65 ⊢
            generalize (w42).alloc (.cells (#[.int .u64 0, .int .u64 0, .int .u64 0, .int .u64 0] : Array Value) 51) = w65 at hH65 kbD65 ⊢
            clear hgg65
            refine hK.out _ _ hH65 (fun _ => ?_)
            try simp only [Act.put, Sa, Sb, Sc]
            refine RD2 3 8 rfl rfl (fun K hK => ?_) (fun K hK => ?_)
            · try rw [if_pos (by rfl)]
              go_simp
              go_at_call 98
              refine (hdiv _).mono ?_
              rintro e66 w66 ⟨rfl, hc66⟩
              dsimp only
              have hH66 := hH65.trans hc66 (by simp)
              have kbD66 := kbD65.chg hc66 (by simp)
              refine hK.out _ _ hH66 (fun _ => ?_)
              try simp only [Act.put, Sa, Sb, Sc, Sd, Se, Sf]
              refine TK 4 (.tuple #[.agg qs, .agg rs, .int .i64 0]) rfl hH66 (fun w' hw' => ?_) ?_
              · go_simp
              try simp only [Act.put, Sa, Sb, Sc, Sd, Se, Sf]
              refine TK 5 (.agg qs) rfl hH66 (fun w' hw' => ?_) ?_
              · go_simp
              try simp only [Act.put, Sa, Sb, Sc, Sd, Se, Sf]
              refine TK 6 (.agg rs) rfl hH66 (fun w' hw' => ?_) ?_
              · go_simp
              try simp only [Act.put, Sa, Sb, Sc, Sd, Se, Sf]
              refine TK 7 (.int .i64 0) rfl hH66 (fun w' hw' => ?_) ?_
              · go_simp
              try simp only [Act.put, Sa, Sb, Sc, Sd, Se, Sf]
              refine RD 8 rfl (fun K hK => ?_)
              rw [if_pos (by rfl)]
              refine op_alloc 51 5 (by kernel_rfl) (by kernel_rfl) zeroW4 ?_
              have kbC67 := Blk.new (w66) (#[.int .u64 0, .int .u64 0, .int .u64 0, .int .u64 0] : Array Value) 51
              have hH67 := hH66.alloc (.cells (#[.int .u64 0, .int .u64 0, .int .u64 0, .int .u64 0] : Array Value) 51)
              have hgeC67 := hH66.size
              have kbD67 := kbD66.alloc (.cells (#[.int .u64 0, .int .u64 0, .int .u64 0, .int .u64 0] : Array Value) 51)
              have hneDC67 := kbD66.lt
              obtain ⟨gC67, hgg67⟩ : ∃ g, g = (w66).heap.size := ⟨_, rfl⟩
              rw [← hgg67] at kbC67 hgeC67 hneDC67 ⊢
              generalize (w66).alloc (.cells (#[.int .u64 0, .int .u64 0, .int .u64 0, .int .u64 0] : Array Value) 51) = w67 at hH67 kbD67 kbC67 ⊢
              clear hgg67
              refine hK.out _ _ hH67 (fun _ => ?_)
              try simp only [Act.put, Sa, Sb, Sc]
              refine RD 10 rfl (fun K hK => ?_)
              rw [if_pos (by rfl)]
              refine op_store 51 (.tmp 5) (.tmp 22) (by kernel_rfl) (by kernel_rfl) rfl (cs := qs.toList) rfl kbC67 (by simp [hqs]) (by rw [Array.length_toList, hqs]; exact infoW4) (by exact fun v hv => (Array.all_eq_true_iff_forall_mem.1 oqs) v (by simpa using hv)) ?_
              intro w68 kbC68 hc68
              have hH68 : Chg [] wA w68 := hH67.trans hc68 (by simp; omega)
              have kbD68 := kbD67.chg hc68 (by simp; omega)
              refine hK.out _ _ hH68 (fun _ => ?_)
              try simp only [Act.put, Sa, Sb, Sc, Sd, Se, Sf]
              refine RD 11 rfl (fun K hK => ?_)
              rw [if_pos (by rfl)]
              refine op_store 51 (.tmp 6) (.tmp 23) (by kernel_rfl) (by kernel_rfl) rfl (cs := rs.toList) rfl kbD68 (by simp [hrs]) (by rw [Array.length_toList, hrs]; exact infoW4) (by exact fun v hv => (Array.all_eq_true_iff_forall_mem.1 ors) v (by simpa using hv)) ?_
              intro w69 kbD69 hc69
              have hH69 : Chg [] wA w69 := hH68.trans hc69 (by simp; omega)
              have kbC69 := kbC68.chg hc69 (by simp; omega)
              refine hK.out _ _ hH69 (fun _ => ?_)
              try simp only [Act.put, Sa, Sb, Sc, Sd, Se, Sf]
              refine RD 12 rfl (fun K hK => ?_)
              go_simp
              refine hK.out _ _ hH69 (fun _ => ?_)
              try simp only [Act.put, Sa, Sb, Sc, Sd, Se, Sf]
              refine wpAnyH_done (by kernel_rfl) ?_ _
              go_wp2_with fail
              go_meet
              exact ⟨gC67, rfl, rfl, by simpa using kbC69, by omega, hH69⟩
            · rw [if_pos (by rfl)]
              refine op_alloc 51 5 (by kernel_rfl) (by kernel_rfl) zeroW4 ?_
              have kbC71 := Blk.new (w65) (#[.int .u64 0, .int .u64 0, .int .u64 0, .int .u64 0] : Array Value) 51
              have hH71 := hH65.alloc (.cells (#[.int .u64 0, .int .u64 0, .int .u64 0, .int .u64 0] : Array Value) 51)
              have hgeC71 := hH65.size
              have kbD71 := kbD65.alloc (.cells (#[.int .u64 0, .int .u64 0, .int .u64 0, .int .u64 0] : Array Value) 51)
              have hneDC71 := kbD65.lt
              obtain ⟨gC71, hgg71⟩ : ∃ g, g = (w65).heap.size := ⟨_, rfl⟩
              rw [← hgg71] at kbC71 hgeC71 hneDC71 ⊢
              generalize (w65).alloc (.cells (#[.int .u64 0, .int .u64 0, .int .u64 0, .int .u64 0] : Array Value) 51) = w71 at hH71 kbD71 kbC71 ⊢
              clear hgg71
              refine hK.out _ _ hH71 (fun _ => ?_)
              try simp only [Act.put, Sa, Sb, Sc]
              refine RD 3 rfl (fun K hK => ?_)
              try rw [if_pos (by rfl)]
              go_simp
              go_at_call 98
              refine (hdiv _).mono ?_
              rintro e72 w72 ⟨rfl, hc72⟩
              dsimp only
              have hH72 := hH71.trans hc72 (by simp)
              have kbD72 := kbD71.chg hc72 (by simp)
              have kbC72 := kbC71.chg hc72 (by simp)
              refine hK.out _ _ hH72 (fun _ => ?_)
              try simp only [Act.put, Sa, Sb, Sc, Sd, Se, Sf]
              refine TK 4 (.tuple #[.agg qs, .agg rs, .int .i64 0]) rfl hH72 (fun w' hw' => ?_) ?_
              · go_simp
              try simp only [Act.put, Sa, Sb, Sc, Sd, Se, Sf]
              refine TK 5 (.agg qs) rfl hH72 (fun w' hw' => ?_) ?_
              · go_simp
              try simp only [Act.put, Sa, Sb, Sc, Sd, Se, Sf]
              refine TK 6 (.agg rs) rfl hH72 (fun w' hw' => ?_) ?_
              · go_simp
              try simp only [Act.put, Sa, Sb, Sc, Sd, Se, Sf]
              refine TK 7 (.int .i64 0) rfl hH72 (fun w' hw' => ?_) ?_
              · go_simp
              try simp only [Act.put, Sa, Sb, Sc, Sd, Se, Sf]
              refine RD 10 rfl (fun K hK => ?_)
              rw [if_pos (by rfl)]
              refine op_store 51 (.tmp 5) (.tmp 22) (by kernel_rfl) (by kernel_rfl) rfl (cs := qs.toList) rfl kbC72 (by simp [hqs]) (by rw [Array.length_toList, hqs]; exact infoW4) (by exact fun v hv => (Array.all_eq_true_iff_forall_mem.1 oqs) v (by simpa using hv)) ?_
              intro w73 kbC73 hc73
              have hH73 : Chg [] wA w73 := hH72.trans hc73 (by simp; omega)
              have kbD73 := kbD72.chg hc73 (by simp; omega)
              refine hK.out _ _ hH73 (fun _ => ?_)
              try simp only [Act.put, Sa, Sb, Sc, Sd, Se, Sf]
              refine RD 11 rfl (fun K hK => ?_)
              rw [if_pos (by rfl)]
              refine op_store 51 (.tmp 6) (.tmp 23) (by kernel_rfl) (by kernel_rfl) rfl (cs := rs.toList) rfl kbD73 (by simp [hrs]) (by rw [Array.length_toList, hrs]; exact infoW4) (by exact fun v hv => (Array.all_eq_true_iff_forall_mem.1 ors) v (by simpa using hv)) ?_
              intro w74 kbD74 hc74
              have hH74 : Chg [] wA w74 := hH73.trans hc74 (by simp; omega)
              have kbC74 := kbC73.chg hc74 (by simp; omega)
              refine hK.out _ _ hH74 (fun _ => ?_)
              try simp only [Act.put, Sa, Sb, Sc, Sd, Se, Sf]
              refine RD 12 rfl (fun K hK => ?_)
              go_simp
              refine hK.out _ _ hH74 (fun _ => ?_)
              try simp only [Act.put, Sa, Sb, Sc, Sd, Se, Sf]
              refine wpAnyH_done (by kernel_rfl) ?_ _
              go_wp2_with fail
              go_meet
              exact ⟨gC71, rfl, rfl, by simpa using kbC74, by omega, hH74⟩
        · rw [if_pos (by rfl)]
          refine op_alloc 51 5 (by kernel_rfl) (by kernel_rfl) zeroW4 ?_
          have kbC76 := Blk.new ((wA).drew) (#[.int .u64 0, .int .u64 0, .int .u64 0, .int .u64 0] : Array Value) 51
          have hH76 := hH41.alloc (.cells (#[.int .u64 0, .int .u64 0, .int .u64 0, .int .u64 0] : Array Value) 51)
          have hgeC76 := hH41.size
          obtain ⟨gC76, hgg76⟩ : ∃ g, g = ((wA).drew).heap.size := ⟨_, rfl⟩
          rw [← hgg76] at kbC76 hgeC76 ⊢
          generalize ((wA).drew).alloc (.cells (#[.int .u64 0, .int .u64 0, .int .u64 0, .int .u64 0] : Array Value) 51) = w76 at hH76 kbC76 ⊢
          clear hgg76
          refine hK.out _ _ hH76 (fun _ => ?_)
          try simp only [Act.put, Sa, Sb, Sc]
          refine RD2 1 9 rfl rfl (fun K hK => ?_) (fun K hK => ?_)
          · try rw [if_pos (by rfl)]
            go_simp
            go_at_call 40
            refine (hnot _).mono ?_
            rintro e77 w77 ⟨rfl, hc77⟩
            dsimp only
            have hH77 := hH76.trans hc77 (by simp)
            have kbC77 := kbC76.chg hc77 (by simp)
            refine hK.out _ _ hH77 (fun _ => ?_)
            try simp only [Act.put, Sa, Sb, Sc, Sd, Se, Sf]
            refine RD2 3 9 rfl rfl (fun K hK => ?_) (fun K hK => ?_)
            · try rw [if_pos (by rfl)]
              go_simp
              go_at_call 98
              refine (hdiv _).mono ?_
              rintro e78 w78 ⟨rfl, hc78⟩
              dsimp only
              have hH78 := hH77.trans hc78 (by simp)
              have kbC78 := kbC77.chg hc78 (by simp)
              refine hK.out _ _ hH78 (fun _ => ?_)
              try simp only [Act.put, Sa, Sb, Sc, Sd, Se, Sf]
              refine TK 4 (.tuple #[.agg qs, .agg rs, .int .i64 0]) rfl hH78 (fun w' hw' => ?_) ?_
              · go_simp
              try simp only [Act.put, Sa, Sb, Sc, Sd, Se, Sf]
              refine TK 5 (.agg qs) rfl hH78 (fun w' hw' => ?_) ?_
              · go_simp
              try simp only [Act.put, Sa, Sb, Sc, Sd, Se, Sf]
              refine TK 6 (.agg rs) rfl hH78 (fun w' hw' => ?_) ?_
              · go_simp
              try simp only [Act.put, Sa, Sb, Sc, Sd, Se, Sf]
              refine TK 7 (.int .i64 0) rfl hH78 (fun w' hw' => ?_) ?_
              · go_simp
              try simp only [Act.put, Sa, Sb, Sc, Sd, Se, Sf]
              refine RD 9 rfl (fun K hK => ?_)
              rw [if_pos (by rfl)]
              refine op_alloc 51 6 (by kernel_rfl) (by kernel_rfl) zeroW4 ?_
              have kbD79 := Blk.new (w78) (#[.int .u64 0, .int .u64 0, .int .u64 0, .int .u64 0] : Array Value) 51
              have hH79 := hH78.alloc (.cells (#[.int .u64 0, .int .u64 0, .int .u64 0, .int .u64 0] : Array Value) 51)
              have hgeD79 := hH78.size
              have kbC79 := kbC78.alloc (.cells (#[.int .u64 0, .int .u64 0, .int .u64 0, .int .u64 0] : Array Value) 51)
              have hneCD79 := kbC78.lt
              obtain ⟨gD79, hgg79⟩ : ∃ g, g = (w78).heap.size := ⟨_, rfl⟩
              rw [← hgg79] at kbD79 hgeD79 hneCD79 ⊢
              generalize (w78).alloc (.cells (#[.int .u64 0, .int .u64 0, .int .u64 0, .int .u64 0] : Array Value) 51) = w79 at hH79 kbC79 kbD79 ⊢
              clear hgg79
              refine hK.out _ _ hH79 (fun _ => ?_)
              try simp only [Act.put, Sa, Sb, Sc]
              refine RD 10 rfl (fun K hK => ?_)
              rw [if_pos (by rfl)]
              refine op_store 51 (.tmp 5) (.tmp 22) (by kernel_rfl) (by kernel_rfl) rfl (cs := qs.toList) rfl kbC79 (by simp [hqs]) (by rw [Array.length_toList, hqs]; exact infoW4) (by exact fun v hv => (Array.all_eq_true_iff_forall_mem.1 oqs) v (by simpa using hv)) ?_
              intro w80 kbC80 hc80
              have hH80 : Chg [] wA w80 := hH79.trans hc80 (by simp; omega)
              have kbD80 := kbD79.chg hc80 (by simp; omega)
              refine hK.out _ _ hH80 (fun _ => ?_)
              try simp only [Act.put, Sa, Sb, Sc, Sd, Se, Sf]
              refine RD 11 rfl (fun K hK => ?_)
              rw [if_pos (by rfl)]
              refine op_store 51 (.tmp 6) (.tmp 23) (by kernel_rfl) (by kernel_rfl) rfl (cs := rs.toList) rfl kbD80 (by simp [hrs]) (by rw [Array.length_toList, hrs]; exact infoW4) (by exact fun v hv => (Array.all_eq_true_iff_forall_mem.1 ors) v (by simpa using hv)) ?_
              intro w81 kbD81 hc81
              have hH81 : Chg [] wA w81 := hH80.trans hc81 (by simp; omega)
              have kbC81 := kbC80.chg hc81 (by simp; omega)
              refine hK.out _ _ hH81 (fun _ => ?_)
              try simp only [Act.put, Sa, Sb, Sc, Sd, Se, Sf]
              refine RD 12 rfl (fun K hK => ?_)
              go_simp
              refine hK.out _ _ hH81 (fun _ => ?_)
              try simp only [Act.put, Sa, Sb, Sc, Sd, Se, Sf]
              refine wpAnyH_done (by kernel_rfl) ?_ _
              go_wp2_with fail
              go_meet
              exact ⟨gC76, rfl, rfl, by simpa using kbC81, by omega, hH81⟩
            · rw [if_pos (by rfl)]
              refine op_alloc 51 6 (by kernel_rfl) (by kernel_rfl) zeroW4 ?_
              have kbD83 := Blk.new (w77) (#[.int .u64 0, .int .u64 0, .int .u64 0, .int .u64 0] : Array Value) 51
              have hH83 := hH77.alloc (.cells (#[.int .u64 0, .int .u64 0, .int .u64 0, .int .u64 0] : Array Value) 51)
              have hgeD83 := hH77.size
              have kbC83 := kbC77.alloc (.cells (#[.int .u64 0, .int .u64 0, .int .u64 0, .int .u64 0] : Array Value) 51)
              have hneCD83 := kbC77.lt
              obtain ⟨gD83, hgg83⟩ : ∃ g, g = (w77).heap.size := ⟨_, rfl⟩
              rw [← hgg83] at kbD83 hgeD83 hneCD83 ⊢
              generalize (w77).alloc (.cells (#[.int .u64 0, .int .u64 0, .int .u64 0, .int .u64 0] : Array Value) 51) = w83 at hH83 kbC83 kbD83 ⊢
              clear hgg83
              refine hK.out _ _ hH83 (fun _ => ?_)
              try simp only [Act.put, Sa, Sb, Sc]
              refine RD 3 rfl (fun K hK => ?_)
              try rw [if_pos (by rfl)]
              go_simp
              go_at_call 98
              refine (hdiv _).mono ?_
              rintro e84 w84 ⟨rfl, hc84⟩
              dsimp only
              have hH84 := hH83.trans hc84 (by simp)
              have kbC84 := kbC83.chg hc84 (by simp)
              have kbD84 := kbD83.chg hc84 (by simp)
              refine hK.out _ _ hH84 (fun _ => ?_)
              try simp only [Act.put, Sa, Sb, Sc, Sd, Se, Sf]
              refine TK 4 (.tuple #[.agg qs, .agg rs, .int .i64 0]) rfl hH84 (fun w' hw' => ?_) ?_
              · go_simp
              try simp only [Act.put, Sa, Sb, Sc, Sd, Se, Sf]
              refine TK 5 (.agg qs) rfl hH84 (fun w' hw' => ?_) ?_
              · go_simp
              try simp only [Act.put, Sa, Sb, Sc, Sd, Se, Sf]
              refine TK 6 (.agg rs) rfl hH84 (fun w' hw' => ?_) ?_
              · go_simp
              try simp only [Act.put, Sa, Sb, Sc, Sd, Se, Sf]
              refine TK 7 (.int .i64 0) rfl hH84 (fun w' hw' => ?_) ?_
              · go_simp
              try simp only [Act.put, Sa, Sb, Sc, Sd, Se, Sf]
              refine RD 10 rfl (fun K hK => ?_)
              rw [if_pos (by rfl)]
              refine op_store 51 (.tmp 5) (.tmp 22) (by kernel_rfl) (by kernel_rfl) rfl (cs := qs.toList) rfl kbC84 (by simp [hqs]) (by rw [Array.length_toList, hqs]; exact infoW4) (by exact fun v hv => (Array.all_eq_true_iff_forall_mem.1 oqs) v (by simpa using hv)) ?_
              intro w85 kbC85 hc85
              have hH85 : Chg [] wA w85 := hH84.trans hc85 (by simp; omega)
              have kbD85 := kbD84.chg hc85 (by simp; omega)
              refine hK.out _ _ hH85 (fun _ => ?_)
              try simp only [Act.put, Sa, Sb, Sc, Sd, Se, Sf]
              refine RD 11 rfl (fun K hK => ?_)
              rw [if_pos (by rfl)]
              refine op_store 51 (.tmp 6) (.tmp 23) (by kernel_rfl) (by kernel_rfl) rfl (cs := rs.toList) rfl kbD85 (by simp [hrs]) (by rw [Array.length_toList, hrs]; exact infoW4) (by exact fun v hv => (Array.all_eq_true_iff_forall_mem.1 ors) v (by simpa using hv)) ?_
              intro w86 kbD86 hc86
              have hH86 : Chg [] wA w86 := hH85.trans hc86 (by simp; omega)
              have kbC86 := kbC85.chg hc86 (by simp; omega)
              refine hK.out _ _ hH86 (fun _ => ?_)
              try simp only [Act.put, Sa, Sb, Sc, Sd, Se, Sf]
              refine RD 12 rfl (fun K hK => ?_)
              go_simp
              refine hK.out _ _ hH86 (fun _ => ?_)
              try simp only [Act.put, Sa, Sb, Sc, Sd, Se, Sf]
              refine wpAnyH_done (by kernel_rfl) ?_ _
              go_wp2_with fail
              go_meet
              exact ⟨gC76, rfl, rfl, by simpa using kbC86, by omega, hH86⟩
          · rw [if_pos (by rfl)]
            refine op_alloc 51 6 (by kernel_rfl) (by kernel_rfl) zeroW4 ?_
            have kbD88 := Blk.new (w76) (#[.int .u64 0, .int .u64 0, .int .u64 0, .int .u64 0] : Array Value) 51
            have hH88 := hH76.alloc (.cells (#[.int .u64 0, .int .u64 0, .int .u64 0, .int .u64 0] : Array Value) 51)
            have hgeD88 := hH76.size
            have kbC88 := kbC76.alloc (.cells (#[.int .u64 0, .int .u64 0, .int .u64 0, .int .u64 0] : Array Value) 51)
            have hneCD88 := kbC76.lt
            obtain ⟨gD88, hgg88⟩ : ∃ g, g = (w76).heap.size := ⟨_, rfl⟩
            rw [← hgg88] at kbD88 hgeD88 hneCD88 ⊢
            generalize (w76).alloc (.cells (#[.int .u64 0, .int .u64 0, .int .u64 0, .int .u64 0] : Array Value) 51) = w88 at hH88 kbC88 kbD88 ⊢
            clear hgg88
            refine hK.out _ _ hH88 (fun _ => ?_)
            try simp only [Act.put, Sa, Sb, Sc]
            refine RD 1 rfl (fun K hK => ?_)
            try rw [if_pos (by rfl)]
            go_simp
            go_at_call 40
            refine (hnot _).mono ?_
            rintro e89 w89 ⟨rfl, hc89⟩
            dsimp only
            have hH89 := hH88.trans hc89 (by simp)
            have kbC89 := kbC88.chg hc89 (by simp)
            have kbD89 := kbD88.chg hc89 (by simp)
            refine hK.out _ _ hH89 (fun _ => ?_)
            try simp only [Act.put, Sa, Sb, Sc, Sd, Se, Sf]
            refine RD 3 rfl (fun K hK => ?_)
            try rw [if_pos (by rfl)]
            go_simp
            go_at_call 98
            refine (hdiv _).mono ?_
            rintro e90 w90 ⟨rfl, hc90⟩
            dsimp only
            have hH90 := hH89.trans hc90 (by simp)
            have kbC90 := kbC89.chg hc90 (by simp)
            have kbD90 := kbD89.chg hc90 (by simp)
            refine hK.out _ _ hH90 (fun _ => ?_)
            try simp only [Act.put, Sa, Sb, Sc, Sd, Se, Sf]
            refine TK 4 (.tuple #[.agg qs, .agg rs, .int .i64 0]) rfl hH90 (fun w' hw' => ?_) ?_
            · go_simp
            try simp only [Act.put, Sa, Sb, Sc, Sd, Se, Sf]
            refine TK 5 (.agg qs) rfl hH90 (fun w' hw' => ?_) ?_
            · go_simp
            try simp only [Act.put, Sa, Sb, Sc, Sd, Se, Sf]
            refine TK 6 (.agg rs) rfl hH90 (fun w' hw' => ?_) ?_
            · go_simp
            try simp only [Act.put, Sa, Sb, Sc, Sd, Se, Sf]
            refine TK 7 (.int .i64 0) rfl hH90 (fun w' hw' => ?_) ?_
            · go_simp
            try simp only [Act.put, Sa, Sb, Sc, Sd, Se, Sf]
            refine RD 10 rfl (fun K hK => ?_)
            rw [if_pos (by rfl)]
            refine op_store 51 (.tmp 5) (.tmp 22) (by kernel_rfl) (by kernel_rfl) rfl (cs := qs.toList) rfl kbC90 (by simp [hqs]) (by rw [Array.length_toList, hqs]; exact infoW4) (by exact fun v hv => (Array.all_eq_true_iff_forall_mem.1 oqs) v (by simpa using hv)) ?_
            intro w91 kbC91 hc91
            have hH91 : Chg [] wA w91 := hH90.trans hc91 (by simp; omega)
            have kbD91 := kbD90.chg hc91 (by simp; omega)
            refine hK.out _ _ hH91 (fun _ => ?_)
            try simp only [Act.put, Sa, Sb, Sc, Sd, Se, Sf]
            refine RD 11 rfl (fun K hK => ?_)
            rw [if_pos (by rfl)]
            refine op_store 51 (.tmp 6) (.tmp 23) (by kernel_rfl) (by kernel_rfl) rfl (cs := rs.toList) rfl kbD91 (by simp [hrs]) (by rw [Array.length_toList, hrs]; exact infoW4) (by exact fun v hv => (Array.all_eq_true_iff_forall_mem.1 ors) v (by simpa using hv)) ?_
            intro w92 kbD92 hc92
            have hH92 : Chg [] wA w92 := hH91.trans hc92 (by simp; omega)
            have kbC92 := kbC91.chg hc92 (by simp; omega)
            refine hK.out _ _ hH92 (fun _ => ?_)
            try simp only [Act.put, Sa, Sb, Sc, Sd, Se, Sf]
            refine RD 12 rfl (fun K hK => ?_)
            go_simp
            refine hK.out _ _ hH92 (fun _ => ?_)
            try simp only [Act.put, Sa, Sb, Sc, Sd, Se, Sf]
            refine wpAnyH_done (by kernel_rfl) ?_ _
            go_wp2_with fail
            go_meet
            exact ⟨gC76, rfl, rfl, by simpa using kbC92, by omega, hH92⟩
        · rw [if_pos (by rfl)]
          refine op_alloc 51 6 (by kernel_rfl) (by kernel_rfl) zeroW4 ?_
          have kbD94 := Blk.new ((wA).drew) (#[.int .u64 0, .int .u64 0, .int .u64 0, .int .u64 0] : Array Value) 51
          have hH94 := hH41.alloc (.cells (#[.int .u64 0, .int .u64 0, .int .u64 0, .int .u64 0] : Array Value) 51)
          have hgeD94 := hH41.size
          obtain ⟨gD94, hgg94⟩ : ∃ g, g = ((wA).drew).heap.size := ⟨_, rfl⟩
          rw [← hgg94] at kbD94 hgeD94 ⊢
          generalize ((wA).drew).alloc (.cells (#[.int .u64 0, .int .u64 0, .int .u64 0, .int .u64 0] : Array Value) 51) = w94 at hH94 kbD94 ⊢
          clear hgg94
          refine hK.out _ _ hH94 (fun _ => ?_)
          try simp only [Act.put, Sa, Sb, Sc]
          refine RD2 1 8 rfl rfl (fun K hK => ?_) (fun K hK => ?_)
          · try rw [if_pos (by rfl)]
            go_simp
            go_at_call 40
            refine (hnot _).mono ?_
            rintro e95 w95 ⟨rfl, hc95⟩
            dsimp only
            have hH95 := hH94.trans hc95 (by simp)
            have kbD95 := kbD94.chg hc95 (by simp)
            refine hK.out _ _ hH95 (fun _ => ?_)
            try simp only [Act.put, Sa, Sb, Sc, Sd, Se, Sf]
            refine RD2 3 8 rfl rfl (fun K hK => ?_) (fun K hK => ?_)
            · try rw [if_pos (by rfl)]
              go_simp
              go_at_call 98
              refine (hdiv _).mono ?_
              rintro e96 w96 ⟨rfl, hc96⟩
              dsimp only
              have hH96 := hH95.trans hc96 (by simp)
              have kbD96 := kbD95.chg hc96 (by simp)
              refine hK.out _ _ hH96 (fun _ => ?_)
              try simp only [Act.put, Sa, Sb, Sc, Sd, Se, Sf]
              refine TK 4 (.tuple #[.agg qs, .agg rs, .int .i64 0]) rfl hH96 (fun w' hw' => ?_) ?_
              · go_simp
              try simp only [Act.put, Sa, Sb, Sc, Sd, Se, Sf]
              refine TK 5 (.agg qs) rfl hH96 (fun w' hw' => ?_) ?_
              · go_simp
              try simp only [Act.put, Sa, Sb, Sc, Sd, Se, Sf]
              refine TK 6 (.agg rs) rfl hH96 (fun w' hw' => ?_) ?_
              · go_simp
              try simp only [Act.put, Sa, Sb, Sc, Sd, Se, Sf]
              refine TK 7 (.int .i64 0) rfl hH96 (fun w' hw' => ?_) ?_
              · go_simp
              try simp only [Act.put, Sa, Sb, Sc, Sd, Se, Sf]
              refine RD 8 rfl (fun K hK => ?_)
              rw [if_pos (by rfl)]
              refine op_alloc 51 5 (by kernel_rfl) (by kernel_rfl) zeroW4 ?_
              have kbC97 := Blk.new (w96) (#[.int .u64 0, .int .u64 0, .int .u64 0, .int .u64 0] : Array Value) 51
              have hH97 := hH96.alloc (.cells (#[.int .u64 0, .int .u64 0, .int .u64 0, .int .u64 0] : Array Value) 51)
              have hgeC97 := hH96.size
              have kbD97 := kbD96.alloc (.cells (#[.int .u64 0, .int .u64 0, .int .u64 0, .int .u64 0] : Array Value) 51)
              have hneDC97 := kbD96.lt
              obtain ⟨gC97, hgg97⟩ : ∃ g, g = (w96).heap.size := ⟨_, rfl⟩
              rw [← hgg97] at kbC97 hgeC97 hneDC97 ⊢
              generalize (w96).alloc (.cells (#[.int .u64 0, .int .u64 0, .int .u64 0, .int .u64 0] : Array Value) 51) = w97 at hH97 kbD97 kbC97 ⊢
              clear hgg97
              refine hK.out _ _ hH97 (fun _ => ?_)
              try simp only [Act.put, Sa, Sb, Sc]
              refine RD 10 rfl (fun K hK => ?_)
              rw [if_pos (by rfl)]
              refine op_store 51 (.tmp 5) (.tmp 22) (by kernel_rfl) (by kernel_rfl) rfl (cs := qs.toList) rfl kbC97 (by simp [hqs]) (by rw [Array.length_toList, hqs]; exact infoW4) (by exact fun v hv => (Array.all_eq_true_iff_forall_mem.1 oqs) v (by simpa using hv)) ?_
              intro w98 kbC98 hc98
              have hH98 : Chg [] wA w98 := hH97.trans hc98 (by simp; omega)
              have kbD98 := kbD97.chg hc98 (by simp; omega)
              refine hK.out _ _ hH98 (fun _ => ?_)
              try simp only [Act.put, Sa, Sb, Sc, Sd, Se, Sf]
              refine RD 11 rfl (fun K hK => ?_)
              rw [if_pos (by rfl)]
              refine op_store 51 (.tmp 6) (.tmp 23) (by kernel_rfl) (by kernel_rfl) rfl (cs := rs.toList) rfl kbD98 (by simp [hrs]) (by rw [Array.length_toList, hrs]; exact infoW4) (by exact fun v hv => (Array.all_eq_true_iff_forall_mem.1 ors) v (by simpa using hv)) ?_
              intro w99 kbD99 hc99
              have hH99 : Chg [] wA w99 := hH98.trans hc99 (by simp; omega)
              have kbC99 := kbC98.chg hc99 (by simp; omega)
              refine hK.out _ _ hH99 (fun _ => ?_)
              try simp only [Act.put, Sa, Sb, Sc, Sd, Se, Sf]
              refine RD 12 rfl (fun K hK => ?_)
              go_simp
              refine hK.out _ _ hH99 (fun _ => ?_)
              try simp only [Act.put, Sa, Sb, Sc, Sd, Se, Sf]
              refine wpAnyH_done (by kernel_rfl) ?_ _
              go_wp2_with fail
              go_meet
              exact ⟨gC97, rfl, rfl, by simpa using kbC99, by omega, hH99⟩
            · rw [if_pos (by rfl)]
              refine op_alloc 51 5 (by kernel_rfl) (by kernel_rfl) zeroW4 ?_
              have kbC101 := Blk.new (w95) (#[.int .u64 0, .int .u64 0, .int .u64 0, .int .u64 0] : Array Value) 51
              have hH101 := hH95.alloc (.cells (#[.int .u64 0, .int .u64 0, .int .u64 0, .int .u64 0] : Array Value) 51)
              have hgeC101 := hH95.size
              have kbD101 := kbD95.alloc (.cells (#[.int .u64 0, .int .u64 0, .int .u64 0, .int .u64 0] : Array Value) 51)
              have hneDC101 := kbD95.lt
              obtain ⟨gC101, hgg101⟩ : ∃ g, g = (w95).heap.size := ⟨_, rfl⟩
              rw [← hgg101] at kbC101 hgeC101 hneDC101 ⊢
              generalize (w95).alloc (.cells (#[.int .u64 0, .int .u64 0, .int .u64 0, .int .u64 0] : Array Value) 51) = w101 at hH101 kbD101 kbC101 ⊢
              clear hgg101
              refine hK.out _ _ hH101 (fun _ => ?_)
              try simp only [Act.put, Sa, Sb, Sc]
              refine RD 3 rfl (fun K hK => ?_)
              try rw [if_pos (by rfl)]
              go_simp
              go_at_call 98
              refine (hdiv _).mono ?_
              rintro e102 w102 ⟨rfl, hc102⟩
              dsimp only
              have hH102 := hH101.trans hc102 (by simp)
              have kbD102 := kbD101.chg hc102 (by simp)
              have kbC102 := kbC101.chg hc102 (by simp)
              refine hK.out _ _ hH102 (fun _ => ?_)
              try simp only [Act.put, Sa, Sb, Sc, Sd, Se, Sf]
              refine TK 4 (.tuple #[.agg qs, .agg rs, .int .i64 0]) rfl hH102 (fun w' hw' => ?_) ?_
              · go_simp
              try simp only [Act.put, Sa, Sb, Sc, Sd, Se, Sf]
              refine TK 5 (.agg qs) rfl hH102 (fun w' hw' => ?_) ?_
              · go_simp
              try simp only [Act.put, Sa, Sb, Sc, Sd, Se, Sf]
              refine TK 6 (.agg rs) rfl hH102 (fun w' hw' => ?_) ?_
              · go_simp
              try simp only [Act.put, Sa, Sb, Sc, Sd, Se, Sf]
              refine TK 7 (.int .i64 0) rfl hH102 (fun w' hw' => ?_) ?_
              · go_simp
              try simp only [Act.put, Sa, Sb, Sc, Sd, Se, Sf]
              refine RD 10 rfl (fun K hK => ?_)
              rw [if_pos (by rfl)]
              refine op_store 51 (.tmp 5) (.tmp 22) (by kernel_rfl) (by kernel_rfl) rfl (cs := qs.toList) rfl kbC102 (by simp [hqs]) (by rw [Array.length_toList, hqs]; exact infoW4) (by exact fun v hv => (Array.all_eq_true_iff_forall_mem.1 oqs) v (by simpa using hv)) ?_
              intro w103 kbC103 hc103
              have hH103 : Chg [] wA w103 := hH102.trans hc103 (by simp; omega)
              have kbD103 := kbD102.chg hc103 (by simp; omega)
              refine hK.out _ _ hH103 (fun _ => ?_)
              try simp only [Act.put, Sa, Sb, Sc, Sd, Se, Sf]
              refine RD 11 rfl (fun K hK => ?_)
              rw [if_pos (by rfl)]
              refine op_store 51 (.tmp 6) (.tmp 23) (by kernel_rfl) (by kernel_rfl) rfl (cs := rs.toList) rfl kbD103 (by simp [hrs]) (by rw [Array.length_toList, hrs]; exact infoW4) (by exact fun v hv => (Array.all_eq_true_iff_forall_mem.1 ors) v (by simpa using hv)) ?_
              intro w104 kbD104 hc104
              have hH104 : Chg [] wA w104 := hH103.trans hc104 (by simp; omega)
              have kbC104 := kbC103.chg hc104 (by simp; omega)
              refine hK.out _ _ hH104 (fun _ => ?_)
              try simp only [Act.put, Sa, Sb, Sc, Sd, Se, Sf]
              refine RD 12 rfl (fun K hK => ?_)
              go_simp
              refine hK.out _ _ hH104 (fun _ => ?_)
              try simp only [Act.put, Sa, Sb, Sc, Sd, Se, Sf]
              refine wpAnyH_done (by kernel_rfl) ?_ _
              go_wp2_with fail
              go_meet
              exact ⟨gC101, rfl, rfl, by simpa using kbC104, by omega, hH104⟩
          · rw [if_pos (by rfl)]
            refine op_alloc 51 5 (by kernel_rfl) (by kernel_rfl) zeroW4 ?_
            have kbC106 := Blk.new (w94) (#[.int .u64 0, .int .u64 0, .int .u64 0, .int .u64 0] : Array Value) 51
            have hH106 := hH94.alloc (.cells (#[.int .u64 0, .int .u64 0, .int .u64 0, .int .u64 0] : Array Value) 51)
            have hgeC106 := hH94.size
            have kbD106 := kbD94.alloc (.cells (#[.int .u64 0, .int .u64 0, .int .u64 0, .int .u64 0] : Array Value) 51)
            have hneDC106 := kbD94.lt
            obtain ⟨gC106, hgg106⟩ : ∃ g, g = (w94).heap.size := ⟨_, rfl⟩
            rw [← hgg106] at kbC106 hgeC106 hneDC106 ⊢
            generalize (w94).alloc (.cells (#[.int .u64 0, .int .u64 0, .int .u64 0, .int .u64 0] : Array Value) 51) = w106 at hH106 kbD106 kbC106 ⊢
            clear hgg106
            refine hK.out _ _ hH106 (fun _ => ?_)
            try simp only [Act.put, Sa, Sb, Sc]
            refine RD 1 rfl (fun K hK => ?_)
            try rw [if_pos (by rfl)]
            go_simp
            go_at_call 40
            refine (hnot _).mono ?_
            rintro e107 w107 ⟨rfl, hc107⟩
            dsimp only
            have hH107 := hH106.trans hc107 (by simp)
            have kbD107 := kbD106.chg hc107 (by simp)
            have kbC107 := kbC106.chg hc107 (by simp)
            refine hK.out _ _ hH107 (fun _ => ?_)
            try simp only [Act.put, Sa, Sb, Sc, Sd, Se, Sf]
            refine RD 3 rfl (fun K hK => ?_)
            try rw [if_pos (by rfl)]
            go_simp
            go_at_call 98
            refine (hdiv _).mono ?_
            rintro e108 w108 ⟨rfl, hc108⟩
            dsimp only
            have hH108 := hH107.trans hc108 (by simp)
            have kbD108 := kbD107.chg hc108 (by simp)
            have kbC108 := kbC107.chg hc108 (by simp)
            refine hK.out _ _ hH108 (fun _ => ?_)
            try simp only [Act.put, Sa, Sb, Sc, Sd, Se, Sf]
            refine TK 4 (.tuple #[.agg qs, .agg rs, .int .i64 0]) rfl hH108 (fun w' hw' => ?_) ?_
            · go_simp
            try simp only [Act.put, Sa, Sb, Sc, Sd, Se, Sf]
            refine TK 5 (.agg qs) rfl hH108 (fun w' hw' => ?_) ?_
            · go_simp
            try simp only [Act.put, Sa, Sb, Sc, Sd, Se, Sf]
            refine TK 6 (.agg rs) rfl hH108 (fun w' hw' => ?_) ?_
            · go_simp
            try simp only [Act.put, Sa, Sb, Sc, Sd, Se, Sf]
            refine TK 7 (.int .i64 0) rfl hH108 (fun w' hw' => ?_) ?_
            · go_simp
            try simp only [Act.put, Sa, Sb, Sc, Sd, Se, Sf]
            refine RD 10 rfl (fun K hK => ?_)
            rw [if_pos (by rfl)]
            refine op_store 51 (.tmp 5) (.tmp 22) (by kernel_rfl) (by kernel_rfl) rfl (cs := qs.toList) rfl kbC108 (by simp [hqs]) (by rw [Array.length_toList, hqs]; exact infoW4) (by exact fun v hv => (Array.all_eq_true_iff_forall_mem.1 oqs) v (by simpa using hv)) ?_
            intro w109 kbC109 hc109
            have hH109 : Chg [] wA w109 := hH108.trans hc109 (by simp; omega)
            have kbD109 := kbD108.chg hc109 (by simp; omega)
            refine hK.out _ _ hH109 (fun _ => ?_)
            try simp only [Act.put, Sa, Sb, Sc, Sd, Se, Sf]
            refine RD 11 rfl (fun K hK => ?_)
            rw [if_pos (by rfl)]
            refine op_store 51 (.tmp 6) (.tmp 23) (by kernel_rfl) (by kernel_rfl) rfl (cs := rs.toList) rfl kbD109 (by simp [hrs]) (by rw [Array.length_toList, hrs]; exact infoW4) (by exact fun v hv => (Array.all_eq_true_iff_forall_mem.1 ors) v (by simpa using hv)) ?_
            intro w110 kbD110 hc110
            have hH110 : Chg [] wA w110 := hH109.trans hc110 (by simp; omega)
            have kbC110 := kbC109.chg hc110 (by simp; omega)
            refine hK.out _ _ hH110 (fun _ => ?_)
            try simp only [Act.put, Sa, Sb, Sc, Sd, Se, Sf]
            refine RD 12 rfl (fun K hK => ?_)
            go_simp
            refine hK.out _ _ hH110 (fun _ => ?_)
            try simp only [Act.put, Sa, Sb, Sc, Sd, Se, Sf]
            refine wpAnyH_done (by kernel_rfl) ?_ _
            go_wp2_with fail
            go_meet
            exact ⟨gC106, rfl, rfl, by simpa using kbC110, by omega, hH110⟩
      case rest =>
        obtain ⟨gC, rfl, rfl, bC, hgC, k3⟩ := hcut
        have kB := kA.trans k3 (by simp)
        have b2 := b2.chg k3 (by simp)
        clear hdiv hnot
        go_upto_region 7 with fail
        generalize wc = wB at *
        go_cut [8, 4] (fun s8 s4 wx => ∃ gE : Nat, s8 = .pointer (some ⟨gE, 0, none⟩) ∧ s4 = .bool ov2 ∧ Blk wx gE us 51 ∧ wB.heap.size ≤ gE ∧ Chg [] wB wx)
        case first =>
          refine wp_region_held_drew (S := fun w' => Chg [] wB w') (by kernel_rfl) ((Chg.refl _ _).drew) (fun hH81 => ?_)
          refine TK 0 (.agg qs) rfl hH81 (fun w' hw' => ?_) ?_
          · (have k := bC.chg hw' (by simp); have hl := load_blkC k 4 hqs; go_simp)
          try simp only [Act.put, Sa, Sb, Sc, Sd, Sf]
          refine RD2 1 6 rfl rfl (fun K hK => ?_) (fun K hK => ?_)
          · try rw [if_pos (by rfl)]
            go_simp
            go_at_call 87
            refine (hone _).mono ?_
            rintro e82 w82 ⟨rfl, hc82⟩
            dsimp only
            have hH82 := hH81.trans hc82 (by simp)
            refine hK.out _ _ hH82 (fun _ => ?_)
            try simp only [Act.put, Sa, Sb, Sc, Sd, Se, Sf]
            refine RD2 2 6 rfl rfl (fun K hK => ?_) (fun K hK => ?_)
            · try rw [if_pos (by rfl)]
              go_simp
              go_at_call 43
              refine (hadd2 _).mono ?_
              rintro e83 w83 ⟨rfl, hc83⟩
              dsimp only
              have hH83 := hH82.trans hc83 (by simp)
              refine hK.out _ _ hH83 (fun _ => ?_)
              try simp only [Act.put, Sa, Sb, Sc, Sd, Se, Sf]
              refine TK 3 (.tuple #[.agg us, .bool ov2]) rfl hH83 (fun w' hw' => ?_) ?_
              · go_simp
              try simp only [Act.put, Sa, Sb, Sc, Sd, Se, Sf]
              refine TK 4 (.agg us) rfl hH83 (fun w' hw' => ?_) ?_
              · go_simp
              try simp only [Act.put, Sa, Sb, Sc, Sd, Se, Sf]
              refine TK 5 (.bool ov2) rfl hH83 (fun w' hw' => ?_) ?_
              · go_simp
              try simp only [Act.put, Sa, Sb, Sc, Sd, Se, Sf]
              refine RD 6 rfl (fun K hK => ?_)
              rw [if_pos (by rfl)]
              refine op_alloc 51 8 (by kernel_rfl) (by kernel_rfl) zeroW4 ?_
              have kbA84 := Blk.new (w83) (#[.int .u64 0, .int .u64 0, .int .u64 0, .int .u64 0] : Array Value) 51
              have hH84 := hH83.alloc (.cells (#[.int .u64 0, .int .u64 0, .int .u64 0, .int .u64 0] : Array Value) 51)
              have hgeA84 := hH83.size
              obtain ⟨gA84, hgg84⟩ : ∃ g, g = (w83).heap.size := ⟨_, rfl⟩
              rw [← hgg84] at kbA84 hgeA84 ⊢
              generalize (w83).alloc (.cells (#[.int .u64 0, .int .u64 0, .int .u64 0, .int .u64 0] : Array Value) 51) = w84 at hH84 kbA84 ⊢
              clear hgg84
              refine hK.out _ _ hH84 (fun _ => ?_)
              try simp only [Act.put, Sa, Sb, Sc]
              refine RD 7 rfl (fun K hK => ?_)
              rw [if_pos (by rfl)]
              refine op_store 51 (.tmp 8) (.tmp 32) (by kernel_rfl) (by kernel_rfl) rfl (cs := us.toList) rfl kbA84 (by simp [hus]) (by rw [Array.length_toList, hus]; exact infoW4) (by exact fun v hv => (Array.all_eq_true_iff_forall_mem.1 ous) v (by simpa using hv)) ?_
              intro w85 kbA85 hc85
              have hH85 : Chg [] wB w85 := hH84.trans hc85 (by simp; omega)
              refine hK.out _ _ hH85 (fun _ => ?_)
              try simp only [Act.put, Sa, Sb, Sc, Sd, Se, Sf]
              refine RD 8 rfl (fun K hK => ?_)
              go_simp
              refine hK.out _ _ hH85 (fun _ => ?_)
              try simp only [Act.put, Sa, Sb, Sc, Sd, Se, Sf]
              refine wpAnyH_done (by kernel_rfl) ?_ _
              go_wp2_with fail
              go_meet
              exact ⟨gA84, rfl, rfl, by simpa using kbA85, by omega, hH85⟩
            · rw [if_pos (by rfl)]
              refine op_alloc 51 8 (by kernel_rfl) (by kernel_rfl) zeroW4 ?_
              have kbA87 := Blk.new (w82) (#[.int .u64 0, .int .u64 0, .int .u64 0, .int .u64 0] : Array Value) 51
              have hH87 := hH82.alloc (.cells (#[.int .u64 0, .int .u64 0, .int .u64 0, .int .u64 0] : Array Value) 51)
              have hgeA87 := hH82.size
              obtain ⟨gA87, hgg87⟩ : ∃ g, g = (w82).heap.size := ⟨_, rfl⟩
              rw [← hgg87] at kbA87 hgeA87 ⊢
              generalize (w82).alloc (.cells (#[.int .u64 0, .int .u64 0, .int .u64 0, .int .u64 0] : Array Value) 51) = w87 at hH87 kbA87 ⊢
              clear hgg87
              refine hK.out _ _ hH87 (fun _ => ?_)
              try simp only [Act.put, Sa, Sb, Sc]
              refine RD 2 rfl (fun K hK => ?_)
              try rw [if_pos (by rfl)]
              go_simp
              go_at_call 43
              refine (hadd2 _).mono ?_
              rintro e88 w88 ⟨rfl, hc88⟩
              dsimp only
              have hH88 := hH87.trans hc88 (by simp)
              have kbA88 := kbA87.chg hc88 (by simp)
              refine hK.out _ _ hH88 (fun _ => ?_)
              try simp only [Act.put, Sa, Sb, Sc, Sd, Se, Sf]
              refine TK 3 (.tuple #[.agg us, .bool ov2]) rfl hH88 (fun w' hw' => ?_) ?_
              · go_simp
              try simp only [Act.put, Sa, Sb, Sc, Sd, Se, Sf]
              refine TK 4 (.agg us) rfl hH88 (fun w' hw' => ?_) ?_
              · go_simp
              try simp only [Act.put, Sa, Sb, Sc, Sd, Se, Sf]
              refine TK 5 (.bool ov2) rfl hH88 (fun w' hw' => ?_) ?_
              · go_simp
              try simp only [Act.put, Sa, Sb, Sc, Sd, Se, Sf]
              refine RD 7 rfl (fun K hK => ?_)
              rw [if_pos (by rfl)]
              refine op_store 51 (.tmp 8) (.tmp 32) (by kernel_rfl) (by kernel_rfl) rfl (cs := us.toList) rfl kbA88 (by simp [hus]) (by rw [Array.length_toList, hus]; exact infoW4) (by exact fun v hv => (Array.all_eq_true_iff_forall_mem.1 ous) v (by simpa using hv)) ?_
              intro w89 kbA89 hc89
              have hH89 : Chg [] wB w89 := hH88.trans hc89 (by simp; omega)
              refine hK.out _ _ hH89 (fun _ => ?_)
              try simp only [Act.put, Sa, Sb, Sc, Sd, Se, Sf]
              refine RD 8 rfl (fun K hK => ?_)
              go_simp
              refine hK.out _ _ hH89 (fun _ => ?_)
              try simp only [Act.put, Sa, Sb, Sc, Sd, Se, Sf]
              refine wpAnyH_done (by kernel_rfl) ?_ _
              go_wp2_with fail
              go_meet
              exact ⟨gA87, rfl, rfl, by simpa using kbA89, by omega, hH89⟩
          · rw [if_pos (by rfl)]
            refine op_alloc 51 8 (by kernel_rfl) (by kernel_rfl) zeroW4 ?_
            have kbA91 := Blk.new ((wB).drew) (#[.int .u64 0, .int .u64 0, .int .u64 0, .int .u64 0] : Array Value) 51
            have hH91 := hH81.alloc (.cells (#[.int .u64 0, .int .u64 0, .int .u64 0, .int .u64 0] : Array Value) 51)
            have hgeA91 := hH81.size
            obtain ⟨gA91, hgg91⟩ : ∃ g, g = ((wB).drew).heap.size := ⟨_, rfl⟩
            rw [← hgg91] at kbA91 hgeA91 ⊢
            generalize ((wB).drew).alloc (.cells (#[.int .u64 0, .int .u64 0, .int .u64 0, .int .u64 0] : Array Value) 51) = w91 at hH91 kbA91 ⊢
            clear hgg91
            refine hK.out _ _ hH91 (fun _ => ?_)
            try simp only [Act.put, Sa, Sb, Sc]
            refine RD 1 rfl (fun K hK => ?_)
            try rw [if_pos (by rfl)]
            go_simp
            go_at_call 87
            refine (hone _).mono ?_
            rintro e92 w92 ⟨rfl, hc92⟩
            dsimp only
            have hH92 := hH91.trans hc92 (by simp)
            have kbA92 := kbA91.chg hc92 (by simp)
            refine hK.out _ _ hH92 (fun _ => ?_)
            try simp only [Act.put, Sa, Sb, Sc, Sd, Se, Sf]
            refine RD 2 rfl (fun K hK => ?_)
            try rw [if_pos (by rfl)]
            go_simp
            go_at_call 43
            refine (hadd2 _).mono ?_
            rintro e93 w93 ⟨rfl, hc93⟩
            dsimp only
            have hH93 := hH92.trans hc93 (by simp)
            have kbA93 := kbA92.chg hc93 (by simp)
            refine hK.out _ _ hH93 (fun _ => ?_)
            try simp only [Act.put, Sa, Sb, Sc, Sd, Se, Sf]
            refine TK 3 (.tuple #[.agg us, .bool ov2]) rfl hH93 (fun w' hw' => ?_) ?_
            · go_simp
            try simp only [Act.put, Sa, Sb, Sc, Sd, Se, Sf]
            refine TK 4 (.agg us) rfl hH93 (fun w' hw' => ?_) ?_
            · go_simp
            try simp only [Act.put, Sa, Sb, Sc, Sd, Se, Sf]
            refine TK 5 (.bool ov2) rfl hH93 (fun w' hw' => ?_) ?_
            · go_simp
            try simp only [Act.put, Sa, Sb, Sc, Sd, Se, Sf]
            refine RD 7 rfl (fun K hK => ?_)
            rw [if_pos (by rfl)]
            refine op_store 51 (.tmp 8) (.tmp 32) (by kernel_rfl) (by kernel_rfl) rfl (cs := us.toList) rfl kbA93 (by simp [hus]) (by rw [Array.length_toList, hus]; exact infoW4) (by exact fun v hv => (Array.all_eq_true_iff_forall_mem.1 ous) v (by simpa using hv)) ?_
            intro w94 kbA94 hc94
            have hH94 : Chg [] wB w94 := hH93.trans hc94 (by simp; omega)
            refine hK.out _ _ hH94 (fun _ => ?_)
            try simp only [Act.put, Sa, Sb, Sc, Sd, Se, Sf]
            refine RD 8 rfl (fun K hK => ?_)
            go_simp
            refine hK.out _ _ hH94 (fun _ => ?_)
            try simp only [Act.put, Sa, Sb, Sc, Sd, Se, Sf]
            refine wpAnyH_done (by kernel_rfl) ?_ _
            go_wp2_with fail
            go_meet
            exact ⟨gA91, rfl, rfl, by simpa using kbA94, by omega, hH94⟩
        case rest =>
          obtain ⟨gE, rfl, rfl, bE, hgE, k4⟩ := hcut
          have kE := kB.trans k4 (by simp)
          have b2 := b2.chg k4 (by simp)
          cases ov2
          · have hlE := load_blkC bE 4 hus
            obtain ⟨W2, hst, b3, kk⟩ := store_cells b2 (cs := us) (by rw [hus]; rfl) ous
            have hld := load_blkC b3 4 hus
            go_wp2
            exact bodyPost_ret (v := .agg us) (by simp [results, Tryz.results69, go_sem, hld]) rfl ⟨rfl, kE.trans kk (by simp)⟩
          · go_wp2_with fail
            refine (hnot0 _).mono ?_
            rintro e w6 ⟨rfl, k6⟩
            dsimp only
            have b2 := b2.chg k6 (by simp)
            obtain ⟨W2, hst, b3, kk⟩ := store_cells b2 (cs := zs) (by rw [hzs]; rfl) ozs
            have hld := load_blkC b3 4 hzs
            go_wp2
            exact bodyPost_ret (v := .agg zs) (by simp [results, Tryz.results69, go_sem, hld]) rfl ⟨rfl, (kE.trans k6 (by simp)).trans kk (by simp)⟩
    · go_wp2_with fail
      refine (hone _).mono ?_
      rintro e w6 ⟨rfl, k6⟩
      dsimp only
      have b2 := b2.chg k6 (by simp)
      obtain ⟨W2, hst, b3, kk⟩ := store_cells b2 (cs := on) (by rw [hon]; rfl) oon
      have hld := load_blkC b3 4 hon
      go_wp2
      exact bodyPost_ret (v := .agg on) (by simp [results, Tryz.results69, go_sem, hld]) rfl ⟨rfl, (kA.trans k6 (by simp)).trans kk (by simp)⟩
end Go.Proofs.YtmkgbinmilcojaaGreat
