/- Package tree: New. Printed by newgen.py. -/
import Derived.Test.YtmkgbinmilcojaaGreatNodeMap
namespace Go.Proofs.YtmkgbinmilcojaaGreat
open Go.RowKit Go.Maps
attribute [-go_sem] loadCellsFrom Instr.build

theorem node_part2 (hl hs : List Value) (h1 : hl.length = 68) (p : Option Addr) (n a b c d k : Int) : ∀ (j : Nat) (v : Value), hs.toArray[j]? = some v → (nodeL hl hs p n a b c d k).toArray[68 + j]? = some v := by
  intro j v h
  simp only [List.getElem?_toArray] at h ⊢
  unfold nodeL
  rw [List.getElem?_append_right (by omega), h1, show 68 + j - 68 = j by omega, List.getElem?_append_left (by exact (List.getElem?_eq_some_iff.1 h).1)]
  exact h
theorem node_size {hl hs : List Value} (h1 : hl.length = 68) (h2 : hs.length = 32) (p : Option Addr) (n a b c d k : Int) : (nodeL hl hs p n a b c d k).toArray.size = 107 := by simp [nodeL, h1, h2]
/-- the work, stored into a node. -/
theorem store_node {W : World} {g : Nat} {fl hl : List Value} {ws : Array Value} {p : Option Addr} {n a b c d k : Int} (hb : Blk W g (nodeL fl hl p n a b c d k).toArray 86) (h1 : fl.toArray.size = 68) (h2 : hl.toArray.size = 32) (h3 : ws.size = 4) (h4 : ws.all (·.oneCell') = true) :
    ∃ W2, (storeCells ⟨g, 102, none⟩ ws.toList 0).run Tryz.prog W = .ok () W2 ∧ Blk W2 g (fl ++ (hl ++ (Value.pointer p :: Value.int .i64 n :: (ws.toList ++ [Value.int .i64 k])))).toArray 86 ∧ Chg [g] W W2 ∧ W2 = W.setCells g 102 ws.toList := by
  obtain ⟨x0, x1, x2, x3, rfl⟩ : ∃ x0 x1 x2 x3, ws = #[x0, x1, x2, x3] := by
    obtain ⟨l⟩ := ws
    match l, h3 with
    | [x0, x1, x2, x3], _ => exact ⟨x0, x1, x2, x3, rfl⟩
  have hsz := node_size (by simpa using h1) (by simpa using h2) p n a b c d k
  have hc : ∀ j, j < 107 → (W.cell? ⟨g, j, none⟩).isSome = true := fun j hj => by
    rw [hb.cell j (v := (nodeL fl hl p n a b c d k).toArray[j]'(by omega)) (by simp)]; rfl
  have hr := run_storeCells_cells (P := Tryz.prog) g 102 [x0, x1, x2, x3] 0 W (fun j hj => hc _ (by simp at hj; omega)) (fun j _ => hb.free _) (fun v hv => (Array.all_eq_true_iff_forall_mem.1 h4) v (by simpa using hv))
  refine ⟨_, hr, ?_, ?_, rfl⟩
  · have h5 := (((hb.set 102 x0).set 103 x1).set 104 x2).set 105 x3
    have e : ((((nodeL fl hl p n a b c d k).toArray.setIfInBounds 102 x0).setIfInBounds 103 x1).setIfInBounds 104 x2).setIfInBounds 105 x3 = (fl ++ (hl ++ (Value.pointer p :: Value.int .i64 n :: ([x0, x1, x2, x3] ++ [Value.int .i64 k])))).toArray := by
      have l1 : fl.length = 68 := by simpa using h1
      have l2 : hl.length = 32 := by simpa using h2
      apply Array.ext'
      simp only [Array.toList_setIfInBounds, nodeL]
      have st : ∀ (C : List Value) (i : Nat) (v : Value), (fl ++ (hl ++ C)).set (100 + i) v = fl ++ (hl ++ C.set i v) := fun C i v => by
        rw [List.set_append_right _ _ (by omega), List.set_append_right _ _ (by omega), l1, l2, show 100 + i - 68 - 32 = i by omega]
      rw [show 102 = 100 + 2 by rfl, show 103 = 100 + 3 by rfl, show 104 = 100 + 4 by rfl, show 105 = 100 + 5 by rfl, st, st, st, st]
      rfl
    rw [e] at h5
    exact h5
  · exact (((((Chg.refl [g] W).setCell (.inl (by simp)) _).setCell (.inl (by simp)) _).setCell (.inl (by simp)) _).setCell (.inl (by simp)) _)
set_option maxRecDepth 100000 in
set_option maxHeartbeats 8000000 in
theorem tree_NewW (rl fl hl : List Value) (key : List Nat) (ws : Array Value) (ce : Int) (hrs : rl.toArray.size = 72) (hfs : fl.toArray.size = 68) (hhs : hl.toArray.size = 32) (hws : ws.size = 4) (ow : ws.all (·.oneCell') = true)
    (hkey : HK key) (hhl' : Value.agg hl.toArray = hv key) (hpart : ∀ (j : Nat) (v : Value), fl.toArray[j]? = some v → rl.toArray[4 + j]? = some v)
    (hck : ∀ w, Calls Tryz.prog 21 #[.agg rl.toArray] w fun e w' => e = .returned (.int .i64 ce) ∧ Chg [] w w')
    (hhash : ∀ w, Calls Tryz.prog 27 #[.agg fl.toArray] w fun e w' => e = .returned (.agg hl.toArray) ∧ Chg [] w w')
    (hwork : ∀ w, Calls Tryz.prog 36 #[.agg fl.toArray] w fun e w' => e = .returned (.agg ws) ∧ Chg [] w w') (w : World) :
    Calls Tryz.prog 10 #[.agg rl.toArray] w fun e w' => Chg [] w w' ∧ ((ce ≠ 0 ∧ e = .returned (.tuple #[.pointer none, .int .i64 ce])) ∨ (ce = 0 ∧ ∃ gT gM gS gN cap, e = .returned (.tuple #[.pointer (some ⟨gT, 0, none⟩), .int .i64 0]) ∧
      Blk w' gT (rl ++ [Value.map (some gM), Value.slice (some ⟨gS, 0, none⟩) 1 1, Value.int .i64 1]).toArray 91 ∧ Blk w' gS #[.pointer (some ⟨gN, 0, none⟩)] 84 ∧ MapH w' gM cap (fun y => if y = key then some (.pointer (some ⟨gN, 0, none⟩)) else none) ∧ cap = 1 ∧
      Blk w' gN (fl ++ (hl ++ (Value.pointer none :: Value.int .i64 0 :: (ws.toList ++ [Value.int .i64 0])))).toArray 86 ∧ w.heap.size ≤ gT ∧ w.heap.size ≤ gM ∧ w.heap.size ≤ gS ∧ w.heap.size ≤ gN)) := by
  have hb1 := build_node (hl := fl) (hs := hl) (by simpa using hfs) (by simpa using hhs)
  have hb2 := fun m a x y n => build_tree (l := rl) (by simpa using hrs) m a x y n
  have hpart2 := node_part2 fl hl (by simpa using hfs) none 0 0 0 0 0 0
  have hhl := Lib.hid hhl'
  clear hhl'
  have hmk : ∀ w, (Instr.makeMap 88 none).run Tryz.prog w = .ok (.map (some w.heap.size)) (w.alloc (.map #[] 0)) := fun w => rfl
  have bR := Blk.new w rl.toArray 30
  have k0 : Chg [] w (w.alloc (.cells rl.toArray 30)) := (Chg.refl _ _).alloc _
  have hlR := load_blkC bR 72 hrs
  go_enter Tryz.func10, Tryz.ntmps10
  go_wp2_with fail
  generalize w.alloc (.cells rl.toArray 30) = W0 at *
  refine (hck _).mono ?_
  rintro e w1 ⟨rfl, k1⟩
  dsimp only
  have bR := bR.chg k1 (by simp)
  have k01 := k0.trans k1 (by simp)
  clear hlR k0 k1
  by_cases he : ce = 0
  · subst he
    go_upto_region 4 with fail
    go_cut [5] (fun s5 wx => ∃ gN, s5 = .pointer (some ⟨gN, 0, none⟩) ∧ Blk wx gN (nodeL fl hl none 0 0 0 0 0 0).toArray 86 ∧ w1.heap.size ≤ gN ∧ Chg [] w1 wx)
    case first =>
      refine wp_region_held_drew (S := fun w' => Chg [] w1 w') (by kernel_rfl) ((Chg.refl _ _).drew) (fun hH => ?_)
      refine TK 0 (.pointer (some ⟨w.heap.size, 4, none⟩)) rfl hH (fun w' hw' => ?_) ?_
      · go_simp
      try simp only [Act.put, Sa, Sb, Sc, Sd, Sf]
      refine TK 1 (.agg fl.toArray) rfl hH (fun w' hw' => ?_) ?_
      · (have k := bR.chg hw' (by simp); have hl := load_part k 4 68 hfs hpart; go_simp)
      try simp only [Act.put, Sa, Sb, Sc, Sd, Se, Sf]
      refine TK 2 (.pointer (some ⟨w.heap.size, 4, none⟩)) rfl hH (fun w' hw' => ?_) ?_
      · go_simp
      try simp only [Act.put, Sa, Sb, Sc, Sd, Se, Sf]
      refine TK 3 (.agg fl.toArray) rfl hH (fun w' hw' => ?_) ?_
      · (have k := bR.chg hw' (by simp); have hl := load_part k 4 68 hfs hpart; go_simp)
      try simp only [Act.put, Sa, Sb, Sc, Sd, Se, Sf]
      refine RD 4 rfl (fun K hK => ?_)
      try rw [if_pos (by rfl)]
      go_simp
      go_at_call 27
      refine (hhash _).mono ?_
      rintro e1 w1 ⟨rfl, hc1⟩
      dsimp only
      have hH1 := hH.trans hc1 (by simp)
      refine hK.out _ _ hH1 (fun _ => ?_)
      try simp only [Act.put, Sa, Sb, Sc, Sd, Se, Sf]
      refine TK 5 (.agg (nodeL fl hl none 0 0 0 0 0 0).toArray) rfl hH1 (fun w' hw' => ?_) ?_
      · go_simp
      try simp only [Act.put, Sa, Sb, Sc, Sd, Se, Sf]
      refine RD 6 rfl (fun K hK => ?_)
      rw [if_pos (by rfl)]
      refine op_box 86 17 (by kernel_rfl) (.tmp 16) (by kernel_rfl) rfl ?_
      have kbN2 := Blk.new (w1) (nodeL fl hl none 0 0 0 0 0 0).toArray 86
      have hH2 := hH1.alloc (.cells (nodeL fl hl none 0 0 0 0 0 0).toArray 86)
      have hgeN2 := hH1.size
      obtain ⟨gN2, hgg2⟩ : ∃ g, g = (w1).heap.size := ⟨_, rfl⟩
      rw [← hgg2] at kbN2 hgeN2 ⊢
      generalize (w1).alloc (.cells (nodeL fl hl none 0 0 0 0 0 0).toArray 86) = w2 at hH2 kbN2 ⊢
      clear hgg2
      refine hK.out _ _ hH2 (fun _ => ?_)
      try simp only [Act.put, Sa, Sb, Sc]
      refine RD 7 rfl (fun K hK => ?_)
      go_simp
      refine hK.out _ _ hH2 (fun _ => ?_)
      try simp only [Act.put, Sa, Sb, Sc, Sd, Se, Sf]
      refine wpAnyH_done (by kernel_rfl) ?_ _
      go_wp2_with fail
      go_meet
      exact ⟨gN2, rfl, kbN2, by omega, hH2⟩
    case rest =>
      obtain ⟨gN, rfl, bN, hgN, k2⟩ := hcut
      have hltR := bR.lt
      have bR := bR.chg k2 (by simp)
      have k02 := k01.trans k2 (by simp)
      have hlp := load_part bR 4 68 hfs hpart
      clear hhash hck hb1 k01 k2
      go_wp2_with fail
      refine (hwork _).mono ?_
      rintro e w3 ⟨rfl, k3⟩
      dsimp only
      have bR := bR.chg k3 (by simp)
      have bN := bN.chg k3 (by simp)
      have k03 := k02.trans k3 (by simp)
      clear hwork hlp
      obtain ⟨W2, hst, bN2, k4, -⟩ := store_node bN hfs hhs hws ow
      have hgR : gN ≠ w.heap.size := by omega
      have bR := bR.chg k4 (by simpa using fun e => hgR e.symm)
      have k04 := k03.trans k4 (by simp; omega)
      go_upto_region 6 with fail
      have hpart2 : ∀ (j : Nat) (v : Value), hl.toArray[j]? = some v → (fl ++ (hl ++ (Value.pointer none :: Value.int .i64 0 :: (ws.toList ++ [Value.int .i64 0])))).toArray[68 + j]? = some v := fun j v h => by
        have l1 : fl.length = 68 := by simpa using hfs
        simp only [List.getElem?_toArray] at h ⊢
        rw [List.getElem?_append_right (by omega), l1, show 68 + j - 68 = j by omega, List.getElem?_append_left (by exact (List.getElem?_eq_some_iff.1 h).1)]
        exact h
      have bN := bN2
      clear bN2 hst
      obtain ⟨nc, hnc0⟩ : ∃ nc, nc = (fl ++ (hl ++ (Value.pointer none :: Value.int .i64 0 :: (ws.toList ++ [Value.int .i64 0])))).toArray := ⟨_, rfl⟩
      rw [← hnc0] at bN hpart2
      have hnc := Lib.hid hnc0
      clear hnc0
      have hgN2 : w.heap.size ≤ gN := by omega
      have hs02 := k04.size
      generalize W2 = w4 at *
      go_cut [2, 3] (fun s2 s3 wx => ∃ gT gM gS, s2 = .pointer (some ⟨gT, 0, none⟩) ∧ s3 = .int .i64 0 ∧ Blk wx gT (rl ++ [Value.map (some gM), Value.slice (some ⟨gS, 0, none⟩) 1 1, Value.int .i64 1]).toArray 91 ∧ MapH wx gM 1 (fun y => if y = key then some (.pointer (some ⟨gN, 0, none⟩)) else none) ∧ Blk wx gS #[.pointer (some ⟨gN, 0, none⟩)] 84 ∧ Blk wx gN nc 86 ∧ w4.heap.size ≤ gT ∧ w4.heap.size ≤ gM ∧ w4.heap.size ≤ gS ∧ Chg [] w4 wx)
      case first =>
        refine wp_region_held_drew (S := fun w' => Chg [] w4 w') (by kernel_rfl) ((Chg.refl _ _).drew) (fun hH31 => ?_)
        have kdN31 := bN.chg ((Chg.refl [] _).drew) (by simp)
        obtain ⟨wd31, hwd31⟩ : ∃ wd, wd = (w4).drew := ⟨_, rfl⟩
        rw [← hwd31] at hH31 kdN31 ⊢
        clear hwd31
        refine TK 0 (.agg rl.toArray) rfl hH31 (fun w' hw' => ?_) ?_
        · (have k := bR.chg hw' (by simp); have hl := load_blkC k 72 hrs; go_simp)
        try simp only [Act.put, Sa, Sb, Sc, Sd, Sf]
        refine TK 2 (.pointer (some ⟨gN, 0, none⟩)) rfl hH31 (fun w' hw' => ?_) ?_
        · go_simp
        try simp only [Act.put, Sa, Sb, Sc, Sd, Se, Sf]
        refine TK 3 (.pointer (some ⟨gN, 0, none⟩)) rfl hH31 (fun w' hw' => ?_) ?_
        · go_simp
        try simp only [Act.put, Sa, Sb, Sc, Sd, Se, Sf]
        refine TK 4 (.pointer (some ⟨gN, 68, none⟩)) rfl hH31 (fun w' hw' => ?_) ?_
        · go_simp
        try simp only [Act.put, Sa, Sb, Sc, Sd, Se, Sf]
        refine TK 5 (.agg hl.toArray) rfl hH31 (fun w' hw' => ?_) ?_
        · (have k := bN.chg hw' (by simp); have hl := load_part k 68 32 hhs hpart2; go_simp)
        try simp only [Act.put, Sa, Sb, Sc, Sd, Se, Sf]
        refine TK 6 (.pointer (some ⟨gN, 0, none⟩)) rfl hH31 (fun w' hw' => ?_) ?_
        · go_simp
        try simp only [Act.put, Sa, Sb, Sc, Sd, Se, Sf]
        refine TK 9 (.pointer (some ⟨gN, 0, none⟩)) rfl hH31 (fun w' hw' => ?_) ?_
        · go_simp
        try simp only [Act.put, Sa, Sb, Sc, Sd, Se, Sf]
        refine RD2 1 10 rfl rfl (fun K hK => ?_) (fun K hK => ?_)
        · try rw [if_pos (by rfl)]
          go_simp
          have kbM32 := MapH.made (wd31)
          have hH32 := hH31.alloc (.map #[] 0)
          have hgeM32 := hH31.size
          have kbN32 := kdN31.alloc (.map #[] 0)
          have hneNM32 := kdN31.lt
          obtain ⟨gM32, hgg32⟩ : ∃ g, g = (wd31).heap.size := ⟨_, rfl⟩
          rw [← hgg32] at kbM32 hgeM32 hneNM32 ⊢
          generalize (wd31).alloc (.map #[] 0) = w32 at hH32 kbN32 kbM32 ⊢
          clear hgg32
          refine hK.out _ _ hH32 (fun _ => ?_)
          try simp only [Act.put, Sa, Sb, Sc, Sd, Se, Sf]
          refine RD2 7 10 rfl rfl (fun K hK => ?_) (fun K hK => ?_)
          · try rw [if_pos (by rfl)]
            obtain ⟨w33, hr33, kbM33, hc33⟩ := MapH.store kbM32 Tryz.underlying88 (by unfold maxLen; omega) hkey (.pointer (some ⟨gN, 0, none⟩))
            rw [← hhl.out] at hr33
            go_simp
            have hH33 : Chg [] w4 w33 := hH32.trans hc33 (by first | (simp; done) | (simp; omega))
            have kbN33 := kbN32.chg hc33 (by simp; omega)
            refine hK.out _ _ hH33 (fun _ => ?_)
            try simp only [Act.put, Sa, Sb, Sc, Sd, Se, Sf]
            refine TK 8 (.map (some gM32)) rfl hH33 (fun w' hw' => ?_) ?_
            · go_simp
            try simp only [Act.put, Sa, Sb, Sc, Sd, Se, Sf]
            refine RD 10 rfl (fun K hK => ?_)
            try rw [if_pos (by rfl)]
            go_simp
            have kbS34 := Blk.new (w33) #[.pointer (some ⟨gN, 0, none⟩)] 84
            have hH34 := hH33.alloc (.cells #[.pointer (some ⟨gN, 0, none⟩)] 84)
            have hgeS34 := hH33.size
            have kbN34 := kbN33.alloc (.cells #[.pointer (some ⟨gN, 0, none⟩)] 84)
            have hneNS34 := kbN33.lt
            have kbM34 := kbM33.alloc (.cells #[.pointer (some ⟨gN, 0, none⟩)] 84)
            have hneMS34 := kbM33.lt
            obtain ⟨gS34, hgg34⟩ : ∃ g, g = (w33).heap.size := ⟨_, rfl⟩
            rw [← hgg34] at kbS34 hgeS34 hneNS34 hneMS34 ⊢
            generalize (w33).alloc (.cells #[.pointer (some ⟨gN, 0, none⟩)] 84) = w34 at hH34 kbN34 kbM34 kbS34 ⊢
            clear hgg34
            refine hK.out _ _ hH34 (fun _ => ?_)
            try simp only [Act.put, Sa, Sb, Sc, Sd, Se, Sf]
            refine TK 11 (.agg (rl ++ [Value.map (some gM32), Value.slice (some ⟨gS34, 0, none⟩) 1 1, Value.int .i64 1]).toArray) rfl hH34 (fun w' hw' => ?_) ?_
            · go_simp
            try simp only [Act.put, Sa, Sb, Sc, Sd, Se, Sf]
            refine RD 12 rfl (fun K hK => ?_)
            rw [if_pos (by rfl)]
            refine op_box 91 35 (by kernel_rfl) (.tmp 34) (by kernel_rfl) rfl ?_
            have kbT35 := Blk.new (w34) (rl ++ [Value.map (some gM32), Value.slice (some ⟨gS34, 0, none⟩) 1 1, Value.int .i64 1]).toArray 91
            have hH35 := hH34.alloc (.cells (rl ++ [Value.map (some gM32), Value.slice (some ⟨gS34, 0, none⟩) 1 1, Value.int .i64 1]).toArray 91)
            have hgeT35 := hH34.size
            have kbN35 := kbN34.alloc (.cells (rl ++ [Value.map (some gM32), Value.slice (some ⟨gS34, 0, none⟩) 1 1, Value.int .i64 1]).toArray 91)
            have hneNT35 := kbN34.lt
            have kbM35 := kbM34.alloc (.cells (rl ++ [Value.map (some gM32), Value.slice (some ⟨gS34, 0, none⟩) 1 1, Value.int .i64 1]).toArray 91)
            have hneMT35 := kbM34.lt
            have kbS35 := kbS34.alloc (.cells (rl ++ [Value.map (some gM32), Value.slice (some ⟨gS34, 0, none⟩) 1 1, Value.int .i64 1]).toArray 91)
            have hneST35 := kbS34.lt
            obtain ⟨gT35, hgg35⟩ : ∃ g, g = (w34).heap.size := ⟨_, rfl⟩
            rw [← hgg35] at kbT35 hgeT35 hneNT35 hneMT35 hneST35 ⊢
            generalize (w34).alloc (.cells (rl ++ [Value.map (some gM32), Value.slice (some ⟨gS34, 0, none⟩) 1 1, Value.int .i64 1]).toArray 91) = w35 at hH35 kbN35 kbM35 kbS35 kbT35 ⊢
            clear hgg35
            refine hK.out _ _ hH35 (fun _ => ?_)
            try simp only [Act.put, Sa, Sb, Sc]
            refine RD 13 rfl (fun K hK => ?_)
            go_simp
            refine hK.out _ _ hH35 (fun _ => ?_)
            try simp only [Act.put, Sa, Sb, Sc, Sd, Se, Sf]
            refine RD 14 rfl (fun K hK => ?_)
            go_simp
            refine hK.out _ _ hH35 (fun _ => ?_)
            try simp only [Act.put, Sa, Sb, Sc, Sd, Se, Sf]
            refine wpAnyH_done (by kernel_rfl) ?_ _
            go_wp2_with fail
            go_meet
            exact ⟨gT35, gM32, gS34, rfl, rfl, kbT35, by simpa using kbM35, kbS35, kbN35, by omega, by omega, by omega, hH35⟩
          · try rw [if_pos (by rfl)]
            go_simp
            have kbS38 := Blk.new (w32) #[.pointer (some ⟨gN, 0, none⟩)] 84
            have hH38 := hH32.alloc (.cells #[.pointer (some ⟨gN, 0, none⟩)] 84)
            have hgeS38 := hH32.size
            have kbN38 := kbN32.alloc (.cells #[.pointer (some ⟨gN, 0, none⟩)] 84)
            have hneNS38 := kbN32.lt
            have kbM38 := kbM32.alloc (.cells #[.pointer (some ⟨gN, 0, none⟩)] 84)
            have hneMS38 := kbM32.lt
            obtain ⟨gS38, hgg38⟩ : ∃ g, g = (w32).heap.size := ⟨_, rfl⟩
            rw [← hgg38] at kbS38 hgeS38 hneNS38 hneMS38 ⊢
            generalize (w32).alloc (.cells #[.pointer (some ⟨gN, 0, none⟩)] 84) = w38 at hH38 kbN38 kbM38 kbS38 ⊢
            clear hgg38
            refine hK.out _ _ hH38 (fun _ => ?_)
            try simp only [Act.put, Sa, Sb, Sc, Sd, Se, Sf]
            refine RD 7 rfl (fun K hK => ?_)
            try rw [if_pos (by rfl)]
            obtain ⟨w39, hr39, kbM39, hc39⟩ := MapH.store kbM38 Tryz.underlying88 (by unfold maxLen; omega) hkey (.pointer (some ⟨gN, 0, none⟩))
            rw [← hhl.out] at hr39
            go_simp
            have hH39 : Chg [] w4 w39 := hH38.trans hc39 (by first | (simp; done) | (simp; omega))
            have kbN39 := kbN38.chg hc39 (by simp; omega)
            have kbS39 := kbS38.chg hc39 (by simp; omega)
            refine hK.out _ _ hH39 (fun _ => ?_)
            try simp only [Act.put, Sa, Sb, Sc, Sd, Se, Sf]
            refine TK 8 (.map (some gM32)) rfl hH39 (fun w' hw' => ?_) ?_
            · go_simp
            try simp only [Act.put, Sa, Sb, Sc, Sd, Se, Sf]
            refine TK 11 (.agg (rl ++ [Value.map (some gM32), Value.slice (some ⟨gS38, 0, none⟩) 1 1, Value.int .i64 1]).toArray) rfl hH39 (fun w' hw' => ?_) ?_
            · go_simp
            try simp only [Act.put, Sa, Sb, Sc, Sd, Se, Sf]
            refine RD 12 rfl (fun K hK => ?_)
            rw [if_pos (by rfl)]
            refine op_box 91 35 (by kernel_rfl) (.tmp 34) (by kernel_rfl) rfl ?_
            have kbT40 := Blk.new (w39) (rl ++ [Value.map (some gM32), Value.slice (some ⟨gS38, 0, none⟩) 1 1, Value.int .i64 1]).toArray 91
            have hH40 := hH39.alloc (.cells (rl ++ [Value.map (some gM32), Value.slice (some ⟨gS38, 0, none⟩) 1 1, Value.int .i64 1]).toArray 91)
            have hgeT40 := hH39.size
            have kbN40 := kbN39.alloc (.cells (rl ++ [Value.map (some gM32), Value.slice (some ⟨gS38, 0, none⟩) 1 1, Value.int .i64 1]).toArray 91)
            have hneNT40 := kbN39.lt
            have kbM40 := kbM39.alloc (.cells (rl ++ [Value.map (some gM32), Value.slice (some ⟨gS38, 0, none⟩) 1 1, Value.int .i64 1]).toArray 91)
            have hneMT40 := kbM39.lt
            have kbS40 := kbS39.alloc (.cells (rl ++ [Value.map (some gM32), Value.slice (some ⟨gS38, 0, none⟩) 1 1, Value.int .i64 1]).toArray 91)
            have hneST40 := kbS39.lt
            obtain ⟨gT40, hgg40⟩ : ∃ g, g = (w39).heap.size := ⟨_, rfl⟩
            rw [← hgg40] at kbT40 hgeT40 hneNT40 hneMT40 hneST40 ⊢
            generalize (w39).alloc (.cells (rl ++ [Value.map (some gM32), Value.slice (some ⟨gS38, 0, none⟩) 1 1, Value.int .i64 1]).toArray 91) = w40 at hH40 kbN40 kbM40 kbS40 kbT40 ⊢
            clear hgg40
            refine hK.out _ _ hH40 (fun _ => ?_)
            try simp only [Act.put, Sa, Sb, Sc]
            refine RD 13 rfl (fun K hK => ?_)
            go_simp
            refine hK.out _ _ hH40 (fun _ => ?_)
            try simp only [Act.put, Sa, Sb, Sc, Sd, Se, Sf]
            refine RD 14 rfl (fun K hK => ?_)
            go_simp
            refine hK.out _ _ hH40 (fun _ => ?_)
            try simp only [Act.put, Sa, Sb, Sc, Sd, Se, Sf]
            refine wpAnyH_done (by kernel_rfl) ?_ _
            go_wp2_with fail
            go_meet
            exact ⟨gT40, gM32, gS38, rfl, rfl, kbT40, by simpa using kbM40, kbS40, kbN40, by omega, by omega, by omega, hH40⟩
        · try rw [if_pos (by rfl)]
          go_simp
          have kbS43 := Blk.new (wd31) #[.pointer (some ⟨gN, 0, none⟩)] 84
          have hH43 := hH31.alloc (.cells #[.pointer (some ⟨gN, 0, none⟩)] 84)
          have hgeS43 := hH31.size
          have kbN43 := kdN31.alloc (.cells #[.pointer (some ⟨gN, 0, none⟩)] 84)
          have hneNS43 := kdN31.lt
          obtain ⟨gS43, hgg43⟩ : ∃ g, g = (wd31).heap.size := ⟨_, rfl⟩
          rw [← hgg43] at kbS43 hgeS43 hneNS43 ⊢
          generalize (wd31).alloc (.cells #[.pointer (some ⟨gN, 0, none⟩)] 84) = w43 at hH43 kbN43 kbS43 ⊢
          clear hgg43
          refine hK.out _ _ hH43 (fun _ => ?_)
          try simp only [Act.put, Sa, Sb, Sc, Sd, Se, Sf]
          refine RD 1 rfl (fun K hK => ?_)
          try rw [if_pos (by rfl)]
          go_simp
          have kbM44 := MapH.made (w43)
          have hH44 := hH43.alloc (.map #[] 0)
          have hgeM44 := hH43.size
          have kbN44 := kbN43.alloc (.map #[] 0)
          have hneNM44 := kbN43.lt
          have kbS44 := kbS43.alloc (.map #[] 0)
          have hneSM44 := kbS43.lt
          obtain ⟨gM44, hgg44⟩ : ∃ g, g = (w43).heap.size := ⟨_, rfl⟩
          rw [← hgg44] at kbM44 hgeM44 hneNM44 hneSM44 ⊢
          generalize (w43).alloc (.map #[] 0) = w44 at hH44 kbN44 kbS44 kbM44 ⊢
          clear hgg44
          refine hK.out _ _ hH44 (fun _ => ?_)
          try simp only [Act.put, Sa, Sb, Sc, Sd, Se, Sf]
          refine RD 7 rfl (fun K hK => ?_)
          try rw [if_pos (by rfl)]
          obtain ⟨w45, hr45, kbM45, hc45⟩ := MapH.store kbM44 Tryz.underlying88 (by unfold maxLen; omega) hkey (.pointer (some ⟨gN, 0, none⟩))
          rw [← hhl.out] at hr45
          go_simp
          have hH45 : Chg [] w4 w45 := hH44.trans hc45 (by first | (simp; done) | (simp; omega))
          have kbN45 := kbN44.chg hc45 (by simp; omega)
          have kbS45 := kbS44.chg hc45 (by simp; omega)
          refine hK.out _ _ hH45 (fun _ => ?_)
          try simp only [Act.put, Sa, Sb, Sc, Sd, Se, Sf]
          refine TK 8 (.map (some gM44)) rfl hH45 (fun w' hw' => ?_) ?_
          · go_simp
          try simp only [Act.put, Sa, Sb, Sc, Sd, Se, Sf]
          refine TK 11 (.agg (rl ++ [Value.map (some gM44), Value.slice (some ⟨gS43, 0, none⟩) 1 1, Value.int .i64 1]).toArray) rfl hH45 (fun w' hw' => ?_) ?_
          · go_simp
          try simp only [Act.put, Sa, Sb, Sc, Sd, Se, Sf]
          refine RD 12 rfl (fun K hK => ?_)
          rw [if_pos (by rfl)]
          refine op_box 91 35 (by kernel_rfl) (.tmp 34) (by kernel_rfl) rfl ?_
          have kbT46 := Blk.new (w45) (rl ++ [Value.map (some gM44), Value.slice (some ⟨gS43, 0, none⟩) 1 1, Value.int .i64 1]).toArray 91
          have hH46 := hH45.alloc (.cells (rl ++ [Value.map (some gM44), Value.slice (some ⟨gS43, 0, none⟩) 1 1, Value.int .i64 1]).toArray 91)
          have hgeT46 := hH45.size
          have kbN46 := kbN45.alloc (.cells (rl ++ [Value.map (some gM44), Value.slice (some ⟨gS43, 0, none⟩) 1 1, Value.int .i64 1]).toArray 91)
          have hneNT46 := kbN45.lt
          have kbS46 := kbS45.alloc (.cells (rl ++ [Value.map (some gM44), Value.slice (some ⟨gS43, 0, none⟩) 1 1, Value.int .i64 1]).toArray 91)
          have hneST46 := kbS45.lt
          have kbM46 := kbM45.alloc (.cells (rl ++ [Value.map (some gM44), Value.slice (some ⟨gS43, 0, none⟩) 1 1, Value.int .i64 1]).toArray 91)
          have hneMT46 := kbM45.lt
          obtain ⟨gT46, hgg46⟩ : ∃ g, g = (w45).heap.size := ⟨_, rfl⟩
          rw [← hgg46] at kbT46 hgeT46 hneNT46 hneST46 hneMT46 ⊢
          generalize (w45).alloc (.cells (rl ++ [Value.map (some gM44), Value.slice (some ⟨gS43, 0, none⟩) 1 1, Value.int .i64 1]).toArray 91) = w46 at hH46 kbN46 kbS46 kbM46 kbT46 ⊢
          clear hgg46
          refine hK.out _ _ hH46 (fun _ => ?_)
          try simp only [Act.put, Sa, Sb, Sc]
          refine RD 13 rfl (fun K hK => ?_)
          go_simp
          refine hK.out _ _ hH46 (fun _ => ?_)
          try simp only [Act.put, Sa, Sb, Sc, Sd, Se, Sf]
          refine RD 14 rfl (fun K hK => ?_)
          go_simp
          refine hK.out _ _ hH46 (fun _ => ?_)
          try simp only [Act.put, Sa, Sb, Sc, Sd, Se, Sf]
          refine wpAnyH_done (by kernel_rfl) ?_ _
          go_wp2_with fail
          go_meet
          exact ⟨gT46, gM44, gS43, rfl, rfl, kbT46, by simpa using kbM46, kbS46, kbN46, by omega, by omega, by omega, hH46⟩
      case rest =>
        obtain ⟨gT, gM, gS, rfl, rfl, bT, bM, bS, bN, h1, h2, h3, k5⟩ := hcut
        have kf := k04.trans k5 (by simp)
        go_wp2
        exact bodyPost_ret (v := .tuple #[.pointer (some ⟨gT, 0, none⟩), .int .i64 0]) (by simp [results, Tryz.results10, go_sem]) rfl ⟨kf, gT, rfl, gM, gS, bT, gN, bS, 1, bM, rfl, hnc.out ▸ bN, by omega, by omega, by omega, by omega⟩
  · have hb : (ce == 0) = false := by simp [he]
    go_wp2
    exact bodyPost_ret (v := .tuple #[.pointer none, .int .i64 ce]) (by simp [results, Tryz.results10, go_sem]) rfl ⟨k01, .inl ⟨he, rfl⟩⟩
end Go.Proofs.YtmkgbinmilcojaaGreat
