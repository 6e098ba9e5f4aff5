/- The order of due.Over: first due, first told. -/
import Derived.Test.YtbagkfeodjkdmaaDue
import Derived.Test.YtbagkfeodjkdmaaRows0
import Derived.StillTailTactics
import Derived.StillTactics
import Derived.Sort.Grow
namespace Go.Proofs.Ytbagkfeodjkdmaa
open Go.RowKit Go.Maps Go.Shelf

def cmpI (x y : Int) : Int := if x < y then -1 else if y < x then 1 else 0

set_option maxHeartbeats 400000 in
theorem isNaN_u64 (x : Int) (w : World) : Calls Try.prog 135 #[.int .u64 x] w fun e w' => e = .returned (.bool false) ∧ w' = w := by
  go_enter Try.func135, Try.ntmps135
  go_wp2
  go_ret
  exact ⟨by simp, rfl⟩
set_option maxHeartbeats 1000000 in
theorem compare_u64 (x y : Int) (w : World) : Calls Try.prog 81 #[.int .u64 x, .int .u64 y] w fun e w' => e = .returned (.int .i64 (cmpI x y)) ∧ w' = w := by
  unfold cmpI
  by_cases h1 : x < y
  · rw [if_pos h1]
    go_enter Try.func81, Try.ntmps81
    go_wp2_with (go_at_call 135; refine (isNaN_u64 _ _).mono ?_; rintro e w' ⟨rfl, rfl⟩)
    go_ret
    exact ⟨rfl, rfl⟩
  · rw [if_neg h1]
    by_cases h2 : y < x
    · rw [if_pos h2]
      go_enter Try.func81, Try.ntmps81
      go_wp2_with (go_at_call 135; refine (isNaN_u64 _ _).mono ?_; rintro e w' ⟨rfl, rfl⟩)
      go_ret
      exact ⟨rfl, rfl⟩
    · rw [if_neg h2]
      go_enter Try.func81, Try.ntmps81
      go_wp2_with (go_at_call 135; refine (isNaN_u64 _ _).mono ?_; rintro e w' ⟨rfl, rfl⟩)
      go_ret
      exact ⟨rfl, rfl⟩

set_option maxHeartbeats 1000000 in
theorem or_two (a b : Int) (k : Nat) (t : TypeId) (w : World) (hb : Blk w k #[.int .i64 a, .int .i64 b] t) :
    Calls Try.prog 80 #[.slice (some ⟨k, 0, none⟩) 2 2] w fun e w' => e = .returned (.int .i64 (if a = 0 then b else a)) ∧ w' = w := by
  have c0 := hb.cell 0 (v := .int .i64 a) rfl
  have c1 := hb.cell 1 (v := .int .i64 b) rfl
  by_cases h1 : a = 0
  · rw [if_pos h1]
    subst h1
    by_cases h2 : b = 0
    · subst h2
      go_enter Try.func80, Try.ntmps80
      go_wp2
      refine wp_loop_rounds 3 ?_
      repeat (rw [rounds_succ]; go_wp2)
      go_ret
      exact ⟨rfl, rfl⟩
    · have h3 : (b == 0) = false := by simpa using h2
      go_enter Try.func80, Try.ntmps80
      go_wp2
      refine wp_loop_rounds 3 ?_
      repeat (rw [rounds_succ]; go_wp2)
      go_ret
      exact ⟨rfl, rfl⟩
  · rw [if_neg h1]
    have h3 : (a == 0) = false := by simpa using h1
    go_enter Try.func80, Try.ntmps80
    go_wp2
    refine wp_loop_rounds 3 ?_
    repeat (rw [rounds_succ]; go_wp2)
    go_ret
    exact ⟨rfl, rfl⟩

/-- when a number's thing is due. -/
def Tab.dueOf (T : Tab) (k : Int) : Int := ((T.f k).getD (⟨#[]⟩, 0)).2
def Tab.xOf (T : Tab) (k : Int) : ByteArray := ((T.f k).getD (⟨#[]⟩, 0)).1
theorem TabAt.look {w : World} {p mb : Nat} {T : Tab} (h : TabAt w p mb T) {k : Int} (hk : (Lit.int .u64 k).wf = true) : (Instr.lookup 140 (.map (some mb)) (.int .u64 k) false).run Try.prog w = .ok (.agg #[.string (T.xOf k), .int .u64 (T.dueOf k)]) w := by
  have := h.map.look Try.underlying23 (t := 140) (E := 144) Try.underlying140 (zEntry _) hk
  rw [this]
  unfold Tab.xOf Tab.dueOf
  cases T.f k <;> rfl

theorem entry_due (s : ByteArray) (d : Int) (w : World) : (Instr.field 144 (.agg #[.string s, .int .u64 d]) 1).run Try.prog w = .ok (.int .u64 d) w := by kernel_rfl
/-- first due, first told. -/
def Tab.cf (T : Tab) (x y : Int) : Int := if cmpI (T.dueOf x) (T.dueOf y) = 0 then cmpI x y else cmpI (T.dueOf x) (T.dueOf y)

set_option maxRecDepth 100000 in
set_option maxHeartbeats 2000000 in
theorem due_Over1 (B p mb : Nat) (T : Tab) (x y : Int) (w : World) (hB : Blk w B #[.pointer (some ⟨p, 0, none⟩)] 25) (h : TabAt w p mb T) (hx : (Lit.int .u64 x).wf = true) (hy : (Lit.int .u64 y).wf = true) :
    Calls Try.prog 79 #[.int .u64 x, .int .u64 y, .pointer (some ⟨B, 0, none⟩)] w fun e w' => e = .returned (.int .i64 (T.cf x y)) ∧ ∃ q os, w' = Sort.grow (w.drewN q) os := by
  have b0 := hB.cell 0 (v := .pointer (some ⟨p, 0, none⟩)) rfl
  have c2 := h.blk.cell 2 (v := .map (some mb)) rfl
  have hd : TabAt w.drew p mb T := h.same ((Chg.refl [] w).drew)
  have l1 := hd.look hx
  have l2 := hd.look hy
  have l3 := entry_due (T.xOf x) (T.dueOf x) w.drew
  have l4 := entry_due (T.xOf y) (T.dueOf y) w.drew
  have q1 := compare_u64 (T.dueOf x) (T.dueOf y) w.drew
  have q2 := compare_u64 x y w.drew
  have hnew := Blk.new w.drew #[.int .i64 (cmpI (T.dueOf x) (T.dueOf y)), .int .i64 (cmpI x y)] 3
  have q3 := or_two (cmpI (T.dueOf x) (T.dueOf y)) (cmpI x y) w.drew.heap.size 3 _ hnew
  unfold Tab.cf
  generalize cmpI (T.dueOf x) (T.dueOf y) = u at *
  generalize cmpI x y = v at *
  go_enter Try.func79, Try.ntmps79
  go_wp2
  refine wp_region_still_tail 18 (by kernel_rfl) (by kernel_rfl) ?_
  simp only [List.take_succ_cons, List.take_zero, List.drop_succ_cons, List.drop_zero]
  repeat still_step
  still_call q1
  repeat still_step
  still_call q2
  refine wpStill_nil ?_
  go_wp2_with (go_at_call 80; refine q3.mono ?_; rintro e w' ⟨rfl, rfl⟩)
  all_goals
    go_ret
    exact ⟨rfl, 1, _, Sort.alloc_eq_grow (w.drewN 1) _⟩
end Go.Proofs.Ytbagkfeodjkdmaa
