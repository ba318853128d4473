/- StreamsNone, walked. -/
import Derived.Test.YthobhkmphjnlaaaStrH
namespace Go.Proofs.Ythobhkmphjnlaaa
open Go.RowKit
set_option linter.unusedVariables false
set_option linter.unusedSimpArgs false

set_option maxRecDepth 100000 in
set_option maxHeartbeats 1000000 in
theorem Try_none (w : World) (s : ByteArray) (n : Int) (k : ByteArray) :
    Calls Try.prog 17 #[.pointer none, .string s, .int .i64 n, .string k, .slice none 0 0] w fun e w' => e = .returned (.tuple #[.agg #[.int .i64 0, .int .i64 0, .int .i64 0, .bool false], .agg #[.string ⟨#[]⟩, .string ⟨#[]⟩, .int .i64 0, .slice none 0 0], .int .i64 1]) ∧ Ext w w' := by
  go_enter Try.func17, Try.ntmps17
  go_wp2_with fail
  exact bodyPost_ret (v := .tuple #[.agg #[.int .i64 0, .int .i64 0, .int .i64 0, .bool false], .agg #[.string ⟨#[]⟩, .string ⟨#[]⟩, .int .i64 0, .slice none 0 0], .int .i64 1]) (by simp [results, Try.results17, go_sem]) rfl ⟨rfl, by show Ext w _; (· repeat (first | (with_reducible assumption) | exact Ext.refl _ | refine Ext.alloc ?_ _ | refine Ext.drew ?_ | refine Ext.drewN ?_ _ | (apply Ext.snart; (with_reducible assumption))))⟩
set_option maxRecDepth 100000 in
set_option maxHeartbeats 1000000 in
theorem Stream_none (w : World) (s : ByteArray) (n m : Int) :
    Calls Try.prog 36 #[.pointer none, .string s, .int .i64 n, .int .i64 m] w fun e w' => e = .returned (.tuple #[.slice none 0 0, .int .i64 1]) ∧ w = w' := by
  go_enter Try.func36, Try.ntmps36
  go_wp2_with fail
  go_ret2
  exact ⟨rfl, rfl⟩
set_option maxRecDepth 100000 in
set_option maxHeartbeats 1000000 in
theorem All_none (w : World) (n m : Int) :
    Calls Try.prog 25 #[.pointer none, .int .i64 n, .int .i64 m] w fun e w' => e = .returned (.tuple #[.slice none 0 0, .int .i64 1]) ∧ w = w' := by
  go_enter Try.func25, Try.ntmps25
  go_wp2_with fail
  go_ret2
  exact ⟨rfl, rfl⟩
set_option maxRecDepth 100000 in
set_option maxHeartbeats 1000000 in
theorem Keyed_none (w : World) (k : ByteArray) :
    Calls Try.prog 21 #[.pointer none, .string k] w fun e w' => e = .returned (.tuple #[.string ⟨#[]⟩, .agg #[.int .i64 0, .int .i64 0, .int .i64 0, .bool false], .bool false]) ∧ Ext w w' := by
  go_enter Try.func21, Try.ntmps21
  go_wp2_with fail
  exact bodyPost_ret (v := .tuple #[.string ⟨#[]⟩, .agg #[.int .i64 0, .int .i64 0, .int .i64 0, .bool false], .bool false]) (by simp [results, Try.results21, go_sem]) rfl ⟨rfl, by show Ext w _; (· repeat (first | (with_reducible assumption) | exact Ext.refl _ | refine Ext.alloc ?_ _ | refine Ext.drew ?_ | refine Ext.drewN ?_ _ | (apply Ext.snart; (with_reducible assumption))))⟩
set_option maxRecDepth 100000 in
set_option maxHeartbeats 1000000 in
theorem Add_none (w : World) :
    Calls Try.prog 18 #[.pointer none, .agg #[.string ⟨#[]⟩, .string ⟨#[]⟩, .int .i64 0, .slice none 0 0]] w fun e w' => e = .returned (.int .i64 1) ∧ Ext w w' := by
  go_enter Try.func18, Try.ntmps18
  go_wp2_with fail
  go_ret
  exact ⟨rfl, by show Ext w _; (· repeat (first | (with_reducible assumption) | exact Ext.refl _ | refine Ext.alloc ?_ _ | refine Ext.drew ?_ | refine Ext.drewN ?_ _ | (apply Ext.snart; (with_reducible assumption))))⟩
set_option maxRecDepth 100000 in
set_option maxHeartbeats 1000000 in
theorem Len_none (w : World) : Calls Try.prog 20 #[.pointer none] w fun e w' => e = .returned (.int .i64 0) ∧ w = w' := by
  go_enter Try.func20, Try.ntmps20
  go_wp2_with fail
  go_ret
  exact ⟨rfl, rfl⟩
set_option maxRecDepth 100000 in
set_option maxHeartbeats 1000000 in
theorem Version_none (w : World) (s : ByteArray) : Calls Try.prog 16 #[.pointer none, .string s] w fun e w' => e = .returned (.int .i64 0) ∧ w = w' := by
  go_enter Try.func16, Try.ntmps16
  go_wp2_with fail
  go_ret
  exact ⟨rfl, rfl⟩
set_option maxRecDepth 100000 in
set_option maxHeartbeats 1000000 in
theorem Names_none (w : World) : Calls Try.prog 35 #[.pointer none] w fun e w' => e = .returned (.slice none 0 0) ∧ w = w' := by
  go_enter Try.func35, Try.ntmps35
  go_wp2_with fail
  go_ret
  exact ⟨rfl, rfl⟩

set_option maxRecDepth 100000 in
set_option maxHeartbeats 4000000 in
theorem streamsNone_walk (w : World) (s : ByteArray) (hs : s.size ≤ 140737488351232) (n : Int) (hn : -9223372036854775808 ≤ n ∧ n ≤ 9223372036854775807) :
    Calls Try.prog 13 #[.string s, .int .i64 n] w fun e w' => e = .returned (.bool true) ∧ Below w.heap.size w w' := by
  obtain ⟨hn1, hn2⟩ := hn
  go_enter Try.func13, Try.ntmps13
  go_wp2_with fail
  refine (awake10_any w).mono ?_
  rintro e w1 ⟨rfl, hx1⟩
  go_wp2_with fail
  refine (Try_none w1 s n s).mono ?_
  rintro e w2 ⟨rfl, hx2⟩
  have hx12 := hx1.trans hx2
  go_wp2_with (first | (go_at_call 36; go_must (refine (Stream_none _ s n n).mono ?_; rintro e w' ⟨rfl, rfl⟩)) | (go_at_call 25; go_must (refine (All_none _ n n).mono ?_; rintro e w' ⟨rfl, rfl⟩)))
  refine (Keyed_none _ s).mono ?_
  rintro e w3 ⟨rfl, hx3⟩
  have hx3 : Ext w2 w3 := (show Ext w2 _ by (· repeat (first | (with_reducible assumption) | exact Ext.refl _ | refine Ext.alloc ?_ _ | refine Ext.drew ?_ | refine Ext.drewN ?_ _ | (apply Ext.snart; (with_reducible assumption))))).trans hx3
  go_wp2_with fail
  refine (Add_none _).mono ?_
  rintro e w4 ⟨rfl, hx4⟩
  have hr := (Below.block hx4 w3.heap.size (by simp)).trans (heap_alloc_new w3 (.cells #[.int .i64 0, .int .i64 0, .int .i64 0, .bool false] 29))
  have p0 : w4.cell? ⟨w3.heap.size, 0, none⟩ = some (.int .i64 0) := (cell_of_row _ _ 0 _ _ _ hr).trans rfl
  have p1 : w4.cell? ⟨w3.heap.size, 1, none⟩ = some (.int .i64 0) := (cell_of_row _ _ 1 _ _ _ hr).trans rfl
  have p2 : w4.cell? ⟨w3.heap.size, 2, none⟩ = some (.int .i64 0) := (cell_of_row _ _ 2 _ _ _ hr).trans rfl
  have p3 : w4.cell? ⟨w3.heap.size, 3, none⟩ = some (.bool false) := (cell_of_row _ _ 3 _ _ _ hr).trans rfl
  have hx34 : Ext w3 w4 := (show Ext w3 _ by (· repeat (first | (with_reducible assumption) | exact Ext.refl _ | refine Ext.alloc ?_ _ | refine Ext.drew ?_ | refine Ext.drewN ?_ _ | (apply Ext.snart; (with_reducible assumption))))).trans hx4
  clear hr hx4
  go_wp2_with (first | (go_at_call 20; go_must (refine (Len_none _).mono ?_; rintro e w' ⟨rfl, rfl⟩)) | (go_at_call 16; go_must (refine (Version_none _ s).mono ?_; rintro e w' ⟨rfl, rfl⟩)) | (go_at_call 35; go_must (refine (Names_none _).mono ?_; rintro e w' ⟨rfl, rfl⟩)))
  go_ret
  exact ⟨rfl, hx12.trans (hx3.trans hx34)⟩
end Go.Proofs.Ythobhkmphjnlaaa
