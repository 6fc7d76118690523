/-
  Contracts of words.Queue: Push, Pop, Len over rows. (Printed by a program of this session over its walk printer.)
-/
import Derived.Test.YtnhfmmohdiccgaaQueueB
namespace Go.Proofs.Ytnhfmmohdiccgaa
open Go.Sym Plain
set_option linter.unusedVariables false
set_option maxRecDepth 20000

/-- A queue's own block, its row told by a handle. -/
abbrev QBr (q : Nat) (qr : Row) (m : Nat) (room : Int) : Ent := ⟨q, 65, [qr.val m, .int .i64 room]⟩
theorem qlen_row (q : Nat) (qr : Row) (vs : List Int) (room : Int) (w : World) (hok : qr.ok (vs.map IV)) (h : Hp w [q] [QBr q qr vs.length room] w) :
    Calls Try.prog 33 [.pointer (some ⟨q, 0, none⟩)].toArray w fun r w' => r = .returned (.int .i64 (vs.length : Int)) ∧ Hp w [] [] w' := by
  obtain ⟨p, c, hv, _⟩ := qr.slice (vs.map IV) hok
  rw [List.length_map] at hv
  rw [QBr, hv] at h
  refine (qlen_any q p vs.length c room w h).mono fun r w' hr => ⟨hr.1, ?_⟩
  have h2 := hr.2
  have hg := Hp.grown (L := [QB q p vs.length c room]) h.lies h2
  exact ⟨hg.os, hg.tape, hg.output, hg.size, fun k hk _ => hg.block k hk (by simp), (fun _ h => by cases h), List.nodup_nil⟩
theorem push_row_full (q : Nat) (qr : Row) (vs : List Int) (v : Int) (w : World) (hok : qr.ok (vs.map IV)) (h : Hp w [q] [QBr q qr vs.length (vs.length : Int)] w) :
    Calls Try.prog 31 [.pointer (some ⟨q, 0, none⟩), IV v].toArray w fun r w' => r = .returned (.bool false) ∧ Hp w [q] [QBr q qr vs.length (vs.length : Int)] w' := by
  obtain ⟨p, c, hv, _⟩ := qr.slice (vs.map IV) hok
  rw [List.length_map] at hv
  rw [QBr, hv] at h ⊢
  exact push_full q p vs.length c v w h
theorem push_row (q : Nat) (qr : Row) (vs : List Int) (room v : Int) (w : World) (hok : qr.ok (vs.map IV)) (hm : vs.length ≤ 1000) (hr : room ≠ (vs.length : Int)) (h : Hp w ((QBr q qr vs.length room :: qr.blk 3 (vs.map IV)).map (·.g)) (QBr q qr vs.length room :: qr.blk 3 (vs.map IV)) w) :
    Calls Try.prog 31 [.pointer (some ⟨q, 0, none⟩), IV v].toArray w fun r w' => ∃ qr' : Row, r = .returned (.bool true) ∧ Hp w ((QBr q qr vs.length room :: qr.blk 3 (vs.map IV)).map (·.g)) (QBr q qr' (vs.length + 1) room :: qr'.blk 3 ((vs ++ [v]).map IV)) w' ∧ qr'.ok ((vs ++ [v]).map IV) := by
  match qr, hok, h with
  | none, hok, h =>
    obtain rfl : vs = [] := by
      have : vs.map IV = [] := hok
      simpa using this
    exact (push_nil q room v w (by simpa using hr) h).mono fun r w' ⟨x, h1, h2, h3⟩ => ⟨some x, h1, h2, h3⟩
  | some (g, c, junk), hok, h =>
    refine (push_own q g vs.length c (vs.map IV) junk room v w (by simp) hok (by omega) hr h).mono fun r w' ⟨x, h1, h2, h3⟩ => ⟨some x, h1, ?_, ?_⟩
    · rw [List.map_append]; exact h2
    · rw [List.map_append]; exact h3
theorem pop_row_empty (q : Nat) (qr : Row) (room : Int) (w : World) (hok : qr.ok []) (h : Hp w [q] [QBr q qr 0 room] w) :
    Calls Try.prog 32 [.pointer (some ⟨q, 0, none⟩)].toArray w fun r w' => r = .returned (.tuple #[IV 0, .bool false]) ∧ Hp w [q] [QBr q qr 0 room] w' := by
  obtain ⟨p, c, hv, _⟩ := qr.slice [] hok
  rw [List.length_nil] at hv
  rw [QBr, hv] at h ⊢
  exact pop_empty q p c room w h
theorem pop_row (q : Nat) (qr : Row) (u : Int) (vs : List Int) (room : Int) (w : World) (hok : qr.ok ((u :: vs).map IV)) (hm : vs.length ≤ 1000) (h : Hp w ((QBr q qr (vs.length + 1) room :: qr.blk 3 ((u :: vs).map IV)).map (·.g)) (QBr q qr (vs.length + 1) room :: qr.blk 3 ((u :: vs).map IV)) w) :
    Calls Try.prog 32 [.pointer (some ⟨q, 0, none⟩)].toArray w fun r w' => ∃ qr' : Row, r = .returned (.tuple #[IV u, .bool true]) ∧ Hp w ((QBr q qr (vs.length + 1) room :: qr.blk 3 ((u :: vs).map IV)).map (·.g)) (QBr q qr' vs.length room :: qr'.blk 3 (vs.map IV)) w' ∧ qr'.ok (vs.map IV) := by
  match qr, hok, h with
  | none, hok, h =>
    have : (u :: vs).map IV = [] := hok
    simp at this
  | some (g, c, junk), hok, h =>
    exact (pop_own q g vs.length c u (vs.map IV) junk room w (by simp) hok (fun x hx => by obtain ⟨y, _, rfl⟩ := List.mem_map.1 hx; rfl) (by omega) h).mono fun r w' ⟨x, h1, h2, h3⟩ => ⟨some x, h1, h2, h3⟩
end Go.Proofs.Ytnhfmmohdiccgaa
