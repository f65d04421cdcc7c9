/- The lexer's scanner in memory, and what each of its methods does to it. -/
import Derived.Test.YthpilhmfcbdeiaaDoorBase
namespace Go.Proofs.YthpilhmfcbdeiaaDoor
open Go.RowKit
/-- A token. -/
structure Tok where
  kind : Int
  text : ByteArray
  num : Int
  line : Int
  deriving DecidableEq
def Tok.cells (t : Tok) : List Value := [.int .i64 t.kind, .string t.text, .int .i64 t.num, .int .i64 t.line]
def toks (l : List Tok) : List Value := l.flatMap Tok.cells
theorem toks_append (l : List Tok) (t : Tok) : toks (l ++ [t]) = toks l ++ t.cells := by simp [toks]
def nx (f b : Nat) : Value := .func (.func f) #[.pointer (some ⟨b, 0, none⟩)] #[]
/-- The scanner in block b: what comes next (a function's number), its tokens, its text, its line, the bad line. -/
def ScAt (B b f : Nat) (out : List Tok) (txt : List Int) (l bd : Int) (w : World) : Prop :=
  ∃ vo vt, True ∧ w.heap[b]? = some (.cells #[nx f b, vo, vt, .int .i64 l, .int .i64 bd] 52 (0, 0)) ∧ w.ownsRow B 40 4 vo out.length (toks out) ∧ w.ownsRow B 21 1 vt txt.length (txt.map (Value.int .i32))
theorem infoTok : (Tryd.prog.info? 40).map (fun i => (i.zero, i.size, i.bytes)) = some (some (.agg #[(.int .i64 0), (.string ⟨#[]⟩), (.int .i64 0), (.int .i64 0)]), 4, 40) := by kernel_rfl
theorem infoRune : (Tryd.prog.info? 21).map (fun i => (i.zero, i.size, i.bytes)) = some (some (.int .i32 0), 1, 4) := by kernel_rfl
set_option maxHeartbeats 1000000 in
theorem emit_any (B b f : Nat) (out : List Tok) (txt : List Int) (l bd : Int) (k : Int) (s : ByteArray) (n l0 : Int) (w : World) (hB : B ≤ w.heap.size) (h : ScAt B b f out txt l bd w) (hlen : out.length < 1000000000) :
    Calls Tryd.prog 20 #[.pointer (some ⟨b, 0, none⟩), .agg #[.int .i64 k, .string s, .int .i64 n, .int .i64 l0]] w fun e w' => e = .returned (.tuple #[]) ∧ ScAt B b f (out ++ [⟨k, s, n, l⟩]) txt l bd w' ∧ But B b w w' := by
  obtain ⟨vo, vt, hb, hh, ho, ht⟩ := h
  obtain ⟨i0, hi, hz0, hz1, hz2⟩ := info_parts infoTok
  have c1 := cell_of hh 1 _ rfl
  have c3 := cell_of hh 3 _ rfl
  have f1 := free_of hh 1
  have hlt := lt_of hh
  go_enter Tryd.func20, Tryd.ntmps20
  go_wp2
  go_region_law ((refine step_append_lies _ (by rfl) _ _ _ (by rfl) B 40 i0 _ 4 40 Tryd.underlying27 hi hz0 hz1 hz2 rfl (by omega) vo _ _ (by rfl) (((ho.alloc _).alloc _).drew) ⟨w.heap.size + 1, 0, none⟩ 1 1 (Tok.cells ⟨k, s, n, l⟩) (by rfl) (by rfl) (World.news_of_block (hp_drew (hp_new (w.alloc _) _ (by simp)))) (by simp [Tok.cells, Value.oneCell']) (by omega) (by unfold maxLen; omega) (by omega) (by simp; omega) (w.heap.size + 2) (by simp) ?_; intro gg cap w1 hown1 hgrow hat hlt1; have hh1 := hp_grown hgrow (hp_drew (hp_old _ (hp_old _ hh))) (own_ne ho hh (by decide)); have g1 := free_of hh1 1; have g2 := cell_of hh1 1 _ rfl; have bel := But.own (((But.refl B b w).alloc hB _).alloc (by simp; omega) _).drew hgrow (by simp; omega) (((ho.alloc _).alloc _).drew); have ht1 := ((ht.alloc _).alloc _).drew.kept hgrow (own_ne2 ht ho (by decide))))
  all_goals
    go_end0
    exact ⟨rfl, ⟨_, vt, hb, hp_set hh1 1 _, by rw [toks_append, List.length_append]; exact own_set hown1 _ (own_ne hown1 hh1 (by decide)), own_set ht1 _ (own_ne ht1 hh1 (by decide))⟩, bel.set _ _⟩
end Go.Proofs.YthpilhmfcbdeiaaDoor
