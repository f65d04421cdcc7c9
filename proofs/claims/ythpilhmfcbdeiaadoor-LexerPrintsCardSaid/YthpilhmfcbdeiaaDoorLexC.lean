/- The lexer's model (a scanner as plain data), and its methods' contracts. -/
import Derived.Test.YthpilhmfcbdeiaaDoorLexB
import Derived.Test.YthpilhmfcbdeiaaDoorRune
import Derived.Laws.BytesString
set_option linter.unusedVariables false
set_option linter.unusedSimpArgs false
namespace Go.Proofs.YthpilhmfcbdeiaaDoor
open Go.RowKit
/-- The bytes of some runes. -/
def encAll (xs : List Int) : ByteArray := xs.foldl (fun r n => r ++ Utf8.encode n) ByteArray.empty
theorem run_forIn_runes {P : Program} {w : World} (f : Value → ByteArray → Sem (ForInStep ByteArray))
    (hf : ∀ (n : Int) (r : ByteArray), (f (.int .i32 n) r).run P w = .ok (.yield (r ++ Utf8.encode n)) w) :
    ∀ (ns : List Int) (s : ByteArray), (forIn (ns.map (Value.int .i32)) s f).run P w = .ok (ns.foldl (fun r n => r ++ Utf8.encode n) s) w := by
  intro ns
  induction ns with
  | nil => intro s; simp [Sem.run_pure]
  | cons n ns ih =>
    intro s
    simp only [List.map_cons, List.forIn_cons, Sem.run_bind, hf, Result.andThen, List.foldl_cons]
    exact ih _
theorem run_runesToString {P : Program} (w : World) (a : Addr) (len cap : Nat) (ns : List Int)
    (h : (loadCells a len).run P w = .ok (ns.map (Value.int .i32)).toArray w) :
    (Conv.runesToString (.slice (some a) len cap)).run P w = .ok (.string (encAll ns)) w := by
  unfold Conv.runesToString
  simp only [Sem.run_bind, h, Result.andThen, List.forIn_toArray]
  rw [run_forIn_runes _ (by intro n r; simp [Sem.run_pure])]
  simp [Sem.run_pure, encAll]
theorem run_convert_runes {P : Program} (w : World) (src dst e : TypeId) (hs : P.underlying src = some (.slice e)) (he : P.underlying e = some (.int .i32)) (hd : P.underlying dst = some .string)
    {B : Nat} {e' : TypeId} {v : Value} {xs : List Int} (h : w.ownsRow B e' 1 v xs.length (xs.map (Value.int .i32))) : (convert src dst v).run P w = .ok (.string (encAll xs)) w := by
  rcases h.2 with ⟨rfl, h0⟩ | ⟨g, cap, cur, rfl, _⟩
  · obtain rfl : xs = [] := List.eq_nil_of_length_eq_zero h0
    simp [convert, run_underlying hs, run_underlying hd, run_underlying he, Conv.runesToString, encAll]
  · have hc := run_loadCells_list (P := P) (w := w) ⟨g, 0, none⟩ (xs.map (Value.int .i32)) (h.cells (g := g) rfl)
    rw [List.length_map] at hc
    simp only [convert, run_underlying hs, run_underlying hd, run_underlying he, Sem.run_bind, Result.andThen]
    exact run_runesToString w ⟨g, 0, none⟩ xs.length cap xs hc
/-- What the scanner awaits. -/
inductive St where
  | between | remark | word | number
  deriving DecidableEq
def St.f : St → Nat
  | .between => 15
  | .remark => 19
  | .word => 22
  | .number => 24
structure Sc where
  st : St
  out : List Tok
  txt : List Int
  line : Int
  bad : Int
def Sc.At (B b : Nat) (s : Sc) (w : World) : Prop := ScAt B b s.st.f s.out s.txt s.line s.bad w
def blanks : ByteArray := ⟨#[32, 9, 13]⟩
def marks : ByteArray := ⟨#[40, 41, 123, 125, 91, 93, 44, 58, 59, 61, 47, 46]⟩
theorem blanks_ascii : ∀ j (h : j < blanks.size), (blanks[j]'h).toNat < 128 := by decide
theorem marks_ascii : ∀ j (h : j < marks.size), (marks[j]'h).toNat < 128 := by decide
def Sc.emit (s : Sc) (k : Int) (t : ByteArray) (n : Int) : Sc := { s with out := s.out ++ [⟨k, t, n, s.line⟩] }
/-- Does the last token end no line? -/
def openLine (out : List Tok) : Bool := match out.getLast? with | some t => t.kind != 4 | none => false
def Sc.feed (s : Sc) : Sc := let s1 := if openLine s.out then s.emit 4 (Utf8.encode 10) 0 else s; { s1 with line := s1.line + 1 }
def Sc.between (s : Sc) (c : Int) : Sc :=
  if hasRune blanks c then s else if c = 35 then { s with st := .remark } else if c = 10 then s.feed
  else if isLetter c then { s with txt := [c], st := .word } else if isDigit c || c == 45 then { s with txt := [c], st := .number }
  else if hasRune marks c then s.emit 3 (Utf8.encode c) 0 else { s with bad := badOf s.bad s.line }
theorem ScAt.below {B b f : Nat} {out : List Tok} {txt : List Int} {l bd : Int} {w w' : World} (h : ScAt B b f out txt l bd w) (hb : Below w.heap.size w w') : ScAt B b f out txt l bd w' := by
  obtain ⟨vo, vt, hB, hh, ho, ht⟩ := h
  exact ⟨vo, vt, hB, hp_below hb hh (lt_of hh), own_kept ho (fun k hk => hb.block k (ho.lt k hk).2), own_kept ht (fun k hk => hb.block k (ht.lt k hk).2)⟩
theorem toks_length (l : List Tok) : (toks l).length = l.length * 4 := by
  induction l with
  | nil => rfl
  | cons t l ih => simp [toks, Tok.cells] at ih ⊢; omega
theorem toks_last (l : List Tok) (t : Tok) : (toks (l ++ [t]))[l.length * 4]? = some (.int .i64 t.kind) := by
  rw [toks_append, List.getElem?_append_right (by rw [toks_length]; exact Nat.le_refl _), toks_length]
  simp [Tok.cells]
set_option maxHeartbeats 1000000 in
theorem between_feed (B b : Nat) (s : Sc) (w : World) (hB : B ≤ w.heap.size) (h : s.At B b w) (hlen : s.out.length < 1000000000) (h0 : 0 ≤ s.line) (h1 : s.line < 1000000000) :
    Calls Tryd.prog 15 #[.pointer (some ⟨b, 0, none⟩), .int .i32 10] w fun e w' => e = .returned (.tuple #[]) ∧ s.feed.At B b w' ∧ But B b w w' := by
  obtain ⟨st, out, txt, l, bd⟩ := s
  have hbk : hasRune blanks 10 = false := by decide
  have H := Lib.hid h
  clear h
  go_enter Tryd.func15, Tryd.ntmps15
  go_wp2_with fail
  refine (containsRune_any blanks blanks_ascii (by decide) _ (by omega) _).mono ?_
  rintro e w1 ⟨rfl, hb1⟩
  have HB := Lib.hid hb1
  obtain ⟨vo, vt, hb, hh, ho, ht⟩ := H.out.below hb1
  clear hb1
  rw [hbk]
  have c3 := cell_of hh 3 _ rfl
  have f3 := free_of hh 3
  have HO := Lib.hid ho
  have HT := Lib.hid ht
  clear ht
  rcases List.eq_nil_or_concat out with rfl | ⟨out0, t, he⟩
  · obtain ⟨A, cp, rfl⟩ := own_slice ho
    have c1 := cell_of hh 1 _ rfl
    clear ho
    go_wp2_with fail
    go_end0
    exact ⟨rfl, ⟨_, _, hb, hp_set hh 3 _, own_set HO.out _ (own_ne HO.out hh (by decide)), own_set HT.out _ (own_ne HT.out hh (by decide))⟩, (But.low hB HB.out).set _ _⟩
  · rw [List.concat_eq_append] at he
    subst he
    have hl0 : out0.length < 1000000000 := by simp at hlen; omega
    obtain ⟨g, cap, rfl, hg, hgl⟩ := ho.form (by simp)
    have c1 := cell_of hh 1 _ rfl
    have ck := ho.cellAt (out0.length * 4) (by simp)
    rw [toks_last] at ck
    clear ho
    by_cases hk : t.kind = 4
    · have hop : openLine (out0 ++ [t]) = false := by simp [openLine, hk]
      have hfd : Sc.feed ⟨st, out0 ++ [t], txt, l, bd⟩ = ⟨st, out0 ++ [t], txt, l + 1, bd⟩ := by simp [Sc.feed, hop]
      have HF := Lib.hid hfd
      clear hop hfd hlen
      go_wp2_with fail
      go_end0
      rw [HF.out]
      exact ⟨rfl, ⟨_, _, hb, hp_set hh 3 _, own_set HO.out _ (own_ne HO.out hh (by decide)), own_set HT.out _ (own_ne HT.out hh (by decide))⟩, (But.low hB HB.out).set _ _⟩
    · have hop : openLine (out0 ++ [t]) = true := by simp [openLine, hk]
      have hfd : Sc.feed ⟨st, out0 ++ [t], txt, l, bd⟩ = ⟨st, out0 ++ [t] ++ [⟨4, Utf8.encode 10, 0, l⟩], txt, l + 1, bd⟩ := by simp [Sc.feed, hop, Sc.emit]
      have HF := Lib.hid hfd
      have HL := Lib.hid hlen
      clear hop hfd hlen
      go_wp2_with fail
      refine (emit_any B b st.f (out0 ++ [t]) txt l bd 4 _ _ _ _ (Nat.le_trans hB HB.out.size) ⟨_, _, hb, hh, HO.out, HT.out⟩ HL.out).mono ?_
      rintro e w2 ⟨rfl, hsc, hb2⟩
      have HB2 := Lib.hid hb2
      obtain ⟨vo2, vt2, _, hh2, ho2, ht2⟩ := hsc
      have c32 := cell_of hh2 3 _ rfl
      have f32 := free_of hh2 3
      have HO2 := Lib.hid ho2
      have HT2 := Lib.hid ht2
      clear ho2 ht2 hb2
      go_wp2_with fail
      go_end0
      rw [HF.out]
      exact ⟨rfl, ⟨_, _, hb, hp_set hh2 3 _, own_set HO2.out _ (own_ne HO2.out hh2 (by decide)), own_set HT2.out _ (own_ne HT2.out hh2 (by decide))⟩, ((But.low hB HB.out).trans HB2.out).set _ _⟩
end Go.Proofs.YthpilhmfcbdeiaaDoor
