/- What every walk of this claim uses: blocks of memory that are known whole, and what stays of them. -/
import Derived.Test.YthpilhmfcbdeiaaDoorProg
import Derived.WalkKit
import Derived.KernelRfl
import Derived.Lib.Hide
import Derived.Deep.AppendLies
import Derived.Deep.RegionLaw
import Derived.Deep.RegionHeld3
import Derived.Deep.QuietTactic
import Derived.BigQuiet
namespace Go.Proofs.YthpilhmfcbdeiaaDoor
open Go.RowKit
theorem cell_of {w : World} {b : Nat} {cs : Array Value} {t : TypeId} {fr : Nat × Nat} (h : w.heap[b]? = some (.cells cs t fr)) (i : Nat) (v : Value) (hv : cs[i]? = some v) : w.cell? ⟨b, i, none⟩ = some v := by
  simp [World.cell?, h, hv]
theorem free_of {w : World} {b : Nat} {cs : Array Value} {t : TypeId} (h : w.heap[b]? = some (.cells cs t (0, 0))) (i : Nat) : w.frozen? ⟨b, i, none⟩ = false := by
  simp [World.frozen?, h]
theorem lt_of {w : World} {b : Nat} {o : Obj} (h : w.heap[b]? = some o) : b < w.heap.size := (Array.getElem?_eq_some_iff.1 h).1
theorem hp_new (w : World) (o : Obj) {N : Nat} (hN : N = w.heap.size) : (w.alloc o).heap[N]? = some o := by subst hN; exact heap_alloc_new w o
theorem hp_old {w : World} (o : Obj) {i : Nat} {x : Obj} (h : w.heap[i]? = some x) : (w.alloc o).heap[i]? = some x := (Below.heap_alloc w o i (lt_of h)).trans h
theorem hp_drew {w : World} {i : Nat} {x : Obj} (h : w.heap[i]? = some x) : w.drew.heap[i]? = some x := h
theorem hp_set {w : World} {b : Nat} {cs : Array Value} {t : TypeId} {fr : Nat × Nat} (h : w.heap[b]? = some (.cells cs t fr)) (i : Nat) (v : Value) :
    (w.setCell ⟨b, i, none⟩ v).heap[b]? = some (.cells (cs.setIfInBounds i v) t fr) := by
  simp [World.setCell, Array.getElem?_modify, h]
theorem hp_ne {w : World} {b : Nat} {x : Obj} (a : Addr) (v : Value) (h : w.heap[b]? = some x) (hne : b ≠ a.block) : (w.setCell a v).heap[b]? = some x := by
  rw [Below.heap_setCell w a v b hne]; exact h
theorem hp_grown {w w' : World} {row : Option Nat} (hg : w.grownBy w' row) {b : Nat} {x : Obj} (h : w.heap[b]? = some x) (hne : some b ≠ row) : w'.heap[b]? = some x :=
  (hg.block b (lt_of h) hne).trans h
theorem hp_below {B : Nat} {w w' : World} (hg : Below B w w') {b : Nat} {x : Obj} (h : w.heap[b]? = some x) (hb : b < B) : w'.heap[b]? = some x := (hg.block b hb).trans h
/-- A row of its own type is no block of another type. -/
theorem own_ne {w : World} {B : Nat} {e : TypeId} {size n : Nat} {v : Value} {xs : List Value} (h : w.ownsRow B e size v n xs) {b : Nat} {cs : Array Value} {t : TypeId} {fr : Nat × Nat}
    (hb : w.heap[b]? = some (.cells cs t fr)) (hne : t ≠ e) : some b ≠ v.ownBlock := by
  intro hk
  rcases h.2 with ⟨rfl, _⟩ | ⟨g, cap, cur, rfl, _, hh, _⟩
  · simp [Value.ownBlock] at hk
  · have : b = g := by simpa [Value.ownBlock] using hk
    subst this
    rw [hb] at hh
    injection hh with hh
    injection hh with _ ht
    exact hne ht
theorem own_ne2 {w : World} {B B' : Nat} {e e' : TypeId} {size size' n n' : Nat} {v v' : Value} {xs xs' : List Value} (h : w.ownsRow B e size v n xs) (h' : w.ownsRow B' e' size' v' n' xs') (hne : e ≠ e') :
    v.ownBlock = none ∨ v.ownBlock ≠ v'.ownBlock := by
  rcases h.2 with ⟨rfl, _⟩ | ⟨g, cap, cur, rfl, _, hh, _⟩
  · exact .inl rfl
  · exact .inr (own_ne h' hh hne)
theorem own_set {w : World} {B : Nat} {e : TypeId} {size n : Nat} {v : Value} {xs : List Value} (h : w.ownsRow B e size v n xs) {a : Addr} (u : Value) (hne : some a.block ≠ v.ownBlock) : (w.setCell a u).ownsRow B e size v n xs := by
  refine ⟨h.1, ?_⟩
  rcases h.2 with h2 | ⟨g, cap, cur, rfl, hg, hh, r⟩
  · exact .inl h2
  · exact .inr ⟨g, cap, cur, rfl, hg, hp_ne a u hh (fun e => hne (by rw [← e]; rfl)), r⟩
theorem own_kept {w w' : World} {B : Nat} {e : TypeId} {size n : Nat} {v : Value} {xs : List Value} (h : w.ownsRow B e size v n xs) (hg : ∀ k, v.ownBlock = some k → w'.heap[k]? = w.heap[k]?) : w'.ownsRow B e size v n xs := by
  refine ⟨h.1, ?_⟩
  rcases h.2 with h2 | ⟨g, cap, cur, rfl, hb, hh, r⟩
  · exact .inl h2
  · exact .inr ⟨g, cap, cur, rfl, hb, (hg g rfl).trans hh, r⟩
theorem own_slice {w : World} {B n : Nat} {e : TypeId} {size : Nat} {v : Value} {xs : List Value} (h : w.ownsRow B e size v n xs) : ∃ A c, v = .slice A n c := by
  rcases h.2 with ⟨rfl, rfl⟩ | ⟨g, cap, cur, rfl, _⟩
  · exact ⟨none, 0, rfl⟩
  · exact ⟨_, cap, rfl⟩
/-- A slice literal's row. -/
theorem own_lit {w : World} {B N : Nat} {e : TypeId} {size n : Nat} (cs : Array Value) (hN : N = w.heap.size) (hB : B ≤ N) (hn : n ≤ maxLen) (hl : cs.size = n * size) :
    (w.alloc (.cells cs e)).ownsRow B e size (.slice (some ⟨N, 0, none⟩) n n) n cs.toList :=
  ⟨by simpa using hl, .inr ⟨N, n, cs, rfl, hB, hp_new w _ hN, Nat.le_refl _, hn, hl, by rw [← hl, ← Array.length_toList, List.take_length]⟩⟩
theorem own_low {w : World} {B B' : Nat} {e : TypeId} {size n : Nat} {v : Value} {xs : List Value} (h : w.ownsRow B e size v n xs) (hB : B' ≤ B) : w.ownsRow B' e size v n xs := by
  refine ⟨h.1, ?_⟩
  rcases h.2 with h2 | ⟨g, cap, cur, rfl, hg, r⟩
  · exact .inl h2
  · exact .inr ⟨g, cap, cur, rfl, Nat.le_trans hB hg, r⟩
theorem own_base {w : World} {B : Nat} {e : TypeId} {size n : Nat} {v : Value} {xs : List Value} (h : w.ownsRow B e size v n xs) (k : Nat) (hk : v.ownBlock = some k) : B ≤ k := (h.lt k hk).1
theorem below_own {B : Nat} {a w w' : World} {e : TypeId} {size n : Nat} {v : Value} {xs : List Value} (h : Below B a w) (hg : w.grownBy w' v.ownBlock) (hB : B ≤ w.heap.size) (ho : w.ownsRow B e size v n xs) : Below B a w' :=
  h.grown hg hB (fun k hk => own_base ho k hk)
/-- A quiet call behind a quiet region. -/
theorem quiet_add_same {P : Program} {f : FuncId} {args : Array Value} {w : World} {a n : Nat} {v : Value}
    (h : Calls P f args (w.drewN (a + n)) fun e w' => e = .returned v ∧ w' = w.drewN (a + n)) :
    Calls P f args (w.drewN (a + n)) fun e w'' => e = .returned v ∧ ∃ m, w'' = w.drewN (a + m) :=
  h.mono fun _ _ ⟨he, hm⟩ => ⟨he, n, hm⟩
theorem quiet_add {P : Program} {f : FuncId} {args : Array Value} {w : World} {a n : Nat} {v : Value}
    (h : Calls P f args (w.drewN (a + n)) fun e w' => e = .returned v ∧ ∃ m, w' = (w.drewN (a + n)).drewN m) :
    Calls P f args (w.drewN (a + n)) fun e w'' => e = .returned v ∧ ∃ m, w'' = w.drewN (a + m) :=
  h.mono fun _ _ ⟨he, m, hm⟩ => ⟨he, n + m, by rw [hm, World.drewN_drewN, Nat.add_assoc]⟩
theorem below_drewN {B : Nat} {w W : World} (h : Below B w W) (n : Nat) : Below B w (W.drewN n) := ⟨h.os, h.tape, h.output, h.size, h.block⟩
/-- Below B all is as it was, but for one block. -/
structure But (B b : Nat) (w w' : World) : Prop where
  os : w'.os = w.os
  tape : w'.tape = w.tape
  output : w'.output = w.output
  size : w.heap.size ≤ w'.heap.size
  block : ∀ k, k < B → k ≠ b → w'.heap[k]? = w.heap[k]?
theorem But.refl (B b : Nat) (w : World) : But B b w w := ⟨rfl, rfl, rfl, Nat.le_refl _, fun _ _ _ => rfl⟩
theorem But.of {B b : Nat} {w w' : World} (h : Below B w w') : But B b w w' := ⟨h.os, h.tape, h.output, h.size, fun k hk _ => h.block k hk⟩
theorem But.low {B b : Nat} {w w' : World} (hB : B ≤ w.heap.size) (h : Below w.heap.size w w') : But B b w w' := But.of (h.mono hB)
theorem But.trans {B b : Nat} {a w w' : World} (h : But B b a w) (k : But B b w w') : But B b a w' :=
  ⟨k.os.trans h.os, k.tape.trans h.tape, k.output.trans h.output, Nat.le_trans h.size k.size, fun i hi hb => (k.block i hi hb).trans (h.block i hi hb)⟩
theorem But.below {B b : Nat} {a w w' : World} (h : But B b a w) (hB : B ≤ w.heap.size) (k : Below w.heap.size w w') : But B b a w' := h.trans (But.low hB k)
theorem But.drew {B b : Nat} {a w : World} (h : But B b a w) : But B b a w.drew := ⟨h.os, h.tape, h.output, h.size, h.block⟩
theorem But.drewN {B b : Nat} {a w : World} (h : But B b a w) (n : Nat) : But B b a (w.drewN n) := ⟨h.os, h.tape, h.output, h.size, h.block⟩
theorem But.alloc {B b : Nat} {a w : World} (h : But B b a w) (hB : B ≤ w.heap.size) (o : Obj) : But B b a (w.alloc o) := h.below hB ((Below.refl _ w).alloc (Nat.le_refl _) o)
theorem But.set {B b : Nat} {a w : World} (h : But B b a w) (i : Nat) (u : Value) : But B b a (w.setCell ⟨b, i, none⟩ u) :=
  h.trans ⟨rfl, rfl, rfl, by simp [World.setCell], fun k _ hk => Below.heap_setCell w _ u k hk⟩
theorem But.own {B b : Nat} {a w w' : World} {e : TypeId} {size n : Nat} {v : Value} {xs : List Value} (h : But B b a w) (hg : w.grownBy w' v.ownBlock) (hB : B ≤ w.heap.size) (ho : w.ownsRow B e size v n xs) : But B b a w' :=
  h.trans (But.of ((Below.refl B w).grown hg hB (fun k hk => own_base ho k hk)))
theorem But.hp {B b : Nat} {w w' : World} (h : But B b w w') {k : Nat} {x : Obj} (hk : w.heap[k]? = some x) (hlt : k < B) (hne : k ≠ b) : w'.heap[k]? = some x := (h.block k hlt hne).trans hk
theorem But.toBelow {N B b : Nat} {w w' : World} (h : But B b w w') (h1 : N ≤ B) (h2 : N ≤ b) : Below N w w' := ⟨h.os, h.tape, h.output, h.size, fun k hk => h.block k (Nat.lt_of_lt_of_le hk h1) (by omega)⟩
/-- A call of a function value by its number. -/
theorem enters_fn {P : Program} {f : FuncId} {fn : Func} {c : Code} (hf : P.funcs[f]? = some fn) (hname : (fn.name == "runtime.NumGoroutine") = false) (hb : fn.body = some c) (args : Array Value) (w : World) :
    (callFunc f args).run P w = .ok (.enter f args) w := by
  have h1 : fn.name ≠ "runtime.NumGoroutine" := by simpa using hname
  simp [callFunc, hf, h1, hb, mark]
end Go.Proofs.YthpilhmfcbdeiaaDoor
