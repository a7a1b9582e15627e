import Derived.Test.YtccjfoldjbmnfaaDoorWg
import Derived.Test.YtccjfoldjbmnfaaDoorMaps
namespace Go.Proofs.YtccjfoldjbmnfaaDoor
open Go Go.RowKit Go.Lib

/-- What a word's value is, as the program has it. -/
def halfV : Value := .iface 40 (.float .f64 4602678819172646912)
def wordsL : List (ByteArray × Value) := [(⟨#[]⟩, .nilIface), (⟨#[110, 117, 108, 108]⟩, .nilIface), (⟨#[126]⟩, .nilIface), (⟨#[116, 114, 117, 101]⟩, .iface 4 (.bool true)), (⟨#[102, 97, 108, 115, 101]⟩, .iface 4 (.bool false)), (⟨#[46, 105, 110, 102]⟩, halfV), (⟨#[43, 46, 105, 110, 102]⟩, halfV), (⟨#[45, 46, 105, 110, 102]⟩, halfV), (⟨#[46, 110, 97, 110]⟩, halfV)]

theorem run_word (w : World) (l : List (ByteArray × Value)) (a : ByteArray) (v : Value) (h : assoc a l = none) :
    (Instr.mapUpdate 43 (.map (some w.heap.size)) (.string a) v).run Tryd.prog (w.alloc (mapObj Value.string l)) = .ok () (w.alloc (mapObj Value.string (l ++ [(a, v)]))) := by
  have := run_put_list (P := Tryd.prog) (enc := Value.string) sameS isKeyS (t := 43) (k := 9) (e := 20) (w := w.alloc (mapObj Value.string l)) (l := l) Tryd.underlying43 Tryd.underlying9 (World.alloc_heap_new w _) a v h
  rw [putObj_new] at this
  exact this

/-- The map of words when k of them are laid. -/
def wordsObj (k : Nat) : Obj := mapObj Value.string (wordsL.take k)
theorem run_word_at (w : World) (k : Nat) (a : ByteArray) (v : Value) (h : assoc a (wordsL.take k) = none) (hk : wordsL.take (k + 1) = wordsL.take k ++ [(a, v)]) :
    (Instr.mapUpdate 43 (.map (some w.heap.size)) (.string a) v).run Tryd.prog (w.alloc (wordsObj k)) = .ok () (w.alloc (wordsObj (k + 1))) := by
  unfold wordsObj
  rw [hk]
  exact run_word w _ a v h

set_option maxRecDepth 100000 in
theorem words_any (w : World) :
    Calls Tryd.prog 28 #[] w fun e w' => e = .returned (.map (some w.heap.size)) ∧ w' = w.alloc (wordsObj 9) := by
  have hmm := @run_makeMap Tryd.prog
  have h0 : (Instr.mapUpdate 43 (.map (some w.heap.size)) (.string ⟨#[]⟩) .nilIface).run Tryd.prog (w.alloc (.map #[] 0)) = .ok () (w.alloc (wordsObj 1)) := run_word_at w 0 ⟨#[]⟩ .nilIface rfl rfl
  have h1 : (Instr.mapUpdate 43 (.map (some w.heap.size)) (.string ⟨#[110, 117, 108, 108]⟩) .nilIface).run Tryd.prog (w.alloc (wordsObj 1)) = .ok () (w.alloc (wordsObj 2)) := run_word_at w 1 ⟨#[110, 117, 108, 108]⟩ .nilIface (by decide +kernel) rfl
  have h2 : (Instr.mapUpdate 43 (.map (some w.heap.size)) (.string ⟨#[126]⟩) .nilIface).run Tryd.prog (w.alloc (wordsObj 2)) = .ok () (w.alloc (wordsObj 3)) := run_word_at w 2 ⟨#[126]⟩ .nilIface (by decide +kernel) rfl
  have h3 : (Instr.mapUpdate 43 (.map (some w.heap.size)) (.string ⟨#[116, 114, 117, 101]⟩) (.iface 4 (.bool true))).run Tryd.prog (w.alloc (wordsObj 3)) = .ok () (w.alloc (wordsObj 4)) := run_word_at w 3 ⟨#[116, 114, 117, 101]⟩ (.iface 4 (.bool true)) (by decide +kernel) rfl
  have h4 : (Instr.mapUpdate 43 (.map (some w.heap.size)) (.string ⟨#[102, 97, 108, 115, 101]⟩) (.iface 4 (.bool false))).run Tryd.prog (w.alloc (wordsObj 4)) = .ok () (w.alloc (wordsObj 5)) := run_word_at w 4 ⟨#[102, 97, 108, 115, 101]⟩ (.iface 4 (.bool false)) (by decide +kernel) rfl
  have h5 : (Instr.mapUpdate 43 (.map (some w.heap.size)) (.string ⟨#[46, 105, 110, 102]⟩) (.iface 40 (.float .f64 4602678819172646912))).run Tryd.prog (w.alloc (wordsObj 5)) = .ok () (w.alloc (wordsObj 6)) := run_word_at w 5 ⟨#[46, 105, 110, 102]⟩ (.iface 40 (.float .f64 4602678819172646912)) (by decide +kernel) rfl
  have h6 : (Instr.mapUpdate 43 (.map (some w.heap.size)) (.string ⟨#[43, 46, 105, 110, 102]⟩) (.iface 40 (.float .f64 4602678819172646912))).run Tryd.prog (w.alloc (wordsObj 6)) = .ok () (w.alloc (wordsObj 7)) := run_word_at w 6 ⟨#[43, 46, 105, 110, 102]⟩ (.iface 40 (.float .f64 4602678819172646912)) (by decide +kernel) rfl
  have h7 : (Instr.mapUpdate 43 (.map (some w.heap.size)) (.string ⟨#[45, 46, 105, 110, 102]⟩) (.iface 40 (.float .f64 4602678819172646912))).run Tryd.prog (w.alloc (wordsObj 7)) = .ok () (w.alloc (wordsObj 8)) := run_word_at w 7 ⟨#[45, 46, 105, 110, 102]⟩ (.iface 40 (.float .f64 4602678819172646912)) (by decide +kernel) rfl
  have h8 : (Instr.mapUpdate 43 (.map (some w.heap.size)) (.string ⟨#[46, 110, 97, 110]⟩) (.iface 40 (.float .f64 4602678819172646912))).run Tryd.prog (w.alloc (wordsObj 8)) = .ok () (w.alloc (wordsObj 9)) := run_word_at w 8 ⟨#[46, 110, 97, 110]⟩ (.iface 40 (.float .f64 4602678819172646912)) (by decide +kernel) rfl
  go_enter Tryd.func28, Tryd.ntmps28
  go_wp2
  go_ret
  exact ⟨rfl, rfl⟩
end Go.Proofs.YtccjfoldjbmnfaaDoor
