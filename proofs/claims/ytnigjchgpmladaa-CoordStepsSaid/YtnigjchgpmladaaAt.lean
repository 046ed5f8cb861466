/- The calls, said of coordinators by what they are. -/
import Derived.Test.YtnigjchgpmladaaInit
import Derived.Test.YtnigjchgpmladaaAdd
import Derived.Test.YtnigjchgpmladaaEnd
import Derived.Test.YtnigjchgpmladaaDoneC
import Derived.Test.YtnigjchgpmladaaOld
import Derived.Test.YtnigjchgpmladaaSmx
import Derived.Test.YtnigjchgpmladaaFew
namespace Go.Proofs.Ytnigjchgpmladaa
open Go.RowKit Go.Shelf

section
variable {w : World} {o : Tc} {V R : Cv}
theorem init_at {id : ByteArray} {now p g c : Int} (h : Tc.Is w o V) (hf : FewV V) (hs : id.size ≤ maxLen) (hr : initV V id now = (R, p, g, c)) :
    Calls Try.prog 13 #[o.v, .string id, .int .i64 now] w fun e w' => ∃ q : Tc, e = .returned (.tuple #[q.v, .int .i64 p, .int .i64 g, .int .i64 c]) ∧ Tc.Is w' q R ∧ Below w.heap.size w w' := by
  obtain ⟨h1, rfl⟩ := h
  have := init_any o id now w h1 hf hs
  rw [hr] at this
  exact this
theorem add_at {id : ByteArray} {pid gen now c : Int} {tp : Tp} (h : Tc.Is w o V) (hf : FewV V) (hw : tp.wf) (hr : addV V id pid gen tp now = (R, c)) :
    Calls Try.prog 31 #[o.v, .string id, .int .i64 pid, .int .i64 gen, tp.v, .int .i64 now] w fun e w' => ∃ q : Tc, e = .returned (.tuple #[q.v, .int .i64 c]) ∧ Tc.Is w' q R ∧ Below w.heap.size w w' := by
  obtain ⟨h1, rfl⟩ := h
  have := add_any o id pid gen tp now w h1 hf hw
  rw [hr] at this
  exact this
theorem send_at {id g : ByteArray} {pid gen now c : Int} (h : Tc.Is w o V) (hf : FewV V) (hw : g.size ≤ maxLen) (hr : sendV V id pid gen g now = (R, c)) :
    Calls Try.prog 33 #[o.v, .string id, .int .i64 pid, .int .i64 gen, .string g, .int .i64 now] w fun e w' => ∃ q : Tc, e = .returned (.tuple #[q.v, .int .i64 c]) ∧ Tc.Is w' q R ∧ Below w.heap.size w w' := by
  obtain ⟨h1, rfl⟩ := h
  have := send_any o id pid gen g now w h1 hf hw
  rw [hr] at this
  exact this
theorem end_at {id : ByteArray} {pid gen c : Int} {yes : Bool} (h : Tc.Is w o V) (hf : FewV V) (hr : endV V id pid gen yes = (R, c)) :
    Calls Try.prog 28 #[o.v, .string id, .int .i64 pid, .int .i64 gen, .bool yes] w fun e w' => ∃ q : Tc, e = .returned (.tuple #[q.v, .int .i64 c]) ∧ Tc.Is w' q R ∧ Below w.heap.size w w' := by
  obtain ⟨h1, rfl⟩ := h
  have := end_any o id pid gen yes w h1 hf
  rw [hr] at this
  exact this
theorem done_at {pid c : Int} (h : Tc.Is w o V) (hf : FewV V) (hr : doneV V pid = (R, c)) :
    Calls Try.prog 29 #[o.v, .int .i64 pid] w fun e w' => ∃ q : Tc, e = .returned (.tuple #[q.v, .int .i64 c]) ∧ Tc.Is w' q R ∧ Below w.heap.size w w' := by
  obtain ⟨h1, rfl⟩ := h
  have := done_any o pid w h1 hf
  rw [hr] at this
  exact this
theorem findc_at {pid : Int} {v : Tv} {b : Bool} (h : Tc.Is w o V) (hr : findV V.L pid = (v, b)) :
    Calls Try.prog 15 #[o.v, .int .i64 pid] w fun e w' => ∃ x : Tx, e = .returned (.tuple #[x.v, .bool b]) ∧ Tx.Is w' x v ∧ Below w.heap.size w w' := by
  obtain ⟨h1, rfl⟩ := h
  have := find_any o pid w h1
  rw [hr] at this
  exact this
theorem findm_at {pid : Int} {v : Tv} {b : Bool} {w0 : World} (h0 : Tc.Is w0 o V) (h : Tc.Is w o V) (hr : findV V.L pid = (v, b)) :
    Calls Try.prog 15 #[o.v, .int .i64 pid] w fun e w' => ∃ x : Tx, e = .returned (.tuple #[x.v, .bool b]) ∧ Tx.Is w0 x v ∧ Below w.heap.size w w' := by
  obtain ⟨h1, rfl⟩ := h
  have := find_in o pid w h1
  rw [hr] at this
  refine this.mono ?_
  rintro e w' ⟨x, h1, h2, h3, h4⟩
  refine ⟨x, h1, ⟨?_, h3⟩, h4⟩
  rcases h2 with rfl | h2
  · exact noX_in _
  · exact Sl.each h0.1 x h2
theorem due_at {k : Nat} (h : Tc.Is w o V) (hf : FewV V) (hk : (dueV V.L).length = k) :
    Calls Try.prog 22 #[o.v] w fun e w' => ∃ (A : Option Addr) (c : Nat) (l : List Tx), e = .returned (.slice A k c) ∧ (Sl txK w' A k c l ∧ l.map Tx.val = dueV V.L) ∧ Below w.heap.size w w' := by
  obtain ⟨h1, rfl⟩ := h
  refine (due_any o w h1 (h1.few hf).1).mono ?_
  rintro e w' ⟨A, n, c, l, rfl, h2, h3, h4⟩
  have : n = k := by rw [← hk, ← h3, List.length_map]; exact h2.len.symm
  subst this
  exact ⟨A, c, l, rfl, ⟨h2, h3⟩, h4⟩
theorem old_at {now most : Int} {l : List ByteArray} {k : Nat} (h : Tc.Is w o V) (hf : FewV V) (hr : oldV V now most = l) (hk : l.length = k) :
    Calls Try.prog 25 #[o.v, .int .i64 now, .int .i64 most] w fun e w' => ∃ (A : Option Addr) (c : Nat), e = .returned (.slice A k c) ∧ Sl strK w' A k c l ∧ Below w.heap.size w w' := by
  obtain ⟨h1, rfl⟩ := h
  refine (old_any o now most w h1 hf).mono ?_
  rintro e w' ⟨A, n, c, rfl, h2, h4⟩
  rw [hr] at h2
  have : n = k := by rw [← hk]; exact h2.len.symm
  subst this
  exact ⟨A, c, rfl, h2, h4⟩
theorem check_at {c : Int} (h : Tc.Is w o V) (hf : FewV V) (hr : checkV V = c) : Calls Try.prog 18 #[o.v] w fun e w' => e = .returned (.int .i64 c) ∧ Below w.heap.size w w' := by
  obtain ⟨h1, rfl⟩ := h
  have := check_any o w h1 (h1.few hf).1 (h1.few hf).2
  rw [hr] at this
  exact this
theorem same_at {q : Tc} (h : Tc.Is w o V) (k : Tc.Is w q V) : Calls Try.prog 17 #[o.v, q.v] w fun e w' => e = .returned (.bool true) ∧ Below w.heap.size w w' := by
  have := same_any o q w h.1 k.1
  rw [h.2, k.2, decide_eq_true rfl] at this
  exact this
theorem sametx_at {x y : Tx} {u v : Tv} {b : Bool} (h : Tx.Is w x u) (k : Tx.Is w y v) (hb : decide (u = v) = b) : Calls Try.prog 20 #[x.v, y.v] w fun e w' => e = .returned (.bool b) ∧ Below w.heap.size w w' := by
  have := sametx_any x y w h.1 k.1
  rw [h.2, k.2, hb] at this
  exact this
theorem few_at {b : Bool} (h : Tc.Is w o V) (hb : fewB V = b) : Calls Try.prog 12 #[o.v] w fun e w' => e = .returned (.bool b) ∧ Below w.heap.size w w' := by
  obtain ⟨h1, rfl⟩ := h
  have := few_any o w h1
  rw [hb] at this
  exact this
end
theorem fewB_few {V : Cv} (h : fewB V = true) : FewV V := by
  unfold fewB fewX at h
  simp only [Bool.and_eq_true, decide_eq_true_eq, List.all_eq_true] at h
  exact ⟨by omega, fun x hx => by have := h.2 x hx; omega⟩

end Go.Proofs.Ytnigjchgpmladaa
