/- The document's calls, said of coordinators by what they are. -/
import Derived.Test.YtnigjchgpmladaaAt
import Derived.Test.YtnigjchgpmladaaRInit
import Derived.Test.YtnigjchgpmladaaRAdd
import Derived.Test.YtnigjchgpmladaaRSend
import Derived.Test.YtnigjchgpmladaaREnd
import Derived.Test.YtnigjchgpmladaaRDone
import Derived.Test.YtnigjchgpmladaaRLook
import Derived.Test.YtnigjchgpmladaaROld
namespace Go.Proofs.Ytnigjchgpmladaa
open Go.RowKit Go.Shelf

section
variable {w : World} {o : Tc} {V R : Cv}
theorem rinit_at {id : ByteArray} {now p g c : Int} (h : Tc.Is w o V) (hf : FewV V) (hs : id.size ≤ maxLen) (hr : initV V id now = (R, p, g, c)) :
    Calls Try.prog 14 #[o.v, .string id, .int .i64 now] w fun e w' => ∃ q : Tc, e = .returned (.tuple #[q.v, .int .i64 p, .int .i64 g, .int .i64 c]) ∧ Tc.Is w' q R ∧ Below w.heap.size w w' := by
  obtain ⟨h1, rfl⟩ := h
  have := rinit_any o id now w h1 hf hs
  rw [hr] at this
  exact this
theorem radd_at {id : ByteArray} {pid gen now c : Int} {tp : Tp} (h : Tc.Is w o V) (hf : FewV V) (hw : tp.wf) (hr : addV V id pid gen tp now = (R, c)) :
    Calls Try.prog 32 #[o.v, .string id, .int .i64 pid, .int .i64 gen, tp.v, .int .i64 now] w fun e w' => ∃ q : Tc, e = .returned (.tuple #[q.v, .int .i64 c]) ∧ Tc.Is w' q R ∧ Below w.heap.size w w' := by
  obtain ⟨h1, rfl⟩ := h
  have := radd_any o id pid gen tp now w h1 hf hw
  rw [hr] at this
  exact this
theorem rsend_at {id g : ByteArray} {pid gen now c : Int} (h : Tc.Is w o V) (hf : FewV V) (hw : g.size ≤ maxLen) (hr : sendV V id pid gen g now = (R, c)) :
    Calls Try.prog 34 #[o.v, .string id, .int .i64 pid, .int .i64 gen, .string g, .int .i64 now] w fun e w' => ∃ q : Tc, e = .returned (.tuple #[q.v, .int .i64 c]) ∧ Tc.Is w' q R ∧ Below w.heap.size w w' := by
  obtain ⟨h1, rfl⟩ := h
  have := rsend_any o id pid gen g now w h1 hf hw
  rw [hr] at this
  exact this
theorem rend_at {id : ByteArray} {pid gen c : Int} {yes : Bool} (h : Tc.Is w o V) (hf : FewV V) (hr : endV V id pid gen yes = (R, c)) :
    Calls Try.prog 35 #[o.v, .string id, .int .i64 pid, .int .i64 gen, .bool yes] w fun e w' => ∃ q : Tc, e = .returned (.tuple #[q.v, .int .i64 c]) ∧ Tc.Is w' q R ∧ Below w.heap.size w w' := by
  obtain ⟨h1, rfl⟩ := h
  have := rend_any o id pid gen yes w h1 hf
  rw [hr] at this
  exact this
theorem rdone_at {pid c : Int} (h : Tc.Is w o V) (hf : FewV V) (hr : doneV V pid = (R, c)) :
    Calls Try.prog 36 #[o.v, .int .i64 pid] w fun e w' => ∃ q : Tc, e = .returned (.tuple #[q.v, .int .i64 c]) ∧ Tc.Is w' q R ∧ Below w.heap.size w w' := by
  obtain ⟨h1, rfl⟩ := h
  have := rdone_any o pid w h1 hf
  rw [hr] at this
  exact this
theorem rfind_at {pid : Int} {v : Tv} {b : Bool} (h : Tc.Is w o V) (hr : findV V.L pid = (v, b)) :
    Calls Try.prog 16 #[o.v, .int .i64 pid] w fun e w' => ∃ x : Tx, e = .returned (.tuple #[x.v, .bool b]) ∧ Tx.Is w' x v ∧ Below w.heap.size w w' := by
  obtain ⟨h1, rfl⟩ := h
  have := rfind_any o pid w h1
  rw [hr] at this
  refine this.mono ?_
  rintro e w' ⟨x, h1', h2, h3, h4⟩
  refine ⟨x, h1', ⟨?_, h3⟩, h4⟩
  rcases h2 with rfl | h2
  · exact noX_in _
  · exact (show Tx.In w x from Sl.each h1 x h2).past h4
theorem rcheck_at {c : Int} (h : Tc.Is w o V) (hf : FewV V) (hr : checkV V = c) : Calls Try.prog 19 #[o.v] w fun e w' => e = .returned (.int .i64 c) ∧ Below w.heap.size w w' := by
  obtain ⟨h1, rfl⟩ := h
  have nm := h1.few hf
  have := rcheck_any o w h1 nm.1 nm.2
  rw [hr] at this
  exact this
theorem due_is (h : Tc.Is w o V) (hf : FewV V) : Calls Try.prog 22 #[o.v] w fun e w' => LsRes w (dueV V.L) e w' := by
  obtain ⟨h1, rfl⟩ := h
  exact due_any o w h1 (h1.few hf).1
theorem rdue_is (h : Tc.Is w o V) (hf : FewV V) : Calls Try.prog 23 #[o.v] w fun e w' => LsRes w (dueV V.L) e w' := by
  obtain ⟨h1, rfl⟩ := h
  exact rdue_any o w h1 (h1.few hf).1
theorem old_is {now most : Int} (h : Tc.Is w o V) (hf : FewV V) : Calls Try.prog 25 #[o.v, .int .i64 now, .int .i64 most] w fun e w' => StRes w (oldV V now most) e w' := by
  obtain ⟨h1, rfl⟩ := h
  exact old_any o now most w h1 hf
theorem rold_is {now most : Int} (h : Tc.Is w o V) (hf : FewV V) : Calls Try.prog 26 #[o.v, .int .i64 now, .int .i64 most] w fun e w' => StRes w (oldV V now most) e w' := by
  obtain ⟨h1, rfl⟩ := h
  exact rold_any o now most w h1 hf
end
end Go.Proofs.Ytnigjchgpmladaa
