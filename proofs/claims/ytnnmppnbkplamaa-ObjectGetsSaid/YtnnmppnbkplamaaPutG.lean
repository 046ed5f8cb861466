/- Put's done: what the two closures do, whether the object is there or not. -/
import Derived.Test.YtnnmppnbkplamaaPutO
import Derived.Test.YtnnmppnbkplamaaPutC
namespace Go.Proofs.Ytnnmppnbkplamaa
open Go.RowKit Go.Shelf

theorem put_dn (W10 : World) (g tb pb ib nb b1 b2 i : Nat) (A : Option Addr) (n c : Nat) (l : List Ob) (calls : Int) (A' : Option Addr) (n' c' : Nat) (ft : Int) (b : Bool) (s : ByteArray) (Ab : Option Addr) (mb m2 kb : Nat) (bl bl2 : List UInt8)
    (ht : Has W10 tb #[.bool b]) (hp : Has W10 pb #[.pointer (some ⟨g, 0, none⟩)]) (hi : Has W10 ib #[.int .i64 (i : Int)]) (hn : Has W10 nb #[.string s]) (hb1 : Has W10 b1 #[.slice Ab mb kb]) (hb2 : Has W10 b2 #[.slice Ab m2 kb])
    (hbl : ∀ W', Below g W10 W' → Sl u8K W' Ab mb kb bl) (hbl2 : ∀ W', Below g W10 W' → Sl u8K W' Ab m2 kb bl2) (hmb : mb ≤ 8192) (hm2 : m2 ≤ 8192) (hg : Has W10 g #[.slice A n c, .int .i64 calls, .slice A' n' c', .int .i64 ft]) (ho : Own obK 59 W10 (g + 1) A n c l) (hn6 : n ≤ 60000)
    (hin : if b = true then i < n else i ≤ n) (hgp : g ≠ pb) (hgi : g ≠ ib) (hgn : g ≠ nb) (hg1 : g ≠ b1) (hg2 : g ≠ b2) (hpq : ∀ q, (Value.slice A n c).ownBlock = some q → q ≠ pb ∧ q ≠ ib ∧ q ≠ nb ∧ q ≠ b1 ∧ q ≠ b2) :
    Calls Try.prog 36 #[.pointer (some ⟨g, 0, none⟩), .func (.func 33) #[] #[.pointer (some ⟨tb, 0, none⟩), .pointer (some ⟨pb, 0, none⟩), .pointer (some ⟨ib, 0, none⟩), .pointer (some ⟨nb, 0, none⟩), .pointer (some ⟨b1, 0, none⟩)], .func (.func 33) #[] #[.pointer (some ⟨tb, 0, none⟩), .pointer (some ⟨pb, 0, none⟩), .pointer (some ⟨ib, 0, none⟩), .pointer (some ⟨nb, 0, none⟩), .pointer (some ⟨b2, 0, none⟩)]] W10
      (DoneR W10 g A n c calls A' n' c' ft (PutE g (l.take i) (if b = true then l.drop (i + 1) else l.drop i) s bl (.slice A n c)) (PutE g (l.take i) (if b = true then l.drop (i + 1) else l.drop i) s bl2 (.slice A n c))) := by
  have hq := fun q (h : (Value.slice A n c).ownBlock = some q) => (ho.2.1.lt q h).2
  have hgl := hg.lt
  refine done_any g A n c calls A' n' c' ft 33 33 _ _ _ _ W10 hg (enters_of Try.func33 (by kernel_rfl) rfl) (enters_of Try.func33 (by kernel_rfl) rfl) (fun W hW => ?_) (fun W hW => ?_)
  · cases b with
    | true =>
      rw [if_pos rfl] at hin
      exact put1_old W g tb pb ib nb b1 i A n c l calls A' n' c' ft (ht.past hW) (hp.past hW) (hi.past hW) s (hn.past hW) Ab mb kb bl (hb1.past hW) (fun W' h => hbl W' ((hW.mono (Nat.le_of_lt hgl)).trans h)) hmb (hg.past hW) (ho.kept hW) hn6 hin hgp hgi (fun q h => ⟨(hpq q h).1, (hpq q h).2.1, (hpq q h).2.2.1, (hpq q h).2.2.2.1⟩) hgn hg1 W10.heap.size hgl hq
    | false =>
      rw [if_neg (by decide)] at hin
      exact put1_new W g tb pb ib nb b1 i A n c l calls A' n' c' ft (ht.past hW) (hp.past hW) (hi.past hW) s (hn.past hW) Ab mb kb bl (hb1.past hW) (fun W' h => hbl W' ((hW.mono (Nat.le_of_lt hgl)).trans h)) hmb (hg.past hW) (ho.kept hW) hn6 hin hgp hgi (fun q h => ⟨(hpq q h).1, (hpq q h).2.1, (hpq q h).2.2.1, (hpq q h).2.2.2.1⟩) hgn hg1 W10.heap.size hgl hq
  · cases b with
    | true =>
      rw [if_pos rfl] at hin
      exact put1_old W g tb pb ib nb b2 i A n c l calls A' n' c' ft (ht.past hW) (hp.past hW) (hi.past hW) s (hn.past hW) Ab m2 kb bl2 (hb2.past hW) (fun W' h => hbl2 W' ((hW.mono (Nat.le_of_lt hgl)).trans h)) hm2 (hg.past hW) (ho.kept hW) hn6 hin hgp hgi (fun q h => ⟨(hpq q h).1, (hpq q h).2.1, (hpq q h).2.2.1, (hpq q h).2.2.2.2⟩) hgn hg2 W10.heap.size hgl hq
    | false =>
      rw [if_neg (by decide)] at hin
      exact put1_new W g tb pb ib nb b2 i A n c l calls A' n' c' ft (ht.past hW) (hp.past hW) (hi.past hW) s (hn.past hW) Ab m2 kb bl2 (hb2.past hW) (fun W' h => hbl2 W' ((hW.mono (Nat.le_of_lt hgl)).trans h)) hm2 (hg.past hW) (ho.kept hW) hn6 hin hgp hgi (fun q h => ⟨(hpq q h).1, (hpq q h).2.1, (hpq q h).2.2.1, (hpq q h).2.2.2.2⟩) hgn hg2 W10.heap.size hgl hq

end Go.Proofs.Ytnnmppnbkplamaa
