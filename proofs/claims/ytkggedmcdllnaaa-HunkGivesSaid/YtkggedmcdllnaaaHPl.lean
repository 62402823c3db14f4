/- The hunks from a list to another one, in plain words. No program. -/
import Derived.Test.YtkggedmcdllnaaaEdAt
import Derived.Test.YtkggedmcdllnaaaHl
namespace Go.Proofs.Ytkggedmcdllnaaa
open Go.RowKit

/-- The hunks of edits, from a shift on. -/
def hFrom (xs : List ByteArray) : Int → List Ed → List Hk3
  | _, [] => []
  | b, e :: r => (e.1 + b, (xs.take (e.1 + e.2.1).toNat).drop e.1.toNat, e.2.2) :: hFrom xs (b + ((e.2.2.length : Int) - e.2.1)) r
/-- The hunks from a list to another one. -/
def hunks (xs ys : List ByteArray) : List Hk3 := hFrom xs 0 (edits xs ys)
theorem hFrom_length (xs : List ByteArray) : ∀ (l : List Ed) (b : Int), (hFrom xs b l).length = l.length
  | [], _ => rfl
  | e :: r, b => by simp only [hFrom, List.length_cons, hFrom_length xs r]
theorem Sm.addHk {w0 w : World} {L : List Bl} {M : List Mf} {lo : Nat} {l : List HkA} {e : HkA} (S : Sm w0 w L ((lo, LnX e.2.2.1 e.2.2.2.2) :: (lo, LnX e.2.1.1 e.2.1.2.2) :: (lo, HNews l) :: (lo, Olds l) :: M)) :
    Sm w0 w L ((lo, HNews (l ++ [e])) :: (lo, Olds (l ++ [e])) :: M) := by
  have S1 : Sm w0 w L ((lo, LnX e.2.1.1 e.2.1.2.2) :: (lo, Olds l) :: (lo, LnX e.2.2.1 e.2.2.2.2) :: (lo, HNews l) :: M) := S.facts fun m hm => by
    rcases List.mem_cons.1 hm with rfl | hm
    · exact .tail _ (.head _)
    rcases List.mem_cons.1 hm with rfl | hm
    · exact .tail _ (.tail _ (.tail _ (.head _)))
    rcases List.mem_cons.1 hm with rfl | hm
    · exact .head _
    rcases List.mem_cons.1 hm with rfl | hm
    · exact .tail _ (.tail _ (.head _))
    exact .tail _ (.tail _ (.tail _ (.tail _ hm)))
  have S2 := S1.join (R := Olds (l ++ [e])) fun w => olds_snoc l e w
  have S3 : Sm w0 w L ((lo, LnX e.2.2.1 e.2.2.2.2) :: (lo, HNews l) :: (lo, Olds (l ++ [e])) :: M) := S2.facts fun m hm => by
    rcases List.mem_cons.1 hm with rfl | hm
    · exact .tail _ (.head _)
    rcases List.mem_cons.1 hm with rfl | hm
    · exact .tail _ (.tail _ (.head _))
    rcases List.mem_cons.1 hm with rfl | hm
    · exact .head _
    exact .tail _ (.tail _ (.tail _ hm))
  exact S3.join (R := HNews (l ++ [e])) fun w => hnews_snoc l e w
end Go.Proofs.Ytkggedmcdllnaaa
