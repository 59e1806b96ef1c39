/-
  Seat 23: plain facts of maps: what Check asks is what the document's Right asks.
-/
import Derived.Test.YtkbablmhgnpmmaaDoorS23D
import Derived.Laws.StructEq
open Go Go.En
namespace Go.S23
/-! ### the map of texts -/
def inK (m : List (ByteArray × Bool)) (x : ByteArray) : Bool := m.any fun e => x == e.1
theorem bb {a b : ByteArray} : (a == b) = true ↔ a = b := MapKept.bytes_beq a b
theorem putK_len : ∀ (m : List (ByteArray × Bool)) (x : ByteArray), (putK m x).length = bif inK m x then m.length else m.length + 1
  | [], x => rfl
  | e :: m, x => by
    have ih := putK_len m x
    show (bif x == e.1 then (x, true) :: m else e :: putK m x).length = bif x == e.1 || inK m x then _ else _
    cases hc : (x == e.1) with
    | true => rfl
    | false =>
      rw [cond_false, Bool.false_or, List.length_cons, ih, List.length_cons]
      cases inK m x <;> rfl
theorem putK_in : ∀ (m : List (ByteArray × Bool)) (x y : ByteArray), inK (putK m x) y = (inK m y || y == x)
  | [], x, y => by show (y == x || false) = (false || y == x); simp
  | e :: m, x, y => by
    have ih := putK_in m x y
    show inK (bif x == e.1 then (x, true) :: m else e :: putK m x) y = ((y == e.1 || inK m y) || y == x)
    cases hc : (x == e.1) with
    | true =>
      have : x = e.1 := bb.1 hc
      show (y == x || inK m y) = _
      rw [this]
      cases (y == e.1) <;> cases inK m y <;> rfl
    | false =>
      show (y == e.1 || inK (putK m x) y) = _
      rw [ih, Bool.or_assoc]
def freshM (m : List (ByteArray × Bool)) : List ByteArray → Bool
  | [] => true
  | x :: l => !(inK m x) && freshM (putK m x) l
theorem fold_len : ∀ (l : List ByteArray) (m : List (ByteArray × Bool)), (l.foldl putK m).length ≤ m.length + l.length ∧ (freshM m l = true ↔ (l.foldl putK m).length = m.length + l.length)
  | [], m => ⟨Nat.le_refl _, by simp [freshM]⟩
  | x :: l, m => by
    obtain ⟨h1, h2⟩ := fold_len l (putK m x)
    have h3 := putK_len m x
    show (l.foldl putK (putK m x)).length ≤ _ ∧ ((!(inK m x) && freshM (putK m x) l) = true ↔ (l.foldl putK (putK m x)).length = _)
    rw [List.length_cons]
    cases hc : inK m x with
    | true =>
      rw [hc, cond_true] at h3
      exact ⟨by omega, by simp; omega⟩
    | false =>
      rw [hc, cond_false] at h3
      refine ⟨by omega, ?_⟩
      show freshM (putK m x) l = true ↔ _
      rw [h2]
      omega
theorem fresh_same : ∀ (l : List ByteArray) (m : List (ByteArray × Bool)) (seen : List ByteArray), (∀ y, inK m y = seen.any fun z => y.toList == z.toList) → freshM m l = freshD seen l
  | [], _, _, _ => rfl
  | x :: l, m, seen, h => by
    show (!(inK m x) && freshM (putK m x) l) = (!(seen.any fun z => x.toList == z.toList) && freshD (seen ++ [x]) l)
    rw [h x, fresh_same l (putK m x) (seen ++ [x]) (fun y => by rw [putK_in, h y, List.any_append]; simp [beq_toListBytes])]
theorem differ_fresh (l : List ByteArray) : differF l = freshD [] l := by
  rw [← fresh_same l [] [] (fun _ => rfl)]
  obtain ⟨_, h⟩ := fold_len l []
  unfold differF zn
  rw [Bool.eq_iff_iff, h, beq_iff_eq]
  simp only [List.length_nil, Nat.zero_add]
  omega
/-! ### the map of numbers -/
theorem putI_get : ∀ (m : List (Int × Bool)) (x p : Int), getI (putI m x) p = (getI m p || x == p)
  | [], x, p => by
    show ((bif p == x then some true else none : Option Bool)).getD false = (false || x == p)
    rw [Bool.beq_comm (a := p)]
    cases (x == p) <;> rfl
  | e :: m, x, p => by
    have ih := putI_get m x p
    have hl : getI (e :: m) p = bif p == e.1 then e.2 else getI m p := by
      show ((bif p == e.1 then some e.2 else mapGet (.i .i64) .b p m : Option Bool)).getD false = _
      cases (p == e.1) <;> rfl
    rw [hl]
    cases hc : (x == e.1) with
    | true =>
      have hx : x = e.1 := eq_of_beq hc
      have hs : putI (e :: m) x = (x, true) :: m := by
        show (bif x == e.1 then (x, true) :: m else e :: putI m x) = _
        rw [hc]; rfl
      rw [hs]
      show ((bif p == x then some true else mapGet (.i .i64) .b p m : Option Bool)).getD false = _
      rw [hx]
      cases hp : (p == e.1) with
      | true =>
        have : p = e.1 := eq_of_beq hp
        rw [this]; simp
      | false =>
        have : (e.1 == p) = false := by rw [Bool.beq_comm]; exact hp
        rw [this, Bool.or_false]; rfl
    | false =>
      have hs : putI (e :: m) x = e :: putI m x := by
        show (bif x == e.1 then (x, true) :: m else e :: putI m x) = _
        rw [hc]; rfl
      rw [hs]
      have hl2 : getI (e :: putI m x) p = bif p == e.1 then e.2 else getI (putI m x) p := by
        show ((bif p == e.1 then some e.2 else mapGet (.i .i64) .b p (putI m x) : Option Bool)).getD false = _
        cases (p == e.1) <;> rfl
      rw [hl2, ih]
      cases hp : (p == e.1) with
      | true =>
        have : p = e.1 := eq_of_beq hp
        rw [this, hc]; simp
      | false => rfl
theorem right_same (z : Int) : ∀ (l : List MvV) (m : List (Int × Bool)) (seen : List MvV), (∀ p, getI m p = seen.any fun y => y.1 == p) → rightF z m l = mvF z seen l
  | [], _, _, _ => rfl
  | v :: l, m, seen, h => by
    show (!(decide (v.1 < 0) || (decide (v.1 ≥ z) || (decide (v.2.1 < 1) || getI m v.1))) && rightF z (putI m v.1) l) = (!(decide (v.1 < 0) || (decide (v.1 ≥ z) || decide (v.2.1 < 1))) && (!(seen.any fun y => y.1 == v.1) && mvF z (seen ++ [v]) l))
    rw [h v.1, right_same z l (putI m v.1) (seen ++ [v]) (fun p => by rw [putI_get, h p, List.any_append]; simp)]
    cases decide (v.1 < 0) <;> cases decide (v.1 ≥ z) <;> cases decide (v.2.1 < 1) <;> cases seen.any (fun y => y.1 == v.1) <;> rfl
theorem right_okC (z : Int) (c : ChV) : rightV z c = okC z c := by
  unfold rightV okC
  rw [right_same z c.2.1 [] [] (fun _ => rfl), Bool.and_comm]
  congr 1
  by_cases h : c.2.1 = []
  · rw [h]; rfl
  · have : 0 < c.2.1.length := List.length_pos_iff.2 h
    rw [decide_eq_true (show zn c.2.1.length > 0 by simp only [zn]; omega)]
    have : (zn c.2.1.length == 0) = false := by simp only [zn, beq_eq_false_iff_ne, ne_eq]; omega
    rw [this]; rfl
end Go.S23
