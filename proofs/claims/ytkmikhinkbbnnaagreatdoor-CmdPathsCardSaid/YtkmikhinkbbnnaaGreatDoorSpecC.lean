/- What paths come to, on lists of bytes. -/
import Derived.Test.YtkmikhinkbbnnaaGreatDoorSpecB
namespace Go.Proofs.YtkmikhinkbbnnaaGreatDoor.Sp
open Go.Proofs.YtkmikhinkbbnnaaGreatDoor.M

def routeF : Nat → List UInt8 → Option (List UInt8)
  | 0, _ => none
  | n + 1, l => match l with
    | [] => none
    | c :: r => if c = 64 then
        if shapedB (r.takeWhile domC) then match r.dropWhile domC with
          | [] => none
          | d :: q => if d = 58 then some q else if d = 44 then routeF n q else none
        else none
      else none
def routeR (l : List UInt8) : Option (List UInt8) := routeF (l.length + 1) l

theorem dropWhile_le (p : UInt8 → Bool) (l : List UInt8) : (l.dropWhile p).length ≤ l.length := (List.dropWhile_sublist p).length_le

theorem routeF_fuel : ∀ (n m : Nat) (l : List UInt8), l.length < n → l.length < m → routeF n l = routeF m l
  | 0, _, _, h, _ => absurd h (by omega)
  | _, 0, _, _, h => absurd h (by omega)
  | n + 1, m + 1, l, h1, h2 => by
    unfold routeF
    cases l with
    | nil => rfl
    | cons c r =>
      by_cases hc : c = 64
      · simp only [if_pos hc]
        cases hs : shapedB (r.takeWhile domC) with
        | false => rfl
        | true =>
          have hd := dropWhile_le domC r
          cases he : r.dropWhile domC with
          | nil => rfl
          | cons d q =>
            rw [he] at hd
            simp only [List.length_cons] at hd h1 h2
            by_cases h58 : d = 58
            · simp only [if_pos h58]
            · by_cases h44 : d = 44
              · simp only [if_neg h58, if_pos h44, if_true]
                exact routeF_fuel n m q (by omega) (by omega)
              · simp only [if_neg h58, if_neg h44]
      · simp only [if_neg hc]

theorem routeR_cons {c : UInt8} {r : List UInt8} (h : c = 64) : routeR (c :: r) = if shapedB (r.takeWhile domC) then (match r.dropWhile domC with
    | [] => none
    | d :: q => if d = 58 then some q else if d = 44 then routeR q else none) else none := by
  unfold routeR
  rw [routeF]
  simp only [if_pos h]
  have hd := dropWhile_le domC r
  cases he : r.dropWhile domC with
  | nil => rfl
  | cons d q =>
    rw [he] at hd
    simp only [List.length_cons] at hd
    simp only
    rw [routeF_fuel (c :: r).length (q.length + 1) q (by simp; omega) (by omega)]
theorem routeR_other {c : UInt8} {r : List UInt8} (h : c ≠ 64) : routeR (c :: r) = none := by
  unfold routeR; rw [routeF]; simp only [if_neg h]
theorem routeR_nil : routeR [] = none := rfl
theorem routeF_len : ∀ (n : Nat) (l q : List UInt8), routeF n l = some q → q.length < l.length
  | 0, _, _, h => by cases h
  | n + 1, l, q, h => by
    unfold routeF at h
    cases l with
    | nil => cases h
    | cons c r =>
      by_cases hc : c = 64
      · simp only [if_pos hc] at h
        split at h
        · have hd := dropWhile_le domC r
          split at h
          · cases h
          · rename_i d p he
            rw [he] at hd
            simp only [List.length_cons] at hd ⊢
            split at h
            · injection h with h; subst h; omega
            · split at h
              · have := routeF_len n p q h; omega
              · cases h
        · cases h
      · simp only [if_neg hc] at h; cases h
theorem routeR_len {l q : List UInt8} (h : routeR l = some q) : q.length < l.length := routeF_len _ l q h

/-- The route ahead, if there is one. -/
def routeO (l : List UInt8) : Option (List UInt8) := if l.head? = some 64 then routeR l else some l

def quoteGo (acc : List UInt8) : List UInt8 → Option (List UInt8 × List UInt8)
  | [] => none
  | c :: r => if c = 34 then (if acc = [] then none else some (acc, r)) else if c = 92 then (match r with
      | [] => none
      | d :: q => if visibleB d then quoteGo (acc ++ [d]) q else none)
    else if visibleB c then quoteGo (acc ++ [c]) r else none
def wordC (c : UInt8) : Bool := atomB c || c == 46
def localO (l : List UInt8) : Option (List UInt8 × List UInt8) :=
  if l.head? = some 34 then quoteGo [] (l.drop 1) else if plainB (l.takeWhile wordC) then some (l.takeWhile wordC, l.dropWhile wordC) else none

def quoteL (l : List UInt8) : List UInt8 := l.flatMap fun c => if c = 34 ∨ c = 92 then [92, c] else [c]
def toldL (lo d : List UInt8) : List UInt8 := [60] ++ (if plainB lo then lo else [34] ++ quoteL lo ++ [34]) ++ [64] ++ d ++ [62]
def nullB (lo d : List UInt8) : Bool := lo.isEmpty && d.isEmpty
def rightB (lo d : List UInt8) : Bool := nullB lo d || (localB lo && domainB d && decide ((toldL lo d).length ≤ 256))
def printL (lo d : List UInt8) : List UInt8 := if nullB lo d then [60, 62] else if rightB lo d then toldL lo d else []

/-- Behind '<', not '>': the local part, the domain, what stands behind. -/
def coreO (l : List UInt8) : Option (List UInt8 × List UInt8 × List UInt8) :=
  match routeO l with
  | none => none
  | some r1 => match localO r1 with
    | none => none
    | some (lo, r2) => match r2 with
      | [] => none
      | c :: r3 => if c = 64 then
          if shapedB (r3.takeWhile domC) then match r3.dropWhile domC with
            | [] => none
            | e :: r5 => if e = 62 then some (lo, r3.takeWhile domC, r5) else none
          else none
        else none
def pathO (l : List UInt8) : Option (List UInt8 × List UInt8 × List UInt8) :=
  match l with
  | [] => none
  | c :: r => if c = 60 then (match r with
      | [] => none
      | d :: q => if d = 62 then some ([], [], q) else coreO r) else none
/-- Address, what stands behind, the error's number. -/
def pathL (l : List UInt8) : List UInt8 × List UInt8 × List UInt8 × Int :=
  match pathO l with
  | none => ([], [], [], 3)
  | some (lo, d, r) => if rightB lo d then (lo, d, r, 0) else ([], [], [], 5)
end Go.Proofs.YtkmikhinkbbnnaaGreatDoor.Sp
