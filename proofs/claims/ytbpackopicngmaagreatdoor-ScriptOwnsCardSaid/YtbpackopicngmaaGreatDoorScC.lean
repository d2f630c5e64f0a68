/- Plain mathematics, part C: lines, words, steps, the reading of a script. No program here. -/
import Derived.Test.YtbpackopicngmaaGreatDoorScA
import Derived.Test.YtbpackopicngmaaGreatDoorScB
namespace Go.Proofs.Sc

/-- A step. -/
structure POp where
  kind : Int
  a : Int
  b : Int
  name : By
  text : By
  list : List Int

def POp.zero : POp := ⟨0, 0, 0, [], [], []⟩

/-- A script. -/
structure PScript where
  cap : Int
  ops : List POp

def PScript.zero : PScript := ⟨0, []⟩

def isBlank (c : UInt8) : Prop := c = 32 ∨ c = 9
instance (c : UInt8) : Decidable (isBlank c) := by unfold isBlank; infer_instance

def flush (cur : By) : List By := if cur = [] then [] else [cur]

/-- The words of what is left of a line, 'cur' being the word that is under way. -/
def wordsAux : By → By → List By
  | [], cur => flush cur
  | c :: r, cur => if c = 35 then flush cur else if isBlank c then flush cur ++ wordsAux r [] else wordsAux r (cur ++ [c])

def wordsOf (l : By) : List By := wordsAux l []

/-- The lines of a text: what stands behind the last newline byte is one too, be it empty. -/
def linesOf : By → List By
  | [] => [[]]
  | c :: r => if c = 10 then [] :: linesOf r else match linesOf r with
    | [] => [[c]]
    | l :: ls => (c :: l) :: ls

def kindWords : List By :=
  [[112,117,116], [98,117,105,108,100], [97,117,100,105,116], [100,101,99,111,109,112,111,115,101], [114,101,115,117,109,101], [111,114,100,101,114], [101,120,116,114,97,99,116],
   [110,101,115,116], [99,104,97,110,103,101], [99,111,114,101], [112,108,97,99,101], [115,104,101,108,108,115], [105,110,102,111], [114,101,97,100], [110,97,109,101,115],
   [97,114,109], [99,114,97,115,104], [114,111,116], [114,101,109,111,118,101]]

/-- The fields: 78 the name, 84 the text, 65, 66 numbers, 76 the list. -/
def kindFields : List By :=
  [[78,84], [78,65,66,76], [65,66], [65], [65], [], [65], [], [78], [65], [65], [], [], [78], [], [65], [65,76], [78,65,66], [78]]

def wordOf (k : Int) : By := if k < 1 ∨ 19 < k then [] else kindWords.getD (k - 1).toNat []
def fieldsOf (k : Int) : By := kindFields.getD (k - 1).toNat []

/-- The kind of the step of that word, from kind k on ('n' of them left). -/
def kindFrom (w : By) : Nat → Int → Int
  | 0, _ => 0
  | n + 1, k => if wordOf k = w then k else kindFrom w n (k + 1)

def kindOf (w : By) : Int := kindFrom w 19 1

/-- A word read into its field. -/
def setF (o : POp) (f : UInt8) (w : By) : Except Int POp :=
  if f = 78 then match unescape w with | some t => .ok { o with name := t } | none => .error 265
  else if f = 84 then match unescape w with | some t => .ok { o with text := t } | none => .error 265
  else match numR w with
    | none => .error 262
    | some n => if f = 65 then .ok { o with a := n } else if f = 66 then .ok { o with b := n } else .ok { o with list := o.list ++ [n] }

/-- The words read, field by field; behind the fields each word is a number of the list. -/
def setAll : POp → By → List By → Except Int POp
  | o, _, [] => .ok o
  | o, [], w :: ws => match setF o 76 w with | .ok o' => setAll o' [] ws | .error e => .error e
  | o, f :: fs, w :: ws => match setF o f w with | .ok o' => setAll o' fs ws | .error e => .error e

def hasList (fs : By) : Bool := fs.getLast? == some 76
def plain (fs : By) : By := if hasList fs then fs.dropLast else fs

/-- A line that is a step. -/
def stepOf (ws : List By) : Except Int POp :=
  match ws with
  | [] => .error 261
  | w :: ws =>
    if kindOf w = 0 then .error 261
    else if ws.length < (plain (fieldsOf (kindOf w))).length ∨ (¬ hasList (fieldsOf (kindOf w)) ∧ (plain (fieldsOf (kindOf w))).length < ws.length) then .error 263
    else setAll { POp.zero with kind := kindOf w } (plain (fieldsOf (kindOf w))) ws

def headWord : By := [112, 105, 116, 104]

/-- The first line. -/
def headOf (ws : List By) : Except Int Int :=
  match ws with
  | [] => .error 260
  | w :: r => if w ≠ headWord then .error 260 else match r with
    | [n] => match numR n with | some n => .ok n | none => .error 262
    | _ => .error 263

/-- What has been read: nothing yet, or the cap and the steps. -/
abbrev PSt := Option PScript

def lineStep (st : PSt) (line : By) : Except Int PSt :=
  if wordsOf line = [] then .ok st
  else match st with
    | none => match headOf (wordsOf line) with | .ok n => .ok (some ⟨n, []⟩) | .error e => .error e
    | some s => if s.ops.length = 2000 then .error 264 else match stepOf (wordsOf line) with
      | .ok o => .ok (some ⟨s.cap, s.ops ++ [o]⟩)
      | .error e => .error e

/-- The lines read from line 'no + 1' on: the script, the line and the error. -/
def parseL : PSt → Nat → List By → PScript × Int × Int
  | none, _, [] => (.zero, 0, 260)
  | some s, _, [] => (s, 0, 0)
  | st, no, l :: ls => match lineStep st l with
    | .ok st' => parseL st' (no + 1) ls
    | .error e => (.zero, (no : Int) + 1, e)

def parse (t : By) : PScript × Int × Int := if 1048576 < t.length then (.zero, 0, 264) else parseL none 0 (linesOf t)

end Go.Proofs.Sc
