import Derived.Test.YtoobogpbejdocaaDoorEvBase
namespace Go.Proofs.YtoobogpbejdocaaDoor.Ev
abbrev Jm (a b : Nat) : Item := .op (some a) (.mov (.t b))
abbrev Jl (a b : Nat) : Item := .op (some a) (.load none (.t b))
abbrev Jk (a k b : Nat) : Item := .op (some a) (.load (some k) (.t b))
abbrev Jf (a k b : Nat) : Item := .op (some a) (.fa k (.t b))
abbrev Js (k a b : Nat) : Item := .op none (.store k (.t a) (.t b))
abbrev Je (a k b : Nat) : Item := .op (some a) (.ext k (.t b))
abbrev Jn (a b : Nat) : Item := .op (some a) (.len (.t b))
abbrev Ji (a k b c : Nat) : Item := .op (some a) (.ias k (.t b) (.t c))
abbrev Jb (a : Nat) (o : BinOp) (b c : Nat) : Item := .op (some a) (.bin o (.t b) (.t c))
abbrev Jc (a : Nat) (o : BinOp) (b : Nat) (n : Int) : Item := .op (some a) (.bin o (.t b) (.c (.v (.int .i64 n))))
abbrev Jq (a : Nat) (n : Int) : Item := .op (some a) (.mov (.c (.v (.int .i64 n))))
abbrev Jy (a : Nat) (b : Bool) : Item := .op (some a) (.mov (.c (.v (.bool b))))
abbrev Jw (a : Nat) : Item := .op (some a) (.mov (.c (.v (.slice none 0 0))))
abbrev JzS : List AV := [.v (.int .i64 0), .v (.string ⟨#[]⟩), .v (.int .i64 0), .v (.int .i64 0), .v (.int .i64 0), .v (.int .i64 0), .v (.bool false), .v (.int .i64 0), .v (.int .i64 0)]
abbrev JzC : List AV := [.v (.int .i64 0), .v (.int .i64 0), .v (.bool false), .v (.int .i64 0), .v (.string ⟨#[]⟩), .v (.string ⟨#[]⟩)]
abbrev JzX : List AV := [.v (.slice none 0 0), .v (.slice none 0 0), .v (.int .i64 0)]
end Go.Proofs.YtoobogpbejdocaaDoor.Ev
