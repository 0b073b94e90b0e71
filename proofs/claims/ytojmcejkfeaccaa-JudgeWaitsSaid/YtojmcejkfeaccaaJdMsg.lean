/-
  A message's fields, as the walks of the package judge name them.
-/
import Derived.WalkKit
namespace JdMsg
open Go
structure Msg where
  id : Int
  at_ : Int
  rel : Int
  fl : ByteArray
  fd : ByteArray
  hsz : Bool
  hhf : Bool
  hhu : Bool
  hby : Bool
  hpr : Bool
  siz : Int
  hfo : Int
  hun : Int
  by_ : Int
  pri : Int
  body : ByteArray
  ret : ByteArray
  env : ByteArray
  mode : ByteArray
  rA : Option Addr
  rn : Nat
  rc : Nat
  lA : Option Addr
  ln : Nat
  lc : Nat
end JdMsg
