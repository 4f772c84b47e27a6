import Derived.Test.YteglnpanimgelaaGreatDoorSha
namespace Go.Proofs.YteglnpanimgelaaGreatDoor.Sha
def z32 : List UInt8 := List.replicate 32 0
def msg0 : List UInt8 := [2] ++ List.replicate 87 0
theorem differ : (keyed (1 :: List.replicate 31 0) msg0 == keyed (2 :: List.replicate 31 0) msg0) = false := by decide +kernel
end Go.Proofs.YteglnpanimgelaaGreatDoor.Sha
