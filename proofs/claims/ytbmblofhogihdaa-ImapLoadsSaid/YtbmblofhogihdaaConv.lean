/- The conversion of bytes to a text, kept whole till its world is known. -/
import Derived.Test.YtbmblofhogihdaaMem
namespace Go.Proofs.Ytbmblofhogihdaa
open Go.RowKit

/-- What the conversion of a slice of bytes to a text says, under one name. -/
theorem cv_ex (P : Program) (s d : TypeId) : ∃ f : Value → World → Result Value, ∀ (A : Option Addr) (n c : Nat) (w : World), (convert s d (.slice A n c)).run P w = f (.slice A n c) w :=
  ⟨fun v w => (convert s d v).run P w, fun _ _ _ _ => rfl⟩
theorem cv_txt {P : Program} {src dst e : TypeId} {f : Value → World → Result Value} (hf : ∀ (A : Option Addr) (n c : Nat) (w : World), (convert src dst (.slice A n c)).run P w = f (.slice A n c) w)
    (hs : P.underlying src = some (.slice e)) (he : P.underlying e = some (.int .u8)) (hd : P.underlying dst = some .string)
    {w : World} {B : Nat} {A : Option Addr} {n : Nat} (c : Nat) {l : List UInt8} (h : By w B A n l) : f (.slice A n c) w = .ok (.string (txt l)) w := (hf _ _ _ _).symm.trans (run_conv_txt w hs he hd c h)
end Go.Proofs.Ytbmblofhogihdaa
