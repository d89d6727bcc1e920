/-
  The package variables that the executor knows, and their cells. Own work; no statement of the seat is proved here.
-/
import GoSem.Claim
namespace Go.Abs
set_option linter.unusedSimpArgs false
set_option linter.unusedVariables false
def formsV : List Value := [.string ⟨#[116, 105, 99, 107]⟩, .int .i64 1, .int .i64 0, .string ⟨#[78]⟩,
  .string ⟨#[111, 110]⟩, .int .i64 2, .int .i64 0, .string ⟨#[87]⟩,
  .string ⟨#[111, 102, 102]⟩, .int .i64 3, .int .i64 0, .string ⟨#[87]⟩,
  .string ⟨#[98, 117, 100, 103, 101, 116]⟩, .int .i64 4, .int .i64 0, .string ⟨#[87, 78]⟩,
  .string ⟨#[99, 97, 110, 99, 101, 108]⟩, .int .i64 8, .int .i64 0, .string ⟨#[87]⟩,
  .string ⟨#[99, 111, 112, 121]⟩, .int .i64 10, .int .i64 0, .string ⟨#[87]⟩,
  .string ⟨#[97, 100, 100]⟩, .int .i64 16, .int .i64 0, .string ⟨#[87]⟩,
  .string ⟨#[114, 101, 109, 111, 118, 101]⟩, .int .i64 17, .int .i64 0, .string ⟨#[87]⟩,
  .string ⟨#[110, 101, 101, 100]⟩, .int .i64 18, .int .i64 0, .string ⟨#[78]⟩,
  .string ⟨#[118, 111, 116, 101]⟩, .int .i64 21, .int .i64 0, .string ⟨#[87]⟩,
  .string ⟨#[99, 111, 109, 109, 105, 116]⟩, .int .i64 22, .int .i64 0, .string ⟨#[]⟩,
  .string ⟨#[110, 111, 105, 115, 101]⟩, .int .i64 13, .int .i64 0, .string ⟨#[78, 66]⟩,
  .string ⟨#[116, 111, 117, 99, 104]⟩, .int .i64 5, .int .i64 1, .string ⟨#[87]⟩,
  .string ⟨#[102, 105, 110, 103, 101, 114]⟩, .int .i64 5, .int .i64 2, .string ⟨#[87]⟩,
  .string ⟨#[119, 114, 111, 110, 103]⟩, .int .i64 5, .int .i64 3, .string ⟨#[87]⟩,
  .string ⟨#[114, 101, 102, 117, 115, 101]⟩, .int .i64 5, .int .i64 4, .string ⟨#[87]⟩,
  .string ⟨#[98, 101, 103, 105, 110]⟩, .int .i64 6, .int .i64 0, .string ⟨#[87, 84, 78, 88]⟩,
  .string ⟨#[112, 105, 110]⟩, .int .i64 7, .int .i64 0, .string ⟨#[87, 88]⟩,
  .string ⟨#[99, 97, 108, 108]⟩, .int .i64 9, .int .i64 0, .string ⟨#[87, 67, 77, 88]⟩,
  .string ⟨#[115, 112, 108, 105, 99, 101]⟩, .int .i64 12, .int .i64 0, .string ⟨#[78, 66, 84]⟩,
  .string ⟨#[109, 111, 100, 101, 108]⟩, .int .i64 14, .int .i64 0, .string ⟨#[87, 83]⟩,
  .string ⟨#[115, 104, 97, 114, 101]⟩, .int .i64 15, .int .i64 0, .string ⟨#[87, 84, 78, 66]⟩,
  .string ⟨#[115, 116, 111, 114, 101]⟩, .int .i64 19, .int .i64 0, .string ⟨#[87, 78, 66, 84]⟩,
  .string ⟨#[114, 101, 116, 117, 114, 110]⟩, .int .i64 20, .int .i64 0, .string ⟨#[78, 84]⟩,
  .string ⟨#[114, 101, 115, 116, 111, 114, 101]⟩, .int .i64 23, .int .i64 0, .string ⟨#[78, 84, 66]⟩]
def callsV : List Value := [.string ⟨#[115, 116, 97, 114, 116, 45, 109, 97, 107, 101]⟩, .string ⟨#[102, 105, 110, 105, 115, 104, 45, 109, 97, 107, 101]⟩, .string ⟨#[115, 116, 97, 114, 116, 45, 103, 101, 116]⟩, .string ⟨#[102, 105, 110, 105, 115, 104, 45, 103, 101, 116]⟩, .string ⟨#[117, 115, 101]⟩, .string ⟨#[108, 101, 97, 118, 101]⟩, .string ⟨#[109, 101, 116, 97]⟩]
def statsV : List Value := [.string ⟨#[99, 101, 114, 116, 105, 102, 105, 101, 100]⟩, .string ⟨#[111, 117, 116, 100, 97, 116, 101, 100]⟩, .string ⟨#[99, 111, 109, 112, 114, 111, 109, 105, 115, 101, 100]⟩, .string ⟨#[119, 105, 116, 104, 100, 114, 97, 119, 110]⟩]
def globT (g : Nat) : Option (List Value) :=
  match Nat.beq g 0, Nat.beq g 1, Nat.beq g 2 with
  | true, _, _ => some formsV
  | _, true, _ => some callsV
  | _, _, true => some statsV
  | _, _, _ => none
end Go.Abs
