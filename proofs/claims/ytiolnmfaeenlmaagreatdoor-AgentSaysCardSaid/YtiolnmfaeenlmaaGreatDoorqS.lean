/- rules.Sheet of the agent's text and agent.Rules, handed back as own rows. -/
import Derived.Test.YtiolnmfaeenlmaaGreatDoorqo
import Derived.Test.YtiolnmfaeenlmaaGreatDoorq1
namespace Go.Proofs.YtiolnmfaeenlmaaGreatDoor
open Go Go.RowKit
set_option maxRecDepth 20000

def agP0 : List Nd := [lf ⟨1, ⟨#[104, 116, 109, 108]⟩, 0, false, false, false⟩, lf ⟨18, ⟨#[]⟩, 0, false, false, false⟩, lf ⟨13, ⟨#[]⟩, 0, false, false, false⟩, lf ⟨1, ⟨#[98, 111, 100, 121]⟩, 0, false, false, false⟩, lf ⟨18, ⟨#[]⟩, 0, false, false, false⟩, lf ⟨13, ⟨#[]⟩, 0, false, false, false⟩, lf ⟨1, ⟨#[100, 105, 118]⟩, 0, false, false, false⟩, lf ⟨18, ⟨#[]⟩, 0, false, false, false⟩, lf ⟨13, ⟨#[]⟩, 0, false, false, false⟩, lf ⟨1, ⟨#[112]⟩, 0, false, false, false⟩, lf ⟨18, ⟨#[]⟩, 0, false, false, false⟩, lf ⟨13, ⟨#[]⟩, 0, false, false, false⟩, lf ⟨1, ⟨#[111, 108]⟩, 0, false, false, false⟩, lf ⟨18, ⟨#[]⟩, 0, false, false, false⟩, lf ⟨13, ⟨#[]⟩, 0, false, false, false⟩, lf ⟨1, ⟨#[117, 108]⟩, 0, false, false, false⟩, lf ⟨18, ⟨#[]⟩, 0, false, false, false⟩, lf ⟨13, ⟨#[]⟩, 0, false, false, false⟩, lf ⟨1, ⟨#[109, 101, 110, 117]⟩, 0, false, false, false⟩, lf ⟨18, ⟨#[]⟩, 0, false, false, false⟩, lf ⟨13, ⟨#[]⟩, 0, false, false, false⟩, lf ⟨1, ⟨#[104, 49]⟩, 0, false, false, false⟩, lf ⟨18, ⟨#[]⟩, 0, false, false, false⟩, lf ⟨13, ⟨#[]⟩, 0, false, false, false⟩, lf ⟨1, ⟨#[104, 50]⟩, 0, false, false, false⟩, lf ⟨18, ⟨#[]⟩, 0, false, false, false⟩, lf ⟨13, ⟨#[]⟩, 0, false, false, false⟩, lf ⟨1, ⟨#[104, 51]⟩, 0, false, false, false⟩, lf ⟨18, ⟨#[]⟩, 0, false, false, false⟩, lf ⟨13, ⟨#[]⟩, 0, false, false, false⟩, lf ⟨1, ⟨#[115, 101, 99, 116, 105, 111, 110]⟩, 0, false, false, false⟩, lf ⟨13, ⟨#[]⟩, 0, false, false, false⟩, .mk ⟨19, ⟨#[123]⟩, 0, false, false, false⟩ [lf ⟨13, ⟨#[]⟩, 0, false, false, false⟩, lf ⟨1, ⟨#[100, 105, 115, 112, 108, 97, 121]⟩, 0, false, false, false⟩, lf ⟨16, ⟨#[]⟩, 0, false, false, false⟩, lf ⟨13, ⟨#[]⟩, 0, false, false, false⟩, lf ⟨1, ⟨#[98, 108, 111, 99, 107]⟩, 0, false, false, false⟩, lf ⟨13, ⟨#[]⟩, 0, false, false, false⟩]]
def agP1 : List Nd := [lf ⟨1, ⟨#[108, 105]⟩, 0, false, false, false⟩, lf ⟨13, ⟨#[]⟩, 0, false, false, false⟩, .mk ⟨19, ⟨#[123]⟩, 0, false, false, false⟩ [lf ⟨13, ⟨#[]⟩, 0, false, false, false⟩, lf ⟨1, ⟨#[100, 105, 115, 112, 108, 97, 121]⟩, 0, false, false, false⟩, lf ⟨16, ⟨#[]⟩, 0, false, false, false⟩, lf ⟨13, ⟨#[]⟩, 0, false, false, false⟩, lf ⟨1, ⟨#[108, 105, 115, 116, 45, 105, 116, 101, 109]⟩, 0, false, false, false⟩, lf ⟨13, ⟨#[]⟩, 0, false, false, false⟩]]
def agP2 : List Nd := [lf ⟨1, ⟨#[104, 101, 97, 100]⟩, 0, false, false, false⟩, lf ⟨18, ⟨#[]⟩, 0, false, false, false⟩, lf ⟨13, ⟨#[]⟩, 0, false, false, false⟩, lf ⟨1, ⟨#[115, 116, 121, 108, 101]⟩, 0, false, false, false⟩, lf ⟨18, ⟨#[]⟩, 0, false, false, false⟩, lf ⟨13, ⟨#[]⟩, 0, false, false, false⟩, lf ⟨1, ⟨#[115, 99, 114, 105, 112, 116]⟩, 0, false, false, false⟩, lf ⟨18, ⟨#[]⟩, 0, false, false, false⟩, lf ⟨13, ⟨#[]⟩, 0, false, false, false⟩, lf ⟨1, ⟨#[116, 105, 116, 108, 101]⟩, 0, false, false, false⟩, lf ⟨18, ⟨#[]⟩, 0, false, false, false⟩, lf ⟨13, ⟨#[]⟩, 0, false, false, false⟩, lf ⟨1, ⟨#[116, 101, 109, 112, 108, 97, 116, 101]⟩, 0, false, false, false⟩, lf ⟨13, ⟨#[]⟩, 0, false, false, false⟩, .mk ⟨19, ⟨#[123]⟩, 0, false, false, false⟩ [lf ⟨13, ⟨#[]⟩, 0, false, false, false⟩, lf ⟨1, ⟨#[100, 105, 115, 112, 108, 97, 121]⟩, 0, false, false, false⟩, lf ⟨16, ⟨#[]⟩, 0, false, false, false⟩, lf ⟨13, ⟨#[]⟩, 0, false, false, false⟩, lf ⟨1, ⟨#[110, 111, 110, 101]⟩, 0, false, false, false⟩, lf ⟨13, ⟨#[]⟩, 0, false, false, false⟩]]
def agP3 : List Nd := [lf ⟨1, ⟨#[111, 108]⟩, 0, false, false, false⟩, lf ⟨13, ⟨#[]⟩, 0, false, false, false⟩, .mk ⟨19, ⟨#[123]⟩, 0, false, false, false⟩ [lf ⟨13, ⟨#[]⟩, 0, false, false, false⟩, lf ⟨1, ⟨#[108, 105, 115, 116, 45, 115, 116, 121, 108, 101, 45, 116, 121, 112, 101]⟩, 0, false, false, false⟩, lf ⟨16, ⟨#[]⟩, 0, false, false, false⟩, lf ⟨13, ⟨#[]⟩, 0, false, false, false⟩, lf ⟨1, ⟨#[100, 101, 99, 105, 109, 97, 108]⟩, 0, false, false, false⟩, lf ⟨13, ⟨#[]⟩, 0, false, false, false⟩]]
def agP4 : List Nd := [lf ⟨1, ⟨#[117, 108]⟩, 0, false, false, false⟩, lf ⟨18, ⟨#[]⟩, 0, false, false, false⟩, lf ⟨13, ⟨#[]⟩, 0, false, false, false⟩, lf ⟨1, ⟨#[109, 101, 110, 117]⟩, 0, false, false, false⟩, lf ⟨13, ⟨#[]⟩, 0, false, false, false⟩, .mk ⟨19, ⟨#[123]⟩, 0, false, false, false⟩ [lf ⟨13, ⟨#[]⟩, 0, false, false, false⟩, lf ⟨1, ⟨#[108, 105, 115, 116, 45, 115, 116, 121, 108, 101, 45, 116, 121, 112, 101]⟩, 0, false, false, false⟩, lf ⟨16, ⟨#[]⟩, 0, false, false, false⟩, lf ⟨13, ⟨#[]⟩, 0, false, false, false⟩, lf ⟨1, ⟨#[100, 105, 115, 99]⟩, 0, false, false, false⟩, lf ⟨13, ⟨#[]⟩, 0, false, false, false⟩]]
def agP5 : List Nd := [lf ⟨1, ⟨#[117, 108]⟩, 0, false, false, false⟩, lf ⟨13, ⟨#[]⟩, 0, false, false, false⟩, lf ⟨1, ⟨#[117, 108]⟩, 0, false, false, false⟩, lf ⟨18, ⟨#[]⟩, 0, false, false, false⟩, lf ⟨13, ⟨#[]⟩, 0, false, false, false⟩, lf ⟨1, ⟨#[111, 108]⟩, 0, false, false, false⟩, lf ⟨13, ⟨#[]⟩, 0, false, false, false⟩, lf ⟨1, ⟨#[117, 108]⟩, 0, false, false, false⟩, lf ⟨13, ⟨#[]⟩, 0, false, false, false⟩, .mk ⟨19, ⟨#[123]⟩, 0, false, false, false⟩ [lf ⟨13, ⟨#[]⟩, 0, false, false, false⟩, lf ⟨1, ⟨#[108, 105, 115, 116, 45, 115, 116, 121, 108, 101, 45, 116, 121, 112, 101]⟩, 0, false, false, false⟩, lf ⟨16, ⟨#[]⟩, 0, false, false, false⟩, lf ⟨13, ⟨#[]⟩, 0, false, false, false⟩, lf ⟨1, ⟨#[99, 105, 114, 99, 108, 101]⟩, 0, false, false, false⟩, lf ⟨13, ⟨#[]⟩, 0, false, false, false⟩]]
def agP6 : List Nd := [lf ⟨1, ⟨#[113]⟩, 0, false, false, false⟩, lf ⟨16, ⟨#[]⟩, 0, false, false, false⟩, lf ⟨16, ⟨#[]⟩, 0, false, false, false⟩, lf ⟨1, ⟨#[98, 101, 102, 111, 114, 101]⟩, 0, false, false, false⟩, lf ⟨13, ⟨#[]⟩, 0, false, false, false⟩, .mk ⟨19, ⟨#[123]⟩, 0, false, false, false⟩ [lf ⟨13, ⟨#[]⟩, 0, false, false, false⟩, lf ⟨1, ⟨#[99, 111, 110, 116, 101, 110, 116]⟩, 0, false, false, false⟩, lf ⟨16, ⟨#[]⟩, 0, false, false, false⟩, lf ⟨13, ⟨#[]⟩, 0, false, false, false⟩, lf ⟨1, ⟨#[111, 112, 101, 110, 45, 113, 117, 111, 116, 101]⟩, 0, false, false, false⟩, lf ⟨13, ⟨#[]⟩, 0, false, false, false⟩]]
def agP7 : List Nd := [lf ⟨1, ⟨#[113]⟩, 0, false, false, false⟩, lf ⟨16, ⟨#[]⟩, 0, false, false, false⟩, lf ⟨16, ⟨#[]⟩, 0, false, false, false⟩, lf ⟨1, ⟨#[97, 102, 116, 101, 114]⟩, 0, false, false, false⟩, lf ⟨13, ⟨#[]⟩, 0, false, false, false⟩, .mk ⟨19, ⟨#[123]⟩, 0, false, false, false⟩ [lf ⟨13, ⟨#[]⟩, 0, false, false, false⟩, lf ⟨1, ⟨#[99, 111, 110, 116, 101, 110, 116]⟩, 0, false, false, false⟩, lf ⟨16, ⟨#[]⟩, 0, false, false, false⟩, lf ⟨13, ⟨#[]⟩, 0, false, false, false⟩, lf ⟨1, ⟨#[99, 108, 111, 115, 101, 45, 113, 117, 111, 116, 101]⟩, 0, false, false, false⟩, lf ⟨13, ⟨#[]⟩, 0, false, false, false⟩]]
def agL : List Nd := agP0 ++ [lf ⟨13, ⟨#[]⟩, 0, false, false, false⟩] ++ agP1 ++ [lf ⟨13, ⟨#[]⟩, 0, false, false, false⟩] ++ agP2 ++ [lf ⟨13, ⟨#[]⟩, 0, false, false, false⟩] ++ agP3 ++ [lf ⟨13, ⟨#[]⟩, 0, false, false, false⟩] ++ agP4 ++ [lf ⟨13, ⟨#[]⟩, 0, false, false, false⟩] ++ agP5 ++ [lf ⟨13, ⟨#[]⟩, 0, false, false, false⟩] ++ agP6 ++ [lf ⟨13, ⟨#[]⟩, 0, false, false, false⟩] ++ agP7
theorem agL_eq : allF agB = agL := by kernel_rfl
def agAt (n : Nat) : Nat := [0, 33, 34, 37, 38, 53, 54, 57, 58, 64, 65, 75, 76, 82, 83, 89].getD n 0
def cA (i : Nat) : List AV := [.val (.string ⟨#[]⟩), .row (i + 1) 0, .val (.bool true), .row (i + 2) 0]
/-- What is asked of the agent's nodes. -/
structure AgN (l : List Nd) : Prop where
  len : l.length = 89
  s0 : skB (ndAt l 0) = false
  a0 : atKB (ndAt l 0) = false
  e0 : enI l 0 = 32
  b0 : blkB (ndAt l 32) = true
  r0 : rlAt l 0 = agR0
  s1 : skB (ndAt l 34) = false
  a1 : atKB (ndAt l 34) = false
  e1 : enI l 34 = 36
  b1 : blkB (ndAt l 36) = true
  r1 : rlAt l 34 = agR1
  s2 : skB (ndAt l 38) = false
  a2 : atKB (ndAt l 38) = false
  e2 : enI l 38 = 52
  b2 : blkB (ndAt l 52) = true
  r2 : rlAt l 38 = agR2
  s3 : skB (ndAt l 54) = false
  a3 : atKB (ndAt l 54) = false
  e3 : enI l 54 = 56
  b3 : blkB (ndAt l 56) = true
  r3 : rlAt l 54 = agR3
  s4 : skB (ndAt l 58) = false
  a4 : atKB (ndAt l 58) = false
  e4 : enI l 58 = 63
  b4 : blkB (ndAt l 63) = true
  r4 : rlAt l 58 = agR4
  s5 : skB (ndAt l 65) = false
  a5 : atKB (ndAt l 65) = false
  e5 : enI l 65 = 74
  b5 : blkB (ndAt l 74) = true
  r5 : rlAt l 65 = agR5
  s6 : skB (ndAt l 76) = false
  a6 : atKB (ndAt l 76) = false
  e6 : enI l 76 = 81
  b6 : blkB (ndAt l 81) = true
  r6 : rlAt l 76 = agR6
  s7 : skB (ndAt l 83) = false
  a7 : atKB (ndAt l 83) = false
  e7 : enI l 83 = 88
  b7 : blkB (ndAt l 88) = true
  r7 : rlAt l 83 = agR7
  w0 : skB (ndAt l 33) = true
  w1 : skB (ndAt l 37) = true
  w2 : skB (ndAt l 53) = true
  w3 : skB (ndAt l 57) = true
  w4 : skB (ndAt l 64) = true
  w5 : skB (ndAt l 75) = true
  w6 : skB (ndAt l 82) = true
theorem agN : AgN agL := ⟨by kernel_rfl, by kernel_rfl, by kernel_rfl, by kernel_rfl, by kernel_rfl, by kernel_rfl, by kernel_rfl, by kernel_rfl, by kernel_rfl, by kernel_rfl, by kernel_rfl, by kernel_rfl, by kernel_rfl, by kernel_rfl, by kernel_rfl, by kernel_rfl, by kernel_rfl, by kernel_rfl, by kernel_rfl, by kernel_rfl, by kernel_rfl, by kernel_rfl, by kernel_rfl, by kernel_rfl, by kernel_rfl, by kernel_rfl, by kernel_rfl, by kernel_rfl, by kernel_rfl, by kernel_rfl, by kernel_rfl, by kernel_rfl, by kernel_rfl, by kernel_rfl, by kernel_rfl, by kernel_rfl, by kernel_rfl, by kernel_rfl, by kernel_rfl, by kernel_rfl, by kernel_rfl, by kernel_rfl, by kernel_rfl, by kernel_rfl, by kernel_rfl, by kernel_rfl, by kernel_rfl, by kernel_rfl⟩
def shM : Nat → List AB
  | 0 => []
  | 1 => [.box 45 (cA 0), .row 0 49 7 (agR0.pre.map nF), .row 0 51 3 (agR0.decls.map dcD), .box 45 (cA 0), .rowo 0 45 4 [] 1 (cA 0), .rowo 0 45 4 [] 1 [.val (.string ⟨#[]⟩), .row 1 0, .val (.bool true), .row 2 0]]
  | 2 => [.box 45 (cA 0), .row 0 49 7 (agR0.pre.map nF), .row 0 51 3 (agR0.decls.map dcD), .box 45 (cA 0), .rowo 0 45 4 [] 1 (cA 0), .rowo 2 45 4 [] 2 [.val (.string ⟨#[]⟩), .row 1 0, .val (.bool true), .row 2 0, .val (.string ⟨#[]⟩), .row 7 0, .val (.bool true), .row 8 0], .box 45 (cA 6), .row 0 49 7 (agR1.pre.map nF), .row 0 51 3 (agR1.decls.map dcD), .box 45 (cA 6), .rowo 0 45 4 [] 1 (cA 6)]
  | 3 => [.box 45 (cA 0), .row 0 49 7 (agR0.pre.map nF), .row 0 51 3 (agR0.decls.map dcD), .box 45 (cA 0), .rowo 0 45 4 [] 1 (cA 0), .rowo 4 45 4 [] 3 [.val (.string ⟨#[]⟩), .row 1 0, .val (.bool true), .row 2 0, .val (.string ⟨#[]⟩), .row 7 0, .val (.bool true), .row 8 0, .val (.string ⟨#[]⟩), .row 12 0, .val (.bool true), .row 13 0], .box 45 (cA 6), .row 0 49 7 (agR1.pre.map nF), .row 0 51 3 (agR1.decls.map dcD), .box 45 (cA 6), .rowo 0 45 4 [] 1 (cA 6), .box 45 (cA 11), .row 0 49 7 (agR2.pre.map nF), .row 0 51 3 (agR2.decls.map dcD), .box 45 (cA 11), .rowo 0 45 4 [] 1 (cA 11)]
  | 4 => [.box 45 (cA 0), .row 0 49 7 (agR0.pre.map nF), .row 0 51 3 (agR0.decls.map dcD), .box 45 (cA 0), .rowo 0 45 4 [] 1 (cA 0), .rowo 6 45 4 [] 4 [.val (.string ⟨#[]⟩), .row 1 0, .val (.bool true), .row 2 0, .val (.string ⟨#[]⟩), .row 7 0, .val (.bool true), .row 8 0, .val (.string ⟨#[]⟩), .row 12 0, .val (.bool true), .row 13 0, .val (.string ⟨#[]⟩), .row 17 0, .val (.bool true), .row 18 0], .box 45 (cA 6), .row 0 49 7 (agR1.pre.map nF), .row 0 51 3 (agR1.decls.map dcD), .box 45 (cA 6), .rowo 0 45 4 [] 1 (cA 6), .box 45 (cA 11), .row 0 49 7 (agR2.pre.map nF), .row 0 51 3 (agR2.decls.map dcD), .box 45 (cA 11), .rowo 0 45 4 [] 1 (cA 11), .box 45 (cA 16), .row 0 49 7 (agR3.pre.map nF), .row 0 51 3 (agR3.decls.map dcD), .box 45 (cA 16), .rowo 0 45 4 [] 1 (cA 16)]
  | 5 => [.box 45 (cA 0), .row 0 49 7 (agR0.pre.map nF), .row 0 51 3 (agR0.decls.map dcD), .box 45 (cA 0), .rowo 0 45 4 [] 1 (cA 0), .rowo 8 45 4 [] 5 [.val (.string ⟨#[]⟩), .row 1 0, .val (.bool true), .row 2 0, .val (.string ⟨#[]⟩), .row 7 0, .val (.bool true), .row 8 0, .val (.string ⟨#[]⟩), .row 12 0, .val (.bool true), .row 13 0, .val (.string ⟨#[]⟩), .row 17 0, .val (.bool true), .row 18 0, .val (.string ⟨#[]⟩), .row 22 0, .val (.bool true), .row 23 0], .box 45 (cA 6), .row 0 49 7 (agR1.pre.map nF), .row 0 51 3 (agR1.decls.map dcD), .box 45 (cA 6), .rowo 0 45 4 [] 1 (cA 6), .box 45 (cA 11), .row 0 49 7 (agR2.pre.map nF), .row 0 51 3 (agR2.decls.map dcD), .box 45 (cA 11), .rowo 0 45 4 [] 1 (cA 11), .box 45 (cA 16), .row 0 49 7 (agR3.pre.map nF), .row 0 51 3 (agR3.decls.map dcD), .box 45 (cA 16), .rowo 0 45 4 [] 1 (cA 16), .box 45 (cA 21), .row 0 49 7 (agR4.pre.map nF), .row 0 51 3 (agR4.decls.map dcD), .box 45 (cA 21), .rowo 0 45 4 [] 1 (cA 21)]
  | 6 => [.box 45 (cA 0), .row 0 49 7 (agR0.pre.map nF), .row 0 51 3 (agR0.decls.map dcD), .box 45 (cA 0), .rowo 0 45 4 [] 1 (cA 0), .rowo 10 45 4 [] 6 [.val (.string ⟨#[]⟩), .row 1 0, .val (.bool true), .row 2 0, .val (.string ⟨#[]⟩), .row 7 0, .val (.bool true), .row 8 0, .val (.string ⟨#[]⟩), .row 12 0, .val (.bool true), .row 13 0, .val (.string ⟨#[]⟩), .row 17 0, .val (.bool true), .row 18 0, .val (.string ⟨#[]⟩), .row 22 0, .val (.bool true), .row 23 0, .val (.string ⟨#[]⟩), .row 27 0, .val (.bool true), .row 28 0], .box 45 (cA 6), .row 0 49 7 (agR1.pre.map nF), .row 0 51 3 (agR1.decls.map dcD), .box 45 (cA 6), .rowo 0 45 4 [] 1 (cA 6), .box 45 (cA 11), .row 0 49 7 (agR2.pre.map nF), .row 0 51 3 (agR2.decls.map dcD), .box 45 (cA 11), .rowo 0 45 4 [] 1 (cA 11), .box 45 (cA 16), .row 0 49 7 (agR3.pre.map nF), .row 0 51 3 (agR3.decls.map dcD), .box 45 (cA 16), .rowo 0 45 4 [] 1 (cA 16), .box 45 (cA 21), .row 0 49 7 (agR4.pre.map nF), .row 0 51 3 (agR4.decls.map dcD), .box 45 (cA 21), .rowo 0 45 4 [] 1 (cA 21), .box 45 (cA 26), .row 0 49 7 (agR5.pre.map nF), .row 0 51 3 (agR5.decls.map dcD), .box 45 (cA 26), .rowo 0 45 4 [] 1 (cA 26)]
  | 7 => [.box 45 (cA 0), .row 0 49 7 (agR0.pre.map nF), .row 0 51 3 (agR0.decls.map dcD), .box 45 (cA 0), .rowo 0 45 4 [] 1 (cA 0), .rowo 12 45 4 [] 7 [.val (.string ⟨#[]⟩), .row 1 0, .val (.bool true), .row 2 0, .val (.string ⟨#[]⟩), .row 7 0, .val (.bool true), .row 8 0, .val (.string ⟨#[]⟩), .row 12 0, .val (.bool true), .row 13 0, .val (.string ⟨#[]⟩), .row 17 0, .val (.bool true), .row 18 0, .val (.string ⟨#[]⟩), .row 22 0, .val (.bool true), .row 23 0, .val (.string ⟨#[]⟩), .row 27 0, .val (.bool true), .row 28 0, .val (.string ⟨#[]⟩), .row 32 0, .val (.bool true), .row 33 0], .box 45 (cA 6), .row 0 49 7 (agR1.pre.map nF), .row 0 51 3 (agR1.decls.map dcD), .box 45 (cA 6), .rowo 0 45 4 [] 1 (cA 6), .box 45 (cA 11), .row 0 49 7 (agR2.pre.map nF), .row 0 51 3 (agR2.decls.map dcD), .box 45 (cA 11), .rowo 0 45 4 [] 1 (cA 11), .box 45 (cA 16), .row 0 49 7 (agR3.pre.map nF), .row 0 51 3 (agR3.decls.map dcD), .box 45 (cA 16), .rowo 0 45 4 [] 1 (cA 16), .box 45 (cA 21), .row 0 49 7 (agR4.pre.map nF), .row 0 51 3 (agR4.decls.map dcD), .box 45 (cA 21), .rowo 0 45 4 [] 1 (cA 21), .box 45 (cA 26), .row 0 49 7 (agR5.pre.map nF), .row 0 51 3 (agR5.decls.map dcD), .box 45 (cA 26), .rowo 0 45 4 [] 1 (cA 26), .box 45 (cA 31), .row 0 49 7 (agR6.pre.map nF), .row 0 51 3 (agR6.decls.map dcD), .box 45 (cA 31), .rowo 0 45 4 [] 1 (cA 31)]
  | _ => [.box 45 (cA 0), .row 0 49 7 (agR0.pre.map nF), .row 0 51 3 (agR0.decls.map dcD), .box 45 (cA 0), .rowo 0 45 4 [] 1 (cA 0), .rowo 14 45 4 [] 8 [.val (.string ⟨#[]⟩), .row 1 0, .val (.bool true), .row 2 0, .val (.string ⟨#[]⟩), .row 7 0, .val (.bool true), .row 8 0, .val (.string ⟨#[]⟩), .row 12 0, .val (.bool true), .row 13 0, .val (.string ⟨#[]⟩), .row 17 0, .val (.bool true), .row 18 0, .val (.string ⟨#[]⟩), .row 22 0, .val (.bool true), .row 23 0, .val (.string ⟨#[]⟩), .row 27 0, .val (.bool true), .row 28 0, .val (.string ⟨#[]⟩), .row 32 0, .val (.bool true), .row 33 0, .val (.string ⟨#[]⟩), .row 37 0, .val (.bool true), .row 38 0], .box 45 (cA 6), .row 0 49 7 (agR1.pre.map nF), .row 0 51 3 (agR1.decls.map dcD), .box 45 (cA 6), .rowo 0 45 4 [] 1 (cA 6), .box 45 (cA 11), .row 0 49 7 (agR2.pre.map nF), .row 0 51 3 (agR2.decls.map dcD), .box 45 (cA 11), .rowo 0 45 4 [] 1 (cA 11), .box 45 (cA 16), .row 0 49 7 (agR3.pre.map nF), .row 0 51 3 (agR3.decls.map dcD), .box 45 (cA 16), .rowo 0 45 4 [] 1 (cA 16), .box 45 (cA 21), .row 0 49 7 (agR4.pre.map nF), .row 0 51 3 (agR4.decls.map dcD), .box 45 (cA 21), .rowo 0 45 4 [] 1 (cA 21), .box 45 (cA 26), .row 0 49 7 (agR5.pre.map nF), .row 0 51 3 (agR5.decls.map dcD), .box 45 (cA 26), .rowo 0 45 4 [] 1 (cA 26), .box 45 (cA 31), .row 0 49 7 (agR6.pre.map nF), .row 0 51 3 (agR6.decls.map dcD), .box 45 (cA 31), .rowo 0 45 4 [] 1 (cA 31), .box 45 (cA 36), .row 0 49 7 (agR7.pre.map nF), .row 0 51 3 (agR7.decls.map dcD), .box 45 (cA 36), .rowo 0 45 4 [] 1 (cA 36)]
def shD (n : Nat) : Nat := [0, 1, 1, 2, 2, 3, 3, 4, 4, 5, 5, 6, 6, 7, 7, 8].getD n 0
def shO : Nat → AV
  | 0 => .val (.slice none 0 0)
  | 1 => .row 5 0
  | 2 => .row 5 2
  | 3 => .row 5 4
  | 4 => .row 5 6
  | 5 => .row 5 8
  | 6 => .row 5 10
  | 7 => .row 5 12
  | _ => .row 5 14
set_option maxHeartbeats 16000000 in
theorem sheetM_ok : MCalls Tryz.prog 12 [] [.sl 1 (agB.map bD)] (shM 8) (.tup [.row 5 14, .val (.int .i64 0)]) := by
  refine mcalls_ofn Tryz.func12 Tryz.ntmps12 rfl rfl rfl 41 (by decide) fun S w β => ?_
  obtain ⟨h1, h2⟩ := ag1
  simp only [okPs, Bool.and_eq_true, decide_eq_true_eq, List.all_eq_true, okTx] at h1
  obtain ⟨⟨⟨h3, hN⟩, h5⟩, h6⟩ := h1
  have ht : ∀ n ∈ allF agB, n.tok.text.size ≤ 1099511627776 := fun n hn => (h6 n hn).1
  have hk : ∀ n ∈ allF agB, ∀ m ∈ n.kids, m.tok.text.size ≤ 1099511627776 := fun n hn m hm => (h6 n hn).2 m hm
  have hA := agN
  rw [← agL_eq] at hA
  obtain ⟨b, hb⟩ : ∃ b, b = agB := ⟨_, rfl⟩
  rw [← hb] at h3 hN ht hk hA ⊢
  clear h2 h5 h6 hb
  have hbm : (b.map bD).length = b.length := List.length_map _
  have hbs : (⟨b.toArray⟩ : ByteArray).size = b.length := List.size_toArray
  have hl1 := readL_len ⟨b.toArray⟩
  have hl2 := toksF_len' (readL ⟨b.toArray⟩)
  have hl3 := allA_sz0 (toksF (readL ⟨b.toArray⟩))
  have hc0 : ¬ (65536 : Int) < (b.length : Int) := by omega
  repeat (first | refine awp_seq ?_ | refine thenA_normal ?_ | refine a_region ?_ | refine r_done ?_ | (refine r_id ?_; first | refine r_len tab_ok rfl rfl rfl rfl rfl rfl rfl ?_ | refine r_ev tab_ok rfl rfl rfl rfl byE rfl ?_))
  refine awp_cond_p rfl (fun h => (h |> fun h => by omega)) (fun _ => ?_)
  repeat (first | refine awp_seq ?_ | refine a_region ?_ | refine awp_skip ?_ | (refine r_id ?_; first | refine r_ev tab_ok rfl rfl rfl rfl byE rfl ?_))
  refine r_call (pread_ok b (by omega)) call28 rfl rfl ⟨Sub.refl _, trivial⟩ rfl rfl rfl rfl ?_
  refine r_call (pall_ok (readL ⟨b.toArray⟩) (by omega) hN) call27 rfl rfl ⟨Sub.refl _, trivial⟩ rfl rfl rfl rfl ?_
  refine r_call (all_ok (toksF (readL ⟨b.toArray⟩)) (by omega)) call26 rfl rfl ⟨Sub.refl _, trivial⟩ rfl rfl rfl rfl ?_
  rw [show allA (toksF (readL ⟨b.toArray⟩)) 0 = allF b from rfl] at hl3 ⊢
  generalize allF b = l at hA ht hk hl3 ⊢
  have hll := nszs_len l
  have hlm : (l.map nF).length = l.length := List.length_map _
  have hlen := hA.len
  repeat (first | refine awp_seq ?_ | refine thenA_normal ?_ | refine awp_block ?_ | refine a_region ?_ | refine r_done ?_ | (refine r_id ?_; first | refine r_ev tab_ok rfl rfl rfl rfl byE rfl ?_))
  refine a_loop (σ := {x : Nat × Nat // x.1 ≤ 15 ∧ x.2 = agAt x.1}) (fun x => shM (shD x.1.1)) (fun x => [(2, shO (shD x.1.1)), (4, .sl 7 (l.map nF)), (5, .val (.int .i64 x.1.2))]) (fun x => 16 - x.1.1) ⟨(0, 0), Nat.zero_le _, rfl⟩ (fits_of rfl byK) ?_
  rintro ⟨⟨n, i⟩, hn, hi⟩
  dsimp only at hn hi ⊢
  by_cases hodd : n % 2 = 1 ∧ n < 15
  · obtain ⟨ho1, ho2⟩ := hodd
    have hcase : n = 1 ∨ n = 3 ∨ n = 5 ∨ n = 7 ∨ n = 9 ∨ n = 11 ∨ n = 13 := by omega
    have hw : skB (ndAt l i) = true ∧ i < l.length ∧ i + 1 = agAt (n + 1) ∧ shD (n + 1) = shD n := by
      rw [hi, hlen]
      rcases hcase with rfl | rfl | rfl | rfl | rfl | rfl | rfl
      · exact ⟨hA.w0, by decide, rfl, rfl⟩
      · exact ⟨hA.w1, by decide, rfl, rfl⟩
      · exact ⟨hA.w2, by decide, rfl, rfl⟩
      · exact ⟨hA.w3, by decide, rfl, rfl⟩
      · exact ⟨hA.w4, by decide, rfl, rfl⟩
      · exact ⟨hA.w5, by decide, rfl, rfl⟩
      · exact ⟨hA.w6, by decide, rfl, rfl⟩
    obtain ⟨hw1, hi', hw3, hw4⟩ := hw
    have hgi := ndAt_get hi'
    repeat (first | refine awp_seq ?_ | refine thenA_normal ?_ | refine a_region ?_ | refine r_done ?_ | (refine r_id ?_; first | refine r_len tab_ok rfl rfl rfl rfl rfl rfl rfl ?_ | refine r_ev tab_ok rfl rfl rfl rfl byE rfl ?_))
    refine awp_cond_p rfl (fun _ => ?_) (fun h => (by omega))
    repeat (first | refine awp_seq ?_ | refine thenA_normal ?_ | refine awp_block ?_ | refine a_region ?_ | refine awp_skip ?_ | (refine r_id ?_; first | refine r_ev tab_ok rfl rfl rfl rfl byE rfl ?_ | refine r_idx tab_ok rfl rfl rfl rfl rfl rfl rfl (by first | exact ⟨by omega, by omega⟩ | (simp; omega)) rfl rfl ?_))
    simp only [Int.toNat_natCast, hgi]
    refine r_call (pskip_ok (ndAt l i)) call29 rfl rfl ⟨Sub.agg (by repeat' first | exact trivial | exact Sub.refl _ | exact Sub.nil _ | refine Sub.agg ?_ | apply And.intro), trivial⟩ rfl rfl rfl rfl ?_
    rw [show skpB (ndAt l i) = true from hw1]
    repeat (first | refine awp_seq ?_ | refine thenA_normal ?_ | refine a_region ?_ | refine awp_exit ?_ | refine thenA_exit ?_ | refine blockA_hit rfl ?_ | refine r_done ?_ | (refine r_id ?_; first | refine r_ev tab_ok rfl rfl rfl rfl byE rfl ?_) | refine awp_cond_t rfl ?_)
    exact ⟨⟨(n + 1, i + 1), by dsimp only; omega, hw3⟩, by dsimp only; omega, by dsimp only; rw [hw4]; exact fits_of rfl byK⟩
  have hcase : n = 0 ∨ n = 2 ∨ n = 4 ∨ n = 6 ∨ n = 8 ∨ n = 10 ∨ n = 12 ∨ n = 14 ∨ n = 15 := by omega
  clear hodd
  rcases hcase with rfl | rfl | rfl | rfl | rfl | rfl | rfl | rfl | rfl
  · have hi : i = 0 := hi
    rw [show shM (shD 0) = [] from rfl, show shO (shD 0) = .val (.slice none 0 0) from rfl]
    repeat (first | refine awp_seq ?_ | refine thenA_normal ?_ | refine a_region ?_ | refine r_done ?_ | (refine r_id ?_; first | refine r_len tab_ok rfl rfl rfl rfl rfl rfl rfl ?_ | refine r_ev tab_ok rfl rfl rfl rfl byE rfl ?_))
    refine awp_cond_p rfl (fun _ => ?_) (fun h => (by omega))
    have hi' : i < l.length := by omega
    have hgi := ndAt_get hi'
    repeat (first | refine awp_seq ?_ | refine thenA_normal ?_ | refine awp_block ?_ | refine a_region ?_ | refine awp_skip ?_ | (refine r_id ?_; first | refine r_ev tab_ok rfl rfl rfl rfl byE rfl ?_ | refine r_idx tab_ok rfl rfl rfl rfl rfl rfl rfl (by first | exact ⟨by omega, by omega⟩ | (simp; omega)) rfl rfl ?_))
    simp only [Int.toNat_natCast, hgi]
    refine r_call (pskip_ok (ndAt l i)) call29 rfl rfl ⟨Sub.agg (by repeat' first | exact trivial | exact Sub.refl _ | exact Sub.nil _ | refine Sub.agg ?_ | apply And.intro), trivial⟩ rfl rfl rfl rfl ?_
    rw [show skpB (ndAt l i) = false from by rw [hi]; exact hA.s0]
    have hE : enI l i = 32 := by rw [hi]; exact hA.e0
    have hone := oneM_ok l i hi' (by omega) ht hk (by rw [hi]; exact hA.a0) (by rw [hE]; omega) (by rw [hE]; exact hA.b0)
    rw [show rlAt l i = agR0 from by rw [hi]; exact hA.r0] at hone
    generalize enI l i = q at hone hE
    repeat (first | refine awp_seq ?_ | refine thenA_normal ?_ | refine a_region ?_ | refine awp_skip ?_ | refine r_done ?_ | (refine r_id ?_; first | refine r_ev tab_ok rfl rfl rfl rfl byE rfl ?_) | refine awp_cond_f rfl ?_)
    refine r_rcall (M'' := [.box 45 (cA 0), .row 0 49 7 (agR0.pre.map nF), .row 0 51 3 (agR0.decls.map dcD)]) hone call30 rfl rfl ⟨Sub.refl _, Sub.refl _, trivial⟩ rfl rfl rfl rfl rfl rfl ?_
    repeat (first | refine awp_seq ?_ | refine thenA_normal ?_ | refine a_region ?_ | refine r_done ?_ | (refine r_id ?_; first | refine r_ev tab_ok rfl rfl rfl rfl byE rfl ?_ | refine r_ld tab_ok rfl rfl rfl rfl rfl ?_ | refine r_wr tab_ok rfl rfl rfl rfl rfl ?_ | refine r_st tab_ok rfl rfl rfl rfl ?_) | refine awp_cond_t rfl ?_)
    refine r_build_o tab_ok rfl rfl rfl rfl rfl rfl rfl rfl rfl rfl ?_
    refine r_append_nilo tab_ok rfl rfl rfl rfl rfl rfl rfl rfl (by decide) rfl rfl rfl ?_
    repeat (first | refine thenA_normal ?_ | refine blockA_normal ?_ | refine r_done ?_ | (refine r_id ?_; first | refine r_ev tab_ok rfl rfl rfl rfl byE rfl ?_))
    exact ⟨⟨(1, q + 1), by dsimp only; omega, by rw [hE]; rfl⟩, by dsimp only; omega, fits_of rfl byK⟩
  · have hi : i = 34 := hi
    rw [show shM (shD 2) = [.box 45 (cA 0), .row 0 49 7 (agR0.pre.map nF), .row 0 51 3 (agR0.decls.map dcD), .box 45 (cA 0), .rowo 0 45 4 [] 1 (cA 0), .rowo 0 45 4 [] 1 [.val (.string ⟨#[]⟩), .row 1 0, .val (.bool true), .row 2 0]] from rfl, show shO (shD 2) = .row 5 0 from rfl]
    repeat (first | refine awp_seq ?_ | refine thenA_normal ?_ | refine a_region ?_ | refine r_done ?_ | (refine r_id ?_; first | refine r_len tab_ok rfl rfl rfl rfl rfl rfl rfl ?_ | refine r_ev tab_ok rfl rfl rfl rfl byE rfl ?_))
    refine awp_cond_p rfl (fun _ => ?_) (fun h => (by omega))
    have hi' : i < l.length := by omega
    have hgi := ndAt_get hi'
    repeat (first | refine awp_seq ?_ | refine thenA_normal ?_ | refine awp_block ?_ | refine a_region ?_ | refine awp_skip ?_ | (refine r_id ?_; first | refine r_ev tab_ok rfl rfl rfl rfl byE rfl ?_ | refine r_idx tab_ok rfl rfl rfl rfl rfl rfl rfl (by first | exact ⟨by omega, by omega⟩ | (simp; omega)) rfl rfl ?_))
    simp only [Int.toNat_natCast, hgi]
    refine r_call (pskip_ok (ndAt l i)) call29 rfl rfl ⟨Sub.agg (by repeat' first | exact trivial | exact Sub.refl _ | exact Sub.nil _ | refine Sub.agg ?_ | apply And.intro), trivial⟩ rfl rfl rfl rfl ?_
    rw [show skpB (ndAt l i) = false from by rw [hi]; exact hA.s1]
    have hE : enI l i = 36 := by rw [hi]; exact hA.e1
    have hone := oneM_ok l i hi' (by omega) ht hk (by rw [hi]; exact hA.a1) (by rw [hE]; omega) (by rw [hE]; exact hA.b1)
    rw [show rlAt l i = agR1 from by rw [hi]; exact hA.r1] at hone
    generalize enI l i = q at hone hE
    repeat (first | refine awp_seq ?_ | refine thenA_normal ?_ | refine a_region ?_ | refine awp_skip ?_ | refine r_done ?_ | (refine r_id ?_; first | refine r_ev tab_ok rfl rfl rfl rfl byE rfl ?_) | refine awp_cond_f rfl ?_)
    refine r_rcall (M'' := [.box 45 (cA 0), .row 0 49 7 (agR0.pre.map nF), .row 0 51 3 (agR0.decls.map dcD), .box 45 (cA 0), .rowo 0 45 4 [] 1 (cA 0), .rowo 0 45 4 [] 1 [.val (.string ⟨#[]⟩), .row 1 0, .val (.bool true), .row 2 0], .box 45 (cA 6), .row 0 49 7 (agR1.pre.map nF), .row 0 51 3 (agR1.decls.map dcD)]) hone call30 rfl rfl ⟨Sub.refl _, Sub.refl _, trivial⟩ rfl rfl rfl rfl rfl rfl ?_
    repeat (first | refine awp_seq ?_ | refine thenA_normal ?_ | refine a_region ?_ | refine r_done ?_ | (refine r_id ?_; first | refine r_ev tab_ok rfl rfl rfl rfl byE rfl ?_ | refine r_ld tab_ok rfl rfl rfl rfl rfl ?_ | refine r_wr tab_ok rfl rfl rfl rfl rfl ?_ | refine r_st tab_ok rfl rfl rfl rfl ?_) | refine awp_cond_t rfl ?_)
    refine r_build_o tab_ok rfl rfl rfl rfl rfl rfl rfl rfl rfl rfl ?_
    refine r_append_oo tab_ok rfl rfl rfl rfl rfl rfl rfl rfl rfl (by decide) rfl rfl rfl rfl ?_
    repeat (first | refine thenA_normal ?_ | refine blockA_normal ?_ | refine r_done ?_ | (refine r_id ?_; first | refine r_ev tab_ok rfl rfl rfl rfl byE rfl ?_))
    exact ⟨⟨(3, q + 1), by dsimp only; omega, by rw [hE]; rfl⟩, by dsimp only; omega, fits_of rfl byK⟩
  · have hi : i = 38 := hi
    rw [show shM (shD 4) = [.box 45 (cA 0), .row 0 49 7 (agR0.pre.map nF), .row 0 51 3 (agR0.decls.map dcD), .box 45 (cA 0), .rowo 0 45 4 [] 1 (cA 0), .rowo 2 45 4 [] 2 [.val (.string ⟨#[]⟩), .row 1 0, .val (.bool true), .row 2 0, .val (.string ⟨#[]⟩), .row 7 0, .val (.bool true), .row 8 0], .box 45 (cA 6), .row 0 49 7 (agR1.pre.map nF), .row 0 51 3 (agR1.decls.map dcD), .box 45 (cA 6), .rowo 0 45 4 [] 1 (cA 6)] from rfl, show shO (shD 4) = .row 5 2 from rfl]
    repeat (first | refine awp_seq ?_ | refine thenA_normal ?_ | refine a_region ?_ | refine r_done ?_ | (refine r_id ?_; first | refine r_len tab_ok rfl rfl rfl rfl rfl rfl rfl ?_ | refine r_ev tab_ok rfl rfl rfl rfl byE rfl ?_))
    refine awp_cond_p rfl (fun _ => ?_) (fun h => (by omega))
    have hi' : i < l.length := by omega
    have hgi := ndAt_get hi'
    repeat (first | refine awp_seq ?_ | refine thenA_normal ?_ | refine awp_block ?_ | refine a_region ?_ | refine awp_skip ?_ | (refine r_id ?_; first | refine r_ev tab_ok rfl rfl rfl rfl byE rfl ?_ | refine r_idx tab_ok rfl rfl rfl rfl rfl rfl rfl (by first | exact ⟨by omega, by omega⟩ | (simp; omega)) rfl rfl ?_))
    simp only [Int.toNat_natCast, hgi]
    refine r_call (pskip_ok (ndAt l i)) call29 rfl rfl ⟨Sub.agg (by repeat' first | exact trivial | exact Sub.refl _ | exact Sub.nil _ | refine Sub.agg ?_ | apply And.intro), trivial⟩ rfl rfl rfl rfl ?_
    rw [show skpB (ndAt l i) = false from by rw [hi]; exact hA.s2]
    have hE : enI l i = 52 := by rw [hi]; exact hA.e2
    have hone := oneM_ok l i hi' (by omega) ht hk (by rw [hi]; exact hA.a2) (by rw [hE]; omega) (by rw [hE]; exact hA.b2)
    rw [show rlAt l i = agR2 from by rw [hi]; exact hA.r2] at hone
    generalize enI l i = q at hone hE
    repeat (first | refine awp_seq ?_ | refine thenA_normal ?_ | refine a_region ?_ | refine awp_skip ?_ | refine r_done ?_ | (refine r_id ?_; first | refine r_ev tab_ok rfl rfl rfl rfl byE rfl ?_) | refine awp_cond_f rfl ?_)
    refine r_rcall (M'' := [.box 45 (cA 0), .row 0 49 7 (agR0.pre.map nF), .row 0 51 3 (agR0.decls.map dcD), .box 45 (cA 0), .rowo 0 45 4 [] 1 (cA 0), .rowo 2 45 4 [] 2 [.val (.string ⟨#[]⟩), .row 1 0, .val (.bool true), .row 2 0, .val (.string ⟨#[]⟩), .row 7 0, .val (.bool true), .row 8 0], .box 45 (cA 6), .row 0 49 7 (agR1.pre.map nF), .row 0 51 3 (agR1.decls.map dcD), .box 45 (cA 6), .rowo 0 45 4 [] 1 (cA 6), .box 45 (cA 11), .row 0 49 7 (agR2.pre.map nF), .row 0 51 3 (agR2.decls.map dcD)]) hone call30 rfl rfl ⟨Sub.refl _, Sub.refl _, trivial⟩ rfl rfl rfl rfl rfl rfl ?_
    repeat (first | refine awp_seq ?_ | refine thenA_normal ?_ | refine a_region ?_ | refine r_done ?_ | (refine r_id ?_; first | refine r_ev tab_ok rfl rfl rfl rfl byE rfl ?_ | refine r_ld tab_ok rfl rfl rfl rfl rfl ?_ | refine r_wr tab_ok rfl rfl rfl rfl rfl ?_ | refine r_st tab_ok rfl rfl rfl rfl ?_) | refine awp_cond_t rfl ?_)
    refine r_build_o tab_ok rfl rfl rfl rfl rfl rfl rfl rfl rfl rfl ?_
    refine r_append_oo tab_ok rfl rfl rfl rfl rfl rfl rfl rfl rfl (by decide) rfl rfl rfl rfl ?_
    repeat (first | refine thenA_normal ?_ | refine blockA_normal ?_ | refine r_done ?_ | (refine r_id ?_; first | refine r_ev tab_ok rfl rfl rfl rfl byE rfl ?_))
    exact ⟨⟨(5, q + 1), by dsimp only; omega, by rw [hE]; rfl⟩, by dsimp only; omega, fits_of rfl byK⟩
  · have hi : i = 54 := hi
    rw [show shM (shD 6) = [.box 45 (cA 0), .row 0 49 7 (agR0.pre.map nF), .row 0 51 3 (agR0.decls.map dcD), .box 45 (cA 0), .rowo 0 45 4 [] 1 (cA 0), .rowo 4 45 4 [] 3 [.val (.string ⟨#[]⟩), .row 1 0, .val (.bool true), .row 2 0, .val (.string ⟨#[]⟩), .row 7 0, .val (.bool true), .row 8 0, .val (.string ⟨#[]⟩), .row 12 0, .val (.bool true), .row 13 0], .box 45 (cA 6), .row 0 49 7 (agR1.pre.map nF), .row 0 51 3 (agR1.decls.map dcD), .box 45 (cA 6), .rowo 0 45 4 [] 1 (cA 6), .box 45 (cA 11), .row 0 49 7 (agR2.pre.map nF), .row 0 51 3 (agR2.decls.map dcD), .box 45 (cA 11), .rowo 0 45 4 [] 1 (cA 11)] from rfl, show shO (shD 6) = .row 5 4 from rfl]
    repeat (first | refine awp_seq ?_ | refine thenA_normal ?_ | refine a_region ?_ | refine r_done ?_ | (refine r_id ?_; first | refine r_len tab_ok rfl rfl rfl rfl rfl rfl rfl ?_ | refine r_ev tab_ok rfl rfl rfl rfl byE rfl ?_))
    refine awp_cond_p rfl (fun _ => ?_) (fun h => (by omega))
    have hi' : i < l.length := by omega
    have hgi := ndAt_get hi'
    repeat (first | refine awp_seq ?_ | refine thenA_normal ?_ | refine awp_block ?_ | refine a_region ?_ | refine awp_skip ?_ | (refine r_id ?_; first | refine r_ev tab_ok rfl rfl rfl rfl byE rfl ?_ | refine r_idx tab_ok rfl rfl rfl rfl rfl rfl rfl (by first | exact ⟨by omega, by omega⟩ | (simp; omega)) rfl rfl ?_))
    simp only [Int.toNat_natCast, hgi]
    refine r_call (pskip_ok (ndAt l i)) call29 rfl rfl ⟨Sub.agg (by repeat' first | exact trivial | exact Sub.refl _ | exact Sub.nil _ | refine Sub.agg ?_ | apply And.intro), trivial⟩ rfl rfl rfl rfl ?_
    rw [show skpB (ndAt l i) = false from by rw [hi]; exact hA.s3]
    have hE : enI l i = 56 := by rw [hi]; exact hA.e3
    have hone := oneM_ok l i hi' (by omega) ht hk (by rw [hi]; exact hA.a3) (by rw [hE]; omega) (by rw [hE]; exact hA.b3)
    rw [show rlAt l i = agR3 from by rw [hi]; exact hA.r3] at hone
    generalize enI l i = q at hone hE
    repeat (first | refine awp_seq ?_ | refine thenA_normal ?_ | refine a_region ?_ | refine awp_skip ?_ | refine r_done ?_ | (refine r_id ?_; first | refine r_ev tab_ok rfl rfl rfl rfl byE rfl ?_) | refine awp_cond_f rfl ?_)
    refine r_rcall (M'' := [.box 45 (cA 0), .row 0 49 7 (agR0.pre.map nF), .row 0 51 3 (agR0.decls.map dcD), .box 45 (cA 0), .rowo 0 45 4 [] 1 (cA 0), .rowo 4 45 4 [] 3 [.val (.string ⟨#[]⟩), .row 1 0, .val (.bool true), .row 2 0, .val (.string ⟨#[]⟩), .row 7 0, .val (.bool true), .row 8 0, .val (.string ⟨#[]⟩), .row 12 0, .val (.bool true), .row 13 0], .box 45 (cA 6), .row 0 49 7 (agR1.pre.map nF), .row 0 51 3 (agR1.decls.map dcD), .box 45 (cA 6), .rowo 0 45 4 [] 1 (cA 6), .box 45 (cA 11), .row 0 49 7 (agR2.pre.map nF), .row 0 51 3 (agR2.decls.map dcD), .box 45 (cA 11), .rowo 0 45 4 [] 1 (cA 11), .box 45 (cA 16), .row 0 49 7 (agR3.pre.map nF), .row 0 51 3 (agR3.decls.map dcD)]) hone call30 rfl rfl ⟨Sub.refl _, Sub.refl _, trivial⟩ rfl rfl rfl rfl rfl rfl ?_
    repeat (first | refine awp_seq ?_ | refine thenA_normal ?_ | refine a_region ?_ | refine r_done ?_ | (refine r_id ?_; first | refine r_ev tab_ok rfl rfl rfl rfl byE rfl ?_ | refine r_ld tab_ok rfl rfl rfl rfl rfl ?_ | refine r_wr tab_ok rfl rfl rfl rfl rfl ?_ | refine r_st tab_ok rfl rfl rfl rfl ?_) | refine awp_cond_t rfl ?_)
    refine r_build_o tab_ok rfl rfl rfl rfl rfl rfl rfl rfl rfl rfl ?_
    refine r_append_oo tab_ok rfl rfl rfl rfl rfl rfl rfl rfl rfl (by decide) rfl rfl rfl rfl ?_
    repeat (first | refine thenA_normal ?_ | refine blockA_normal ?_ | refine r_done ?_ | (refine r_id ?_; first | refine r_ev tab_ok rfl rfl rfl rfl byE rfl ?_))
    exact ⟨⟨(7, q + 1), by dsimp only; omega, by rw [hE]; rfl⟩, by dsimp only; omega, fits_of rfl byK⟩
  · have hi : i = 58 := hi
    rw [show shM (shD 8) = [.box 45 (cA 0), .row 0 49 7 (agR0.pre.map nF), .row 0 51 3 (agR0.decls.map dcD), .box 45 (cA 0), .rowo 0 45 4 [] 1 (cA 0), .rowo 6 45 4 [] 4 [.val (.string ⟨#[]⟩), .row 1 0, .val (.bool true), .row 2 0, .val (.string ⟨#[]⟩), .row 7 0, .val (.bool true), .row 8 0, .val (.string ⟨#[]⟩), .row 12 0, .val (.bool true), .row 13 0, .val (.string ⟨#[]⟩), .row 17 0, .val (.bool true), .row 18 0], .box 45 (cA 6), .row 0 49 7 (agR1.pre.map nF), .row 0 51 3 (agR1.decls.map dcD), .box 45 (cA 6), .rowo 0 45 4 [] 1 (cA 6), .box 45 (cA 11), .row 0 49 7 (agR2.pre.map nF), .row 0 51 3 (agR2.decls.map dcD), .box 45 (cA 11), .rowo 0 45 4 [] 1 (cA 11), .box 45 (cA 16), .row 0 49 7 (agR3.pre.map nF), .row 0 51 3 (agR3.decls.map dcD), .box 45 (cA 16), .rowo 0 45 4 [] 1 (cA 16)] from rfl, show shO (shD 8) = .row 5 6 from rfl]
    repeat (first | refine awp_seq ?_ | refine thenA_normal ?_ | refine a_region ?_ | refine r_done ?_ | (refine r_id ?_; first | refine r_len tab_ok rfl rfl rfl rfl rfl rfl rfl ?_ | refine r_ev tab_ok rfl rfl rfl rfl byE rfl ?_))
    refine awp_cond_p rfl (fun _ => ?_) (fun h => (by omega))
    have hi' : i < l.length := by omega
    have hgi := ndAt_get hi'
    repeat (first | refine awp_seq ?_ | refine thenA_normal ?_ | refine awp_block ?_ | refine a_region ?_ | refine awp_skip ?_ | (refine r_id ?_; first | refine r_ev tab_ok rfl rfl rfl rfl byE rfl ?_ | refine r_idx tab_ok rfl rfl rfl rfl rfl rfl rfl (by first | exact ⟨by omega, by omega⟩ | (simp; omega)) rfl rfl ?_))
    simp only [Int.toNat_natCast, hgi]
    refine r_call (pskip_ok (ndAt l i)) call29 rfl rfl ⟨Sub.agg (by repeat' first | exact trivial | exact Sub.refl _ | exact Sub.nil _ | refine Sub.agg ?_ | apply And.intro), trivial⟩ rfl rfl rfl rfl ?_
    rw [show skpB (ndAt l i) = false from by rw [hi]; exact hA.s4]
    have hE : enI l i = 63 := by rw [hi]; exact hA.e4
    have hone := oneM_ok l i hi' (by omega) ht hk (by rw [hi]; exact hA.a4) (by rw [hE]; omega) (by rw [hE]; exact hA.b4)
    rw [show rlAt l i = agR4 from by rw [hi]; exact hA.r4] at hone
    generalize enI l i = q at hone hE
    repeat (first | refine awp_seq ?_ | refine thenA_normal ?_ | refine a_region ?_ | refine awp_skip ?_ | refine r_done ?_ | (refine r_id ?_; first | refine r_ev tab_ok rfl rfl rfl rfl byE rfl ?_) | refine awp_cond_f rfl ?_)
    refine r_rcall (M'' := [.box 45 (cA 0), .row 0 49 7 (agR0.pre.map nF), .row 0 51 3 (agR0.decls.map dcD), .box 45 (cA 0), .rowo 0 45 4 [] 1 (cA 0), .rowo 6 45 4 [] 4 [.val (.string ⟨#[]⟩), .row 1 0, .val (.bool true), .row 2 0, .val (.string ⟨#[]⟩), .row 7 0, .val (.bool true), .row 8 0, .val (.string ⟨#[]⟩), .row 12 0, .val (.bool true), .row 13 0, .val (.string ⟨#[]⟩), .row 17 0, .val (.bool true), .row 18 0], .box 45 (cA 6), .row 0 49 7 (agR1.pre.map nF), .row 0 51 3 (agR1.decls.map dcD), .box 45 (cA 6), .rowo 0 45 4 [] 1 (cA 6), .box 45 (cA 11), .row 0 49 7 (agR2.pre.map nF), .row 0 51 3 (agR2.decls.map dcD), .box 45 (cA 11), .rowo 0 45 4 [] 1 (cA 11), .box 45 (cA 16), .row 0 49 7 (agR3.pre.map nF), .row 0 51 3 (agR3.decls.map dcD), .box 45 (cA 16), .rowo 0 45 4 [] 1 (cA 16), .box 45 (cA 21), .row 0 49 7 (agR4.pre.map nF), .row 0 51 3 (agR4.decls.map dcD)]) hone call30 rfl rfl ⟨Sub.refl _, Sub.refl _, trivial⟩ rfl rfl rfl rfl rfl rfl ?_
    repeat (first | refine awp_seq ?_ | refine thenA_normal ?_ | refine a_region ?_ | refine r_done ?_ | (refine r_id ?_; first | refine r_ev tab_ok rfl rfl rfl rfl byE rfl ?_ | refine r_ld tab_ok rfl rfl rfl rfl rfl ?_ | refine r_wr tab_ok rfl rfl rfl rfl rfl ?_ | refine r_st tab_ok rfl rfl rfl rfl ?_) | refine awp_cond_t rfl ?_)
    refine r_build_o tab_ok rfl rfl rfl rfl rfl rfl rfl rfl rfl rfl ?_
    refine r_append_oo tab_ok rfl rfl rfl rfl rfl rfl rfl rfl rfl (by decide) rfl rfl rfl rfl ?_
    repeat (first | refine thenA_normal ?_ | refine blockA_normal ?_ | refine r_done ?_ | (refine r_id ?_; first | refine r_ev tab_ok rfl rfl rfl rfl byE rfl ?_))
    exact ⟨⟨(9, q + 1), by dsimp only; omega, by rw [hE]; rfl⟩, by dsimp only; omega, fits_of rfl byK⟩
  · have hi : i = 65 := hi
    rw [show shM (shD 10) = [.box 45 (cA 0), .row 0 49 7 (agR0.pre.map nF), .row 0 51 3 (agR0.decls.map dcD), .box 45 (cA 0), .rowo 0 45 4 [] 1 (cA 0), .rowo 8 45 4 [] 5 [.val (.string ⟨#[]⟩), .row 1 0, .val (.bool true), .row 2 0, .val (.string ⟨#[]⟩), .row 7 0, .val (.bool true), .row 8 0, .val (.string ⟨#[]⟩), .row 12 0, .val (.bool true), .row 13 0, .val (.string ⟨#[]⟩), .row 17 0, .val (.bool true), .row 18 0, .val (.string ⟨#[]⟩), .row 22 0, .val (.bool true), .row 23 0], .box 45 (cA 6), .row 0 49 7 (agR1.pre.map nF), .row 0 51 3 (agR1.decls.map dcD), .box 45 (cA 6), .rowo 0 45 4 [] 1 (cA 6), .box 45 (cA 11), .row 0 49 7 (agR2.pre.map nF), .row 0 51 3 (agR2.decls.map dcD), .box 45 (cA 11), .rowo 0 45 4 [] 1 (cA 11), .box 45 (cA 16), .row 0 49 7 (agR3.pre.map nF), .row 0 51 3 (agR3.decls.map dcD), .box 45 (cA 16), .rowo 0 45 4 [] 1 (cA 16), .box 45 (cA 21), .row 0 49 7 (agR4.pre.map nF), .row 0 51 3 (agR4.decls.map dcD), .box 45 (cA 21), .rowo 0 45 4 [] 1 (cA 21)] from rfl, show shO (shD 10) = .row 5 8 from rfl]
    repeat (first | refine awp_seq ?_ | refine thenA_normal ?_ | refine a_region ?_ | refine r_done ?_ | (refine r_id ?_; first | refine r_len tab_ok rfl rfl rfl rfl rfl rfl rfl ?_ | refine r_ev tab_ok rfl rfl rfl rfl byE rfl ?_))
    refine awp_cond_p rfl (fun _ => ?_) (fun h => (by omega))
    have hi' : i < l.length := by omega
    have hgi := ndAt_get hi'
    repeat (first | refine awp_seq ?_ | refine thenA_normal ?_ | refine awp_block ?_ | refine a_region ?_ | refine awp_skip ?_ | (refine r_id ?_; first | refine r_ev tab_ok rfl rfl rfl rfl byE rfl ?_ | refine r_idx tab_ok rfl rfl rfl rfl rfl rfl rfl (by first | exact ⟨by omega, by omega⟩ | (simp; omega)) rfl rfl ?_))
    simp only [Int.toNat_natCast, hgi]
    refine r_call (pskip_ok (ndAt l i)) call29 rfl rfl ⟨Sub.agg (by repeat' first | exact trivial | exact Sub.refl _ | exact Sub.nil _ | refine Sub.agg ?_ | apply And.intro), trivial⟩ rfl rfl rfl rfl ?_
    rw [show skpB (ndAt l i) = false from by rw [hi]; exact hA.s5]
    have hE : enI l i = 74 := by rw [hi]; exact hA.e5
    have hone := oneM_ok l i hi' (by omega) ht hk (by rw [hi]; exact hA.a5) (by rw [hE]; omega) (by rw [hE]; exact hA.b5)
    rw [show rlAt l i = agR5 from by rw [hi]; exact hA.r5] at hone
    generalize enI l i = q at hone hE
    repeat (first | refine awp_seq ?_ | refine thenA_normal ?_ | refine a_region ?_ | refine awp_skip ?_ | refine r_done ?_ | (refine r_id ?_; first | refine r_ev tab_ok rfl rfl rfl rfl byE rfl ?_) | refine awp_cond_f rfl ?_)
    refine r_rcall (M'' := [.box 45 (cA 0), .row 0 49 7 (agR0.pre.map nF), .row 0 51 3 (agR0.decls.map dcD), .box 45 (cA 0), .rowo 0 45 4 [] 1 (cA 0), .rowo 8 45 4 [] 5 [.val (.string ⟨#[]⟩), .row 1 0, .val (.bool true), .row 2 0, .val (.string ⟨#[]⟩), .row 7 0, .val (.bool true), .row 8 0, .val (.string ⟨#[]⟩), .row 12 0, .val (.bool true), .row 13 0, .val (.string ⟨#[]⟩), .row 17 0, .val (.bool true), .row 18 0, .val (.string ⟨#[]⟩), .row 22 0, .val (.bool true), .row 23 0], .box 45 (cA 6), .row 0 49 7 (agR1.pre.map nF), .row 0 51 3 (agR1.decls.map dcD), .box 45 (cA 6), .rowo 0 45 4 [] 1 (cA 6), .box 45 (cA 11), .row 0 49 7 (agR2.pre.map nF), .row 0 51 3 (agR2.decls.map dcD), .box 45 (cA 11), .rowo 0 45 4 [] 1 (cA 11), .box 45 (cA 16), .row 0 49 7 (agR3.pre.map nF), .row 0 51 3 (agR3.decls.map dcD), .box 45 (cA 16), .rowo 0 45 4 [] 1 (cA 16), .box 45 (cA 21), .row 0 49 7 (agR4.pre.map nF), .row 0 51 3 (agR4.decls.map dcD), .box 45 (cA 21), .rowo 0 45 4 [] 1 (cA 21), .box 45 (cA 26), .row 0 49 7 (agR5.pre.map nF), .row 0 51 3 (agR5.decls.map dcD)]) hone call30 rfl rfl ⟨Sub.refl _, Sub.refl _, trivial⟩ rfl rfl rfl rfl rfl rfl ?_
    repeat (first | refine awp_seq ?_ | refine thenA_normal ?_ | refine a_region ?_ | refine r_done ?_ | (refine r_id ?_; first | refine r_ev tab_ok rfl rfl rfl rfl byE rfl ?_ | refine r_ld tab_ok rfl rfl rfl rfl rfl ?_ | refine r_wr tab_ok rfl rfl rfl rfl rfl ?_ | refine r_st tab_ok rfl rfl rfl rfl ?_) | refine awp_cond_t rfl ?_)
    refine r_build_o tab_ok rfl rfl rfl rfl rfl rfl rfl rfl rfl rfl ?_
    refine r_append_oo tab_ok rfl rfl rfl rfl rfl rfl rfl rfl rfl (by decide) rfl rfl rfl rfl ?_
    repeat (first | refine thenA_normal ?_ | refine blockA_normal ?_ | refine r_done ?_ | (refine r_id ?_; first | refine r_ev tab_ok rfl rfl rfl rfl byE rfl ?_))
    exact ⟨⟨(11, q + 1), by dsimp only; omega, by rw [hE]; rfl⟩, by dsimp only; omega, fits_of rfl byK⟩
  · have hi : i = 76 := hi
    rw [show shM (shD 12) = [.box 45 (cA 0), .row 0 49 7 (agR0.pre.map nF), .row 0 51 3 (agR0.decls.map dcD), .box 45 (cA 0), .rowo 0 45 4 [] 1 (cA 0), .rowo 10 45 4 [] 6 [.val (.string ⟨#[]⟩), .row 1 0, .val (.bool true), .row 2 0, .val (.string ⟨#[]⟩), .row 7 0, .val (.bool true), .row 8 0, .val (.string ⟨#[]⟩), .row 12 0, .val (.bool true), .row 13 0, .val (.string ⟨#[]⟩), .row 17 0, .val (.bool true), .row 18 0, .val (.string ⟨#[]⟩), .row 22 0, .val (.bool true), .row 23 0, .val (.string ⟨#[]⟩), .row 27 0, .val (.bool true), .row 28 0], .box 45 (cA 6), .row 0 49 7 (agR1.pre.map nF), .row 0 51 3 (agR1.decls.map dcD), .box 45 (cA 6), .rowo 0 45 4 [] 1 (cA 6), .box 45 (cA 11), .row 0 49 7 (agR2.pre.map nF), .row 0 51 3 (agR2.decls.map dcD), .box 45 (cA 11), .rowo 0 45 4 [] 1 (cA 11), .box 45 (cA 16), .row 0 49 7 (agR3.pre.map nF), .row 0 51 3 (agR3.decls.map dcD), .box 45 (cA 16), .rowo 0 45 4 [] 1 (cA 16), .box 45 (cA 21), .row 0 49 7 (agR4.pre.map nF), .row 0 51 3 (agR4.decls.map dcD), .box 45 (cA 21), .rowo 0 45 4 [] 1 (cA 21), .box 45 (cA 26), .row 0 49 7 (agR5.pre.map nF), .row 0 51 3 (agR5.decls.map dcD), .box 45 (cA 26), .rowo 0 45 4 [] 1 (cA 26)] from rfl, show shO (shD 12) = .row 5 10 from rfl]
    repeat (first | refine awp_seq ?_ | refine thenA_normal ?_ | refine a_region ?_ | refine r_done ?_ | (refine r_id ?_; first | refine r_len tab_ok rfl rfl rfl rfl rfl rfl rfl ?_ | refine r_ev tab_ok rfl rfl rfl rfl byE rfl ?_))
    refine awp_cond_p rfl (fun _ => ?_) (fun h => (by omega))
    have hi' : i < l.length := by omega
    have hgi := ndAt_get hi'
    repeat (first | refine awp_seq ?_ | refine thenA_normal ?_ | refine awp_block ?_ | refine a_region ?_ | refine awp_skip ?_ | (refine r_id ?_; first | refine r_ev tab_ok rfl rfl rfl rfl byE rfl ?_ | refine r_idx tab_ok rfl rfl rfl rfl rfl rfl rfl (by first | exact ⟨by omega, by omega⟩ | (simp; omega)) rfl rfl ?_))
    simp only [Int.toNat_natCast, hgi]
    refine r_call (pskip_ok (ndAt l i)) call29 rfl rfl ⟨Sub.agg (by repeat' first | exact trivial | exact Sub.refl _ | exact Sub.nil _ | refine Sub.agg ?_ | apply And.intro), trivial⟩ rfl rfl rfl rfl ?_
    rw [show skpB (ndAt l i) = false from by rw [hi]; exact hA.s6]
    have hE : enI l i = 81 := by rw [hi]; exact hA.e6
    have hone := oneM_ok l i hi' (by omega) ht hk (by rw [hi]; exact hA.a6) (by rw [hE]; omega) (by rw [hE]; exact hA.b6)
    rw [show rlAt l i = agR6 from by rw [hi]; exact hA.r6] at hone
    generalize enI l i = q at hone hE
    repeat (first | refine awp_seq ?_ | refine thenA_normal ?_ | refine a_region ?_ | refine awp_skip ?_ | refine r_done ?_ | (refine r_id ?_; first | refine r_ev tab_ok rfl rfl rfl rfl byE rfl ?_) | refine awp_cond_f rfl ?_)
    refine r_rcall (M'' := [.box 45 (cA 0), .row 0 49 7 (agR0.pre.map nF), .row 0 51 3 (agR0.decls.map dcD), .box 45 (cA 0), .rowo 0 45 4 [] 1 (cA 0), .rowo 10 45 4 [] 6 [.val (.string ⟨#[]⟩), .row 1 0, .val (.bool true), .row 2 0, .val (.string ⟨#[]⟩), .row 7 0, .val (.bool true), .row 8 0, .val (.string ⟨#[]⟩), .row 12 0, .val (.bool true), .row 13 0, .val (.string ⟨#[]⟩), .row 17 0, .val (.bool true), .row 18 0, .val (.string ⟨#[]⟩), .row 22 0, .val (.bool true), .row 23 0, .val (.string ⟨#[]⟩), .row 27 0, .val (.bool true), .row 28 0], .box 45 (cA 6), .row 0 49 7 (agR1.pre.map nF), .row 0 51 3 (agR1.decls.map dcD), .box 45 (cA 6), .rowo 0 45 4 [] 1 (cA 6), .box 45 (cA 11), .row 0 49 7 (agR2.pre.map nF), .row 0 51 3 (agR2.decls.map dcD), .box 45 (cA 11), .rowo 0 45 4 [] 1 (cA 11), .box 45 (cA 16), .row 0 49 7 (agR3.pre.map nF), .row 0 51 3 (agR3.decls.map dcD), .box 45 (cA 16), .rowo 0 45 4 [] 1 (cA 16), .box 45 (cA 21), .row 0 49 7 (agR4.pre.map nF), .row 0 51 3 (agR4.decls.map dcD), .box 45 (cA 21), .rowo 0 45 4 [] 1 (cA 21), .box 45 (cA 26), .row 0 49 7 (agR5.pre.map nF), .row 0 51 3 (agR5.decls.map dcD), .box 45 (cA 26), .rowo 0 45 4 [] 1 (cA 26), .box 45 (cA 31), .row 0 49 7 (agR6.pre.map nF), .row 0 51 3 (agR6.decls.map dcD)]) hone call30 rfl rfl ⟨Sub.refl _, Sub.refl _, trivial⟩ rfl rfl rfl rfl rfl rfl ?_
    repeat (first | refine awp_seq ?_ | refine thenA_normal ?_ | refine a_region ?_ | refine r_done ?_ | (refine r_id ?_; first | refine r_ev tab_ok rfl rfl rfl rfl byE rfl ?_ | refine r_ld tab_ok rfl rfl rfl rfl rfl ?_ | refine r_wr tab_ok rfl rfl rfl rfl rfl ?_ | refine r_st tab_ok rfl rfl rfl rfl ?_) | refine awp_cond_t rfl ?_)
    refine r_build_o tab_ok rfl rfl rfl rfl rfl rfl rfl rfl rfl rfl ?_
    refine r_append_oo tab_ok rfl rfl rfl rfl rfl rfl rfl rfl rfl (by decide) rfl rfl rfl rfl ?_
    repeat (first | refine thenA_normal ?_ | refine blockA_normal ?_ | refine r_done ?_ | (refine r_id ?_; first | refine r_ev tab_ok rfl rfl rfl rfl byE rfl ?_))
    exact ⟨⟨(13, q + 1), by dsimp only; omega, by rw [hE]; rfl⟩, by dsimp only; omega, fits_of rfl byK⟩
  · have hi : i = 83 := hi
    rw [show shM (shD 14) = [.box 45 (cA 0), .row 0 49 7 (agR0.pre.map nF), .row 0 51 3 (agR0.decls.map dcD), .box 45 (cA 0), .rowo 0 45 4 [] 1 (cA 0), .rowo 12 45 4 [] 7 [.val (.string ⟨#[]⟩), .row 1 0, .val (.bool true), .row 2 0, .val (.string ⟨#[]⟩), .row 7 0, .val (.bool true), .row 8 0, .val (.string ⟨#[]⟩), .row 12 0, .val (.bool true), .row 13 0, .val (.string ⟨#[]⟩), .row 17 0, .val (.bool true), .row 18 0, .val (.string ⟨#[]⟩), .row 22 0, .val (.bool true), .row 23 0, .val (.string ⟨#[]⟩), .row 27 0, .val (.bool true), .row 28 0, .val (.string ⟨#[]⟩), .row 32 0, .val (.bool true), .row 33 0], .box 45 (cA 6), .row 0 49 7 (agR1.pre.map nF), .row 0 51 3 (agR1.decls.map dcD), .box 45 (cA 6), .rowo 0 45 4 [] 1 (cA 6), .box 45 (cA 11), .row 0 49 7 (agR2.pre.map nF), .row 0 51 3 (agR2.decls.map dcD), .box 45 (cA 11), .rowo 0 45 4 [] 1 (cA 11), .box 45 (cA 16), .row 0 49 7 (agR3.pre.map nF), .row 0 51 3 (agR3.decls.map dcD), .box 45 (cA 16), .rowo 0 45 4 [] 1 (cA 16), .box 45 (cA 21), .row 0 49 7 (agR4.pre.map nF), .row 0 51 3 (agR4.decls.map dcD), .box 45 (cA 21), .rowo 0 45 4 [] 1 (cA 21), .box 45 (cA 26), .row 0 49 7 (agR5.pre.map nF), .row 0 51 3 (agR5.decls.map dcD), .box 45 (cA 26), .rowo 0 45 4 [] 1 (cA 26), .box 45 (cA 31), .row 0 49 7 (agR6.pre.map nF), .row 0 51 3 (agR6.decls.map dcD), .box 45 (cA 31), .rowo 0 45 4 [] 1 (cA 31)] from rfl, show shO (shD 14) = .row 5 12 from rfl]
    repeat (first | refine awp_seq ?_ | refine thenA_normal ?_ | refine a_region ?_ | refine r_done ?_ | (refine r_id ?_; first | refine r_len tab_ok rfl rfl rfl rfl rfl rfl rfl ?_ | refine r_ev tab_ok rfl rfl rfl rfl byE rfl ?_))
    refine awp_cond_p rfl (fun _ => ?_) (fun h => (by omega))
    have hi' : i < l.length := by omega
    have hgi := ndAt_get hi'
    repeat (first | refine awp_seq ?_ | refine thenA_normal ?_ | refine awp_block ?_ | refine a_region ?_ | refine awp_skip ?_ | (refine r_id ?_; first | refine r_ev tab_ok rfl rfl rfl rfl byE rfl ?_ | refine r_idx tab_ok rfl rfl rfl rfl rfl rfl rfl (by first | exact ⟨by omega, by omega⟩ | (simp; omega)) rfl rfl ?_))
    simp only [Int.toNat_natCast, hgi]
    refine r_call (pskip_ok (ndAt l i)) call29 rfl rfl ⟨Sub.agg (by repeat' first | exact trivial | exact Sub.refl _ | exact Sub.nil _ | refine Sub.agg ?_ | apply And.intro), trivial⟩ rfl rfl rfl rfl ?_
    rw [show skpB (ndAt l i) = false from by rw [hi]; exact hA.s7]
    have hE : enI l i = 88 := by rw [hi]; exact hA.e7
    have hone := oneM_ok l i hi' (by omega) ht hk (by rw [hi]; exact hA.a7) (by rw [hE]; omega) (by rw [hE]; exact hA.b7)
    rw [show rlAt l i = agR7 from by rw [hi]; exact hA.r7] at hone
    generalize enI l i = q at hone hE
    repeat (first | refine awp_seq ?_ | refine thenA_normal ?_ | refine a_region ?_ | refine awp_skip ?_ | refine r_done ?_ | (refine r_id ?_; first | refine r_ev tab_ok rfl rfl rfl rfl byE rfl ?_) | refine awp_cond_f rfl ?_)
    refine r_rcall (M'' := [.box 45 (cA 0), .row 0 49 7 (agR0.pre.map nF), .row 0 51 3 (agR0.decls.map dcD), .box 45 (cA 0), .rowo 0 45 4 [] 1 (cA 0), .rowo 12 45 4 [] 7 [.val (.string ⟨#[]⟩), .row 1 0, .val (.bool true), .row 2 0, .val (.string ⟨#[]⟩), .row 7 0, .val (.bool true), .row 8 0, .val (.string ⟨#[]⟩), .row 12 0, .val (.bool true), .row 13 0, .val (.string ⟨#[]⟩), .row 17 0, .val (.bool true), .row 18 0, .val (.string ⟨#[]⟩), .row 22 0, .val (.bool true), .row 23 0, .val (.string ⟨#[]⟩), .row 27 0, .val (.bool true), .row 28 0, .val (.string ⟨#[]⟩), .row 32 0, .val (.bool true), .row 33 0], .box 45 (cA 6), .row 0 49 7 (agR1.pre.map nF), .row 0 51 3 (agR1.decls.map dcD), .box 45 (cA 6), .rowo 0 45 4 [] 1 (cA 6), .box 45 (cA 11), .row 0 49 7 (agR2.pre.map nF), .row 0 51 3 (agR2.decls.map dcD), .box 45 (cA 11), .rowo 0 45 4 [] 1 (cA 11), .box 45 (cA 16), .row 0 49 7 (agR3.pre.map nF), .row 0 51 3 (agR3.decls.map dcD), .box 45 (cA 16), .rowo 0 45 4 [] 1 (cA 16), .box 45 (cA 21), .row 0 49 7 (agR4.pre.map nF), .row 0 51 3 (agR4.decls.map dcD), .box 45 (cA 21), .rowo 0 45 4 [] 1 (cA 21), .box 45 (cA 26), .row 0 49 7 (agR5.pre.map nF), .row 0 51 3 (agR5.decls.map dcD), .box 45 (cA 26), .rowo 0 45 4 [] 1 (cA 26), .box 45 (cA 31), .row 0 49 7 (agR6.pre.map nF), .row 0 51 3 (agR6.decls.map dcD), .box 45 (cA 31), .rowo 0 45 4 [] 1 (cA 31), .box 45 (cA 36), .row 0 49 7 (agR7.pre.map nF), .row 0 51 3 (agR7.decls.map dcD)]) hone call30 rfl rfl ⟨Sub.refl _, Sub.refl _, trivial⟩ rfl rfl rfl rfl rfl rfl ?_
    repeat (first | refine awp_seq ?_ | refine thenA_normal ?_ | refine a_region ?_ | refine r_done ?_ | (refine r_id ?_; first | refine r_ev tab_ok rfl rfl rfl rfl byE rfl ?_ | refine r_ld tab_ok rfl rfl rfl rfl rfl ?_ | refine r_wr tab_ok rfl rfl rfl rfl rfl ?_ | refine r_st tab_ok rfl rfl rfl rfl ?_) | refine awp_cond_t rfl ?_)
    refine r_build_o tab_ok rfl rfl rfl rfl rfl rfl rfl rfl rfl rfl ?_
    refine r_append_oo tab_ok rfl rfl rfl rfl rfl rfl rfl rfl rfl (by decide) rfl rfl rfl rfl ?_
    repeat (first | refine thenA_normal ?_ | refine blockA_normal ?_ | refine r_done ?_ | (refine r_id ?_; first | refine r_ev tab_ok rfl rfl rfl rfl byE rfl ?_))
    exact ⟨⟨(15, q + 1), by dsimp only; omega, by rw [hE]; rfl⟩, by dsimp only; omega, fits_of rfl byK⟩
  · have hi : i = 89 := hi
    rw [show shM (shD 15) = [.box 45 (cA 0), .row 0 49 7 (agR0.pre.map nF), .row 0 51 3 (agR0.decls.map dcD), .box 45 (cA 0), .rowo 0 45 4 [] 1 (cA 0), .rowo 14 45 4 [] 8 [.val (.string ⟨#[]⟩), .row 1 0, .val (.bool true), .row 2 0, .val (.string ⟨#[]⟩), .row 7 0, .val (.bool true), .row 8 0, .val (.string ⟨#[]⟩), .row 12 0, .val (.bool true), .row 13 0, .val (.string ⟨#[]⟩), .row 17 0, .val (.bool true), .row 18 0, .val (.string ⟨#[]⟩), .row 22 0, .val (.bool true), .row 23 0, .val (.string ⟨#[]⟩), .row 27 0, .val (.bool true), .row 28 0, .val (.string ⟨#[]⟩), .row 32 0, .val (.bool true), .row 33 0, .val (.string ⟨#[]⟩), .row 37 0, .val (.bool true), .row 38 0], .box 45 (cA 6), .row 0 49 7 (agR1.pre.map nF), .row 0 51 3 (agR1.decls.map dcD), .box 45 (cA 6), .rowo 0 45 4 [] 1 (cA 6), .box 45 (cA 11), .row 0 49 7 (agR2.pre.map nF), .row 0 51 3 (agR2.decls.map dcD), .box 45 (cA 11), .rowo 0 45 4 [] 1 (cA 11), .box 45 (cA 16), .row 0 49 7 (agR3.pre.map nF), .row 0 51 3 (agR3.decls.map dcD), .box 45 (cA 16), .rowo 0 45 4 [] 1 (cA 16), .box 45 (cA 21), .row 0 49 7 (agR4.pre.map nF), .row 0 51 3 (agR4.decls.map dcD), .box 45 (cA 21), .rowo 0 45 4 [] 1 (cA 21), .box 45 (cA 26), .row 0 49 7 (agR5.pre.map nF), .row 0 51 3 (agR5.decls.map dcD), .box 45 (cA 26), .rowo 0 45 4 [] 1 (cA 26), .box 45 (cA 31), .row 0 49 7 (agR6.pre.map nF), .row 0 51 3 (agR6.decls.map dcD), .box 45 (cA 31), .rowo 0 45 4 [] 1 (cA 31), .box 45 (cA 36), .row 0 49 7 (agR7.pre.map nF), .row 0 51 3 (agR7.decls.map dcD), .box 45 (cA 36), .rowo 0 45 4 [] 1 (cA 36)] from rfl, show shO (shD 15) = .row 5 14 from rfl]
    repeat (first | refine awp_seq ?_ | refine thenA_normal ?_ | refine a_region ?_ | refine r_done ?_ | (refine r_id ?_; first | refine r_len tab_ok rfl rfl rfl rfl rfl rfl rfl ?_ | refine r_ev tab_ok rfl rfl rfl rfl byE rfl ?_))
    refine awp_cond_p rfl (fun h => (by omega)) (fun _ => ?_)
    repeat (first | refine awp_seq ?_ | refine thenA_normal ?_ | refine a_region ?_ | refine awp_ret ?_ | refine awp_exit ?_ | refine awp_skip ?_ | refine r_done ?_ | (refine r_id ?_; first | refine r_ev tab_ok rfl rfl rfl rfl byE rfl ?_) | refine awp_cond_f rfl ?_ | refine r_len_o tab_ok rfl rfl rfl rfl rfl rfl rfl rfl ?_)
    exact retM2 byO rfl rfl rfl rfl rfl rfl (Sub.refl _) (Sub.refl _)
end Go.Proofs.YtiolnmfaeenlmaaGreatDoor
