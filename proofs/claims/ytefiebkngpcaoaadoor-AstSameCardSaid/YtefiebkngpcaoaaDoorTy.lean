/- Closed facts on the types of this seat's program, printed by a small program. No condition. -/
import Derived.Test.YtefiebkngpcaoaaDoorPK
import Derived.Test.YtefiebkngpcaoaaDoorProg
import Derived.KernelRfl
namespace Go.Proofs.YtefiebkngpcaoaaDoor
@[go_sem] theorem ty0 : tyI Tryd.prog 0 = (some (false, 1)) := by kernel_rfl
@[go_sem] theorem ik0 : intK Tryd.prog 0 = none := by kernel_rfl
@[go_sem] theorem ty1 : tyI Tryd.prog 1 = (some (false, 1)) := by kernel_rfl
@[go_sem] theorem ik1 : intK Tryd.prog 1 = none := by kernel_rfl
@[go_sem] theorem zr1 : zeroT Tryd.prog 1 = (some [.nilf]) := by kernel_rfl
@[go_sem] theorem zn1 : zeroTN Tryd.prog 1 = (some [.nilf]) := by kernel_rfl
@[go_sem] theorem ty2 : tyI Tryd.prog 2 = (some (false, 1)) := by kernel_rfl
@[go_sem] theorem ik2 : intK Tryd.prog 2 = (some .i64) := by kernel_rfl
@[go_sem] theorem zr2 : zeroT Tryd.prog 2 = (some [(.int .i64 0)]) := by kernel_rfl
@[go_sem] theorem zn2 : zeroTN Tryd.prog 2 = (some [(.int .i64 0)]) := by kernel_rfl
@[go_sem] theorem ty3 : tyI Tryd.prog 3 = (some (false, 1)) := by kernel_rfl
@[go_sem] theorem ik3 : intK Tryd.prog 3 = (some .i64) := by kernel_rfl
@[go_sem] theorem zr3 : zeroT Tryd.prog 3 = (some [(.int .i64 0)]) := by kernel_rfl
@[go_sem] theorem zn3 : zeroTN Tryd.prog 3 = (some [(.int .i64 0)]) := by kernel_rfl
@[go_sem] theorem ty4 : tyI Tryd.prog 4 = (some (false, 1)) := by kernel_rfl
@[go_sem] theorem bo4 : boolT Tryd.prog 4 = true := by kernel_rfl
@[go_sem] theorem ik4 : intK Tryd.prog 4 = none := by kernel_rfl
@[go_sem] theorem zr4 : zeroT Tryd.prog 4 = (some [(.bool false)]) := by kernel_rfl
@[go_sem] theorem zn4 : zeroTN Tryd.prog 4 = (some [(.bool false)]) := by kernel_rfl
@[go_sem] theorem ty5 : tyI Tryd.prog 5 = (some (false, 1)) := by kernel_rfl
@[go_sem] theorem ik5 : intK Tryd.prog 5 = (some .u8) := by kernel_rfl
@[go_sem] theorem zr5 : zeroT Tryd.prog 5 = (some [(.int .u8 0)]) := by kernel_rfl
@[go_sem] theorem zn5 : zeroTN Tryd.prog 5 = (some [(.int .u8 0)]) := by kernel_rfl
@[go_sem] theorem ty6 : tyI Tryd.prog 6 = (some (false, 1)) := by kernel_rfl
@[go_sem] theorem ik6 : intK Tryd.prog 6 = (some .u8) := by kernel_rfl
@[go_sem] theorem zr6 : zeroT Tryd.prog 6 = (some [(.int .u8 0)]) := by kernel_rfl
@[go_sem] theorem zn6 : zeroTN Tryd.prog 6 = (some [(.int .u8 0)]) := by kernel_rfl
@[go_sem] theorem ty7 : tyI Tryd.prog 7 = (some (true, 4)) := by kernel_rfl
@[go_sem] theorem ik7 : intK Tryd.prog 7 = none := by kernel_rfl
@[go_sem] theorem zr7 : zeroT Tryd.prog 7 = (some [(.int .i64 0), (.int .i64 0), (.bool false), (.int .u8 0)]) := by kernel_rfl
@[go_sem] theorem zn7 : zeroTN Tryd.prog 7 = (some [(.int .i64 0), (.int .i64 0), (.bool false), (.int .u8 0)]) := by kernel_rfl
@[go_sem] theorem pl7 : placesT Tryd.prog 7 = (some [(0, 1), (1, 1), (2, 1), (3, 1)]) := by kernel_rfl
@[go_sem] theorem fq7 : flatQ Tryd.prog 7 = (some [0, 0, 2, 0]) := by kernel_rfl
@[go_sem] theorem fl7_0 : fldT Tryd.prog 7 0 = (some (0, (false, 1))) := by kernel_rfl
@[go_sem] theorem fl7_1 : fldT Tryd.prog 7 1 = (some (1, (false, 1))) := by kernel_rfl
@[go_sem] theorem fl7_2 : fldT Tryd.prog 7 2 = (some (2, (false, 1))) := by kernel_rfl
@[go_sem] theorem fl7_3 : fldT Tryd.prog 7 3 = (some (3, (false, 1))) := by kernel_rfl
@[go_sem] theorem ty8 : tyI Tryd.prog 8 = (some (true, 4)) := by kernel_rfl
@[go_sem] theorem ik8 : intK Tryd.prog 8 = none := by kernel_rfl
@[go_sem] theorem zr8 : zeroT Tryd.prog 8 = (some [(.int .i64 0), (.int .i64 0), (.bool false), (.int .u8 0)]) := by kernel_rfl
@[go_sem] theorem zn8 : zeroTN Tryd.prog 8 = (some [(.int .i64 0), (.int .i64 0), (.bool false), (.int .u8 0)]) := by kernel_rfl
@[go_sem] theorem pl8 : placesT Tryd.prog 8 = (some [(0, 1), (1, 1), (2, 1), (3, 1)]) := by kernel_rfl
@[go_sem] theorem fq8 : flatQ Tryd.prog 8 = (some [0, 0, 2, 0]) := by kernel_rfl
@[go_sem] theorem fl8_0 : fldT Tryd.prog 8 0 = (some (0, (false, 1))) := by kernel_rfl
@[go_sem] theorem fl8_1 : fldT Tryd.prog 8 1 = (some (1, (false, 1))) := by kernel_rfl
@[go_sem] theorem fl8_2 : fldT Tryd.prog 8 2 = (some (2, (false, 1))) := by kernel_rfl
@[go_sem] theorem fl8_3 : fldT Tryd.prog 8 3 = (some (3, (false, 1))) := by kernel_rfl
@[go_sem] theorem ty9 : tyI Tryd.prog 9 = (some (false, 1)) := by kernel_rfl
@[go_sem] theorem str9 : isStr Tryd.prog 9 = true := by kernel_rfl
@[go_sem] theorem ik9 : intK Tryd.prog 9 = none := by kernel_rfl
@[go_sem] theorem zr9 : zeroT Tryd.prog 9 = (some [(.str ⟨#[]⟩)]) := by kernel_rfl
@[go_sem] theorem zn9 : zeroTN Tryd.prog 9 = (some [(.str ⟨#[]⟩)]) := by kernel_rfl
@[go_sem] theorem ty10 : tyI Tryd.prog 10 = (some (false, 1)) := by kernel_rfl
@[go_sem] theorem str10 : isStr Tryd.prog 10 = true := by kernel_rfl
@[go_sem] theorem ik10 : intK Tryd.prog 10 = none := by kernel_rfl
@[go_sem] theorem zr10 : zeroT Tryd.prog 10 = (some [(.str ⟨#[]⟩)]) := by kernel_rfl
@[go_sem] theorem zn10 : zeroTN Tryd.prog 10 = (some [(.str ⟨#[]⟩)]) := by kernel_rfl
@[go_sem] theorem ty11 : tyI Tryd.prog 11 = (some (false, 1)) := by kernel_rfl
@[go_sem] theorem str11 : isStr Tryd.prog 11 = true := by kernel_rfl
@[go_sem] theorem ik11 : intK Tryd.prog 11 = none := by kernel_rfl
@[go_sem] theorem zr11 : zeroT Tryd.prog 11 = (some [(.str ⟨#[]⟩)]) := by kernel_rfl
@[go_sem] theorem zn11 : zeroTN Tryd.prog 11 = (some [(.str ⟨#[]⟩)]) := by kernel_rfl
@[go_sem] theorem ty12 : tyI Tryd.prog 12 = (some (false, 1)) := by kernel_rfl
@[go_sem] theorem ik12 : intK Tryd.prog 12 = (some .u64) := by kernel_rfl
@[go_sem] theorem zr12 : zeroT Tryd.prog 12 = (some [(.int .u64 0)]) := by kernel_rfl
@[go_sem] theorem zn12 : zeroTN Tryd.prog 12 = (some [(.int .u64 0)]) := by kernel_rfl
@[go_sem] theorem ty13 : tyI Tryd.prog 13 = (some (true, 2)) := by kernel_rfl
@[go_sem] theorem ik13 : intK Tryd.prog 13 = none := by kernel_rfl
@[go_sem] theorem zr13 : zeroT Tryd.prog 13 = (some [(.str ⟨#[]⟩), (.int .u64 0)]) := by kernel_rfl
@[go_sem] theorem zn13 : zeroTN Tryd.prog 13 = (some [(.str ⟨#[]⟩), (.int .u64 0)]) := by kernel_rfl
@[go_sem] theorem pl13 : placesT Tryd.prog 13 = (some [(0, 1), (1, 1)]) := by kernel_rfl
@[go_sem] theorem fl13_0 : fldT Tryd.prog 13 0 = (some (0, (false, 1))) := by kernel_rfl
@[go_sem] theorem fl13_1 : fldT Tryd.prog 13 1 = (some (1, (false, 1))) := by kernel_rfl
@[go_sem] theorem ty14 : tyI Tryd.prog 14 = (some (true, 2)) := by kernel_rfl
@[go_sem] theorem ik14 : intK Tryd.prog 14 = none := by kernel_rfl
@[go_sem] theorem zr14 : zeroT Tryd.prog 14 = (some [(.str ⟨#[]⟩), (.int .u64 0)]) := by kernel_rfl
@[go_sem] theorem zn14 : zeroTN Tryd.prog 14 = (some [(.str ⟨#[]⟩), (.int .u64 0)]) := by kernel_rfl
@[go_sem] theorem pl14 : placesT Tryd.prog 14 = (some [(0, 1), (1, 1)]) := by kernel_rfl
@[go_sem] theorem fl14_0 : fldT Tryd.prog 14 0 = (some (0, (false, 1))) := by kernel_rfl
@[go_sem] theorem fl14_1 : fldT Tryd.prog 14 1 = (some (1, (false, 1))) := by kernel_rfl
@[go_sem] theorem ty15 : tyI Tryd.prog 15 = (some (false, 1)) := by kernel_rfl
@[go_sem] theorem ik15 : intK Tryd.prog 15 = none := by kernel_rfl
@[go_sem] theorem zr15 : zeroT Tryd.prog 15 = (some [.nilp]) := by kernel_rfl
@[go_sem] theorem zn15 : zeroTN Tryd.prog 15 = (some [.nilp]) := by kernel_rfl
@[go_sem] theorem ty16 : tyI Tryd.prog 16 = (some (false, 1)) := by kernel_rfl
@[go_sem] theorem ik16 : intK Tryd.prog 16 = none := by kernel_rfl
@[go_sem] theorem zr16 : zeroT Tryd.prog 16 = (some [.nilp]) := by kernel_rfl
@[go_sem] theorem zn16 : zeroTN Tryd.prog 16 = (some [.nilp]) := by kernel_rfl
@[go_sem] theorem ty17 : tyI Tryd.prog 17 = (some (false, 1)) := by kernel_rfl
@[go_sem] theorem ik17 : intK Tryd.prog 17 = none := by kernel_rfl
@[go_sem] theorem zr17 : zeroT Tryd.prog 17 = (some [.nilp]) := by kernel_rfl
@[go_sem] theorem zn17 : zeroTN Tryd.prog 17 = (some [.nilp]) := by kernel_rfl
@[go_sem] theorem ty18 : tyI Tryd.prog 18 = (some (true, 1)) := by kernel_rfl
@[go_sem] theorem ik18 : intK Tryd.prog 18 = none := by kernel_rfl
@[go_sem] theorem zr18 : zeroT Tryd.prog 18 = (some [.nilp]) := by kernel_rfl
@[go_sem] theorem zn18 : zeroTN Tryd.prog 18 = (some [.nilp]) := by kernel_rfl
@[go_sem] theorem pl18 : placesT Tryd.prog 18 = (some [(0, 1)]) := by kernel_rfl
@[go_sem] theorem fl18_0 : fldT Tryd.prog 18 0 = (some (0, (false, 1))) := by kernel_rfl
@[go_sem] theorem ty19 : tyI Tryd.prog 19 = (some (true, 1)) := by kernel_rfl
@[go_sem] theorem ik19 : intK Tryd.prog 19 = none := by kernel_rfl
@[go_sem] theorem zr19 : zeroT Tryd.prog 19 = (some [.nilp]) := by kernel_rfl
@[go_sem] theorem zn19 : zeroTN Tryd.prog 19 = (some [.nilp]) := by kernel_rfl
@[go_sem] theorem pl19 : placesT Tryd.prog 19 = (some [(0, 1)]) := by kernel_rfl
@[go_sem] theorem fl19_0 : fldT Tryd.prog 19 0 = (some (0, (false, 1))) := by kernel_rfl
@[go_sem] theorem ty20 : tyI Tryd.prog 20 = (some (false, 1)) := by kernel_rfl
@[go_sem] theorem ik20 : intK Tryd.prog 20 = none := by kernel_rfl
@[go_sem] theorem ty21 : tyI Tryd.prog 21 = (some (false, 1)) := by kernel_rfl
@[go_sem] theorem ik21 : intK Tryd.prog 21 = (some .i32) := by kernel_rfl
@[go_sem] theorem zr21 : zeroT Tryd.prog 21 = (some [(.int .i32 0)]) := by kernel_rfl
@[go_sem] theorem zn21 : zeroTN Tryd.prog 21 = (some [(.int .i32 0)]) := by kernel_rfl
@[go_sem] theorem ty22 : tyI Tryd.prog 22 = (some (false, 1)) := by kernel_rfl
@[go_sem] theorem el22 : elT Tryd.prog 22 = (some (24, (5, 72))) := by kernel_rfl
@[go_sem] theorem ik22 : intK Tryd.prog 22 = none := by kernel_rfl
@[go_sem] theorem zr22 : zeroT Tryd.prog 22 = (some [(.sl 0 [])]) := by kernel_rfl
@[go_sem] theorem zn22 : zeroTN Tryd.prog 22 = (some [.nils]) := by kernel_rfl
@[go_sem] theorem ty23 : tyI Tryd.prog 23 = (some (true, 5)) := by kernel_rfl
@[go_sem] theorem ik23 : intK Tryd.prog 23 = none := by kernel_rfl
@[go_sem] theorem zr23 : zeroT Tryd.prog 23 = (some [(.int .i64 0), (.int .i64 0), (.str ⟨#[]⟩), (.str ⟨#[]⟩), (.sl 0 [])]) := by kernel_rfl
@[go_sem] theorem zn23 : zeroTN Tryd.prog 23 = (some [(.int .i64 0), (.int .i64 0), (.str ⟨#[]⟩), (.str ⟨#[]⟩), .nils]) := by kernel_rfl
@[go_sem] theorem pl23 : placesT Tryd.prog 23 = (some [(0, 1), (1, 1), (2, 1), (3, 1), (4, 1)]) := by kernel_rfl
@[go_sem] theorem fl23_0 : fldT Tryd.prog 23 0 = (some (0, (false, 1))) := by kernel_rfl
@[go_sem] theorem fl23_1 : fldT Tryd.prog 23 1 = (some (1, (false, 1))) := by kernel_rfl
@[go_sem] theorem fl23_2 : fldT Tryd.prog 23 2 = (some (2, (false, 1))) := by kernel_rfl
@[go_sem] theorem fl23_3 : fldT Tryd.prog 23 3 = (some (3, (false, 1))) := by kernel_rfl
@[go_sem] theorem fl23_4 : fldT Tryd.prog 23 4 = (some (4, (false, 1))) := by kernel_rfl
@[go_sem] theorem ty24 : tyI Tryd.prog 24 = (some (true, 5)) := by kernel_rfl
@[go_sem] theorem ik24 : intK Tryd.prog 24 = none := by kernel_rfl
@[go_sem] theorem zr24 : zeroT Tryd.prog 24 = (some [(.int .i64 0), (.int .i64 0), (.str ⟨#[]⟩), (.str ⟨#[]⟩), (.sl 0 [])]) := by kernel_rfl
@[go_sem] theorem zn24 : zeroTN Tryd.prog 24 = (some [(.int .i64 0), (.int .i64 0), (.str ⟨#[]⟩), (.str ⟨#[]⟩), .nils]) := by kernel_rfl
@[go_sem] theorem pl24 : placesT Tryd.prog 24 = (some [(0, 1), (1, 1), (2, 1), (3, 1), (4, 1)]) := by kernel_rfl
@[go_sem] theorem fl24_0 : fldT Tryd.prog 24 0 = (some (0, (false, 1))) := by kernel_rfl
@[go_sem] theorem fl24_1 : fldT Tryd.prog 24 1 = (some (1, (false, 1))) := by kernel_rfl
@[go_sem] theorem fl24_2 : fldT Tryd.prog 24 2 = (some (2, (false, 1))) := by kernel_rfl
@[go_sem] theorem fl24_3 : fldT Tryd.prog 24 3 = (some (3, (false, 1))) := by kernel_rfl
@[go_sem] theorem fl24_4 : fldT Tryd.prog 24 4 = (some (4, (false, 1))) := by kernel_rfl
@[go_sem] theorem ty25 : tyI Tryd.prog 25 = (some (false, 1)) := by kernel_rfl
@[go_sem] theorem ik25 : intK Tryd.prog 25 = none := by kernel_rfl
@[go_sem] theorem zr25 : zeroT Tryd.prog 25 = (some [.nilf]) := by kernel_rfl
@[go_sem] theorem zn25 : zeroTN Tryd.prog 25 = (some [.nilf]) := by kernel_rfl
@[go_sem] theorem ty26 : tyI Tryd.prog 26 = (some (false, 1)) := by kernel_rfl
@[go_sem] theorem ik26 : intK Tryd.prog 26 = none := by kernel_rfl
@[go_sem] theorem zr26 : zeroT Tryd.prog 26 = (some [.nilf]) := by kernel_rfl
@[go_sem] theorem zn26 : zeroTN Tryd.prog 26 = (some [.nilf]) := by kernel_rfl
@[go_sem] theorem ty27 : tyI Tryd.prog 27 = (some (false, 1)) := by kernel_rfl
@[go_sem] theorem ik27 : intK Tryd.prog 27 = none := by kernel_rfl
@[go_sem] theorem zr27 : zeroT Tryd.prog 27 = (some [.nilf]) := by kernel_rfl
@[go_sem] theorem zn27 : zeroTN Tryd.prog 27 = (some [.nilf]) := by kernel_rfl
@[go_sem] theorem ty28 : tyI Tryd.prog 28 = (some (false, 1)) := by kernel_rfl
@[go_sem] theorem ik28 : intK Tryd.prog 28 = none := by kernel_rfl
@[go_sem] theorem zr28 : zeroT Tryd.prog 28 = (some [.nilf]) := by kernel_rfl
@[go_sem] theorem zn28 : zeroTN Tryd.prog 28 = (some [.nilf]) := by kernel_rfl
@[go_sem] theorem ty29 : tyI Tryd.prog 29 = (some (false, 1)) := by kernel_rfl
@[go_sem] theorem ik29 : intK Tryd.prog 29 = none := by kernel_rfl
@[go_sem] theorem zr29 : zeroT Tryd.prog 29 = (some [.nilf]) := by kernel_rfl
@[go_sem] theorem zn29 : zeroTN Tryd.prog 29 = (some [.nilf]) := by kernel_rfl
@[go_sem] theorem ty30 : tyI Tryd.prog 30 = (some (false, 1)) := by kernel_rfl
@[go_sem] theorem ik30 : intK Tryd.prog 30 = none := by kernel_rfl
@[go_sem] theorem zr30 : zeroT Tryd.prog 30 = (some [.nilf]) := by kernel_rfl
@[go_sem] theorem zn30 : zeroTN Tryd.prog 30 = (some [.nilf]) := by kernel_rfl
@[go_sem] theorem ty31 : tyI Tryd.prog 31 = (some (false, 1)) := by kernel_rfl
@[go_sem] theorem ik31 : intK Tryd.prog 31 = none := by kernel_rfl
@[go_sem] theorem zr31 : zeroT Tryd.prog 31 = (some [.nilf]) := by kernel_rfl
@[go_sem] theorem zn31 : zeroTN Tryd.prog 31 = (some [.nilf]) := by kernel_rfl
@[go_sem] theorem ty32 : tyI Tryd.prog 32 = (some (false, 1)) := by kernel_rfl
@[go_sem] theorem ik32 : intK Tryd.prog 32 = none := by kernel_rfl
@[go_sem] theorem zr32 : zeroT Tryd.prog 32 = (some [.nilf]) := by kernel_rfl
@[go_sem] theorem zn32 : zeroTN Tryd.prog 32 = (some [.nilf]) := by kernel_rfl
@[go_sem] theorem ty33 : tyI Tryd.prog 33 = (some (false, 1)) := by kernel_rfl
@[go_sem] theorem ik33 : intK Tryd.prog 33 = none := by kernel_rfl
@[go_sem] theorem zr33 : zeroT Tryd.prog 33 = (some [.nilf]) := by kernel_rfl
@[go_sem] theorem zn33 : zeroTN Tryd.prog 33 = (some [.nilf]) := by kernel_rfl
@[go_sem] theorem ty34 : tyI Tryd.prog 34 = (some (false, 1)) := by kernel_rfl
@[go_sem] theorem ik34 : intK Tryd.prog 34 = none := by kernel_rfl
@[go_sem] theorem zr34 : zeroT Tryd.prog 34 = (some [.nilf]) := by kernel_rfl
@[go_sem] theorem zn34 : zeroTN Tryd.prog 34 = (some [.nilf]) := by kernel_rfl
@[go_sem] theorem ty35 : tyI Tryd.prog 35 = (some (false, 1)) := by kernel_rfl
@[go_sem] theorem ik35 : intK Tryd.prog 35 = none := by kernel_rfl
@[go_sem] theorem zr35 : zeroT Tryd.prog 35 = (some [.nilf]) := by kernel_rfl
@[go_sem] theorem zn35 : zeroTN Tryd.prog 35 = (some [.nilf]) := by kernel_rfl
@[go_sem] theorem ty36 : tyI Tryd.prog 36 = (some (false, 1)) := by kernel_rfl
@[go_sem] theorem ik36 : intK Tryd.prog 36 = none := by kernel_rfl
@[go_sem] theorem zr36 : zeroT Tryd.prog 36 = (some [.nilf]) := by kernel_rfl
@[go_sem] theorem zn36 : zeroTN Tryd.prog 36 = (some [.nilf]) := by kernel_rfl
@[go_sem] theorem ty37 : tyI Tryd.prog 37 = (some (false, 1)) := by kernel_rfl
@[go_sem] theorem el37 : elT Tryd.prog 37 = (some (71, (14, 296))) := by kernel_rfl
@[go_sem] theorem ik37 : intK Tryd.prog 37 = none := by kernel_rfl
@[go_sem] theorem zr37 : zeroT Tryd.prog 37 = (some [(.sl 0 [])]) := by kernel_rfl
@[go_sem] theorem zn37 : zeroTN Tryd.prog 37 = (some [.nils]) := by kernel_rfl
@[go_sem] theorem ty38 : tyI Tryd.prog 38 = (some (true, 2)) := by kernel_rfl
@[go_sem] theorem ik38 : intK Tryd.prog 38 = none := by kernel_rfl
@[go_sem] theorem zr38 : zeroT Tryd.prog 38 = (some [(.sl 0 []), (.str ⟨#[]⟩)]) := by kernel_rfl
@[go_sem] theorem zn38 : zeroTN Tryd.prog 38 = (some [.nils, (.str ⟨#[]⟩)]) := by kernel_rfl
@[go_sem] theorem pl38 : placesT Tryd.prog 38 = (some [(0, 1), (1, 1)]) := by kernel_rfl
@[go_sem] theorem fl38_0 : fldT Tryd.prog 38 0 = (some (0, (false, 1))) := by kernel_rfl
@[go_sem] theorem fl38_1 : fldT Tryd.prog 38 1 = (some (1, (false, 1))) := by kernel_rfl
@[go_sem] theorem ty39 : tyI Tryd.prog 39 = (some (true, 2)) := by kernel_rfl
@[go_sem] theorem ik39 : intK Tryd.prog 39 = none := by kernel_rfl
@[go_sem] theorem zr39 : zeroT Tryd.prog 39 = (some [(.sl 0 []), (.str ⟨#[]⟩)]) := by kernel_rfl
@[go_sem] theorem zn39 : zeroTN Tryd.prog 39 = (some [.nils, (.str ⟨#[]⟩)]) := by kernel_rfl
@[go_sem] theorem pl39 : placesT Tryd.prog 39 = (some [(0, 1), (1, 1)]) := by kernel_rfl
@[go_sem] theorem fl39_0 : fldT Tryd.prog 39 0 = (some (0, (false, 1))) := by kernel_rfl
@[go_sem] theorem fl39_1 : fldT Tryd.prog 39 1 = (some (1, (false, 1))) := by kernel_rfl
@[go_sem] theorem ty40 : tyI Tryd.prog 40 = (some (false, 1)) := by kernel_rfl
@[go_sem] theorem ik40 : intK Tryd.prog 40 = none := by kernel_rfl
@[go_sem] theorem zr40 : zeroT Tryd.prog 40 = (some [.nilf]) := by kernel_rfl
@[go_sem] theorem zn40 : zeroTN Tryd.prog 40 = (some [.nilf]) := by kernel_rfl
@[go_sem] theorem ty41 : tyI Tryd.prog 41 = (some (false, 1)) := by kernel_rfl
@[go_sem] theorem ik41 : intK Tryd.prog 41 = none := by kernel_rfl
@[go_sem] theorem zr41 : zeroT Tryd.prog 41 = (some [.nilf]) := by kernel_rfl
@[go_sem] theorem zn41 : zeroTN Tryd.prog 41 = (some [.nilf]) := by kernel_rfl
@[go_sem] theorem ty42 : tyI Tryd.prog 42 = (some (false, 1)) := by kernel_rfl
@[go_sem] theorem ik42 : intK Tryd.prog 42 = none := by kernel_rfl
@[go_sem] theorem zr42 : zeroT Tryd.prog 42 = (some [.nilf]) := by kernel_rfl
@[go_sem] theorem zn42 : zeroTN Tryd.prog 42 = (some [.nilf]) := by kernel_rfl
@[go_sem] theorem ty43 : tyI Tryd.prog 43 = (some (false, 1)) := by kernel_rfl
@[go_sem] theorem ik43 : intK Tryd.prog 43 = (some .u16) := by kernel_rfl
@[go_sem] theorem zr43 : zeroT Tryd.prog 43 = (some [(.int .u16 0)]) := by kernel_rfl
@[go_sem] theorem zn43 : zeroTN Tryd.prog 43 = (some [(.int .u16 0)]) := by kernel_rfl
@[go_sem] theorem ty44 : tyI Tryd.prog 44 = (some (false, 1)) := by kernel_rfl
@[go_sem] theorem el44 : elT Tryd.prog 44 = (some (54, (8, 96))) := by kernel_rfl
@[go_sem] theorem ik44 : intK Tryd.prog 44 = none := by kernel_rfl
@[go_sem] theorem zr44 : zeroT Tryd.prog 44 = (some [(.sl 0 [])]) := by kernel_rfl
@[go_sem] theorem zn44 : zeroTN Tryd.prog 44 = (some [.nils]) := by kernel_rfl
@[go_sem] theorem ty45 : tyI Tryd.prog 45 = (some (false, 1)) := by kernel_rfl
@[go_sem] theorem ik45 : intK Tryd.prog 45 = none := by kernel_rfl
@[go_sem] theorem zr45 : zeroT Tryd.prog 45 = (some [.nilf]) := by kernel_rfl
@[go_sem] theorem zn45 : zeroTN Tryd.prog 45 = (some [.nilf]) := by kernel_rfl
@[go_sem] theorem ty46 : tyI Tryd.prog 46 = (some (false, 1)) := by kernel_rfl
@[go_sem] theorem ik46 : intK Tryd.prog 46 = none := by kernel_rfl
@[go_sem] theorem zr46 : zeroT Tryd.prog 46 = (some [.nilf]) := by kernel_rfl
@[go_sem] theorem zn46 : zeroTN Tryd.prog 46 = (some [.nilf]) := by kernel_rfl
@[go_sem] theorem ty47 : tyI Tryd.prog 47 = (some (false, 1)) := by kernel_rfl
@[go_sem] theorem ik47 : intK Tryd.prog 47 = none := by kernel_rfl
@[go_sem] theorem zr47 : zeroT Tryd.prog 47 = (some [.nilf]) := by kernel_rfl
@[go_sem] theorem zn47 : zeroTN Tryd.prog 47 = (some [.nilf]) := by kernel_rfl
@[go_sem] theorem ty48 : tyI Tryd.prog 48 = (some (false, 1)) := by kernel_rfl
@[go_sem] theorem ik48 : intK Tryd.prog 48 = none := by kernel_rfl
@[go_sem] theorem zr48 : zeroT Tryd.prog 48 = (some [.nilf]) := by kernel_rfl
@[go_sem] theorem zn48 : zeroTN Tryd.prog 48 = (some [.nilf]) := by kernel_rfl
@[go_sem] theorem ty49 : tyI Tryd.prog 49 = (some (true, 4)) := by kernel_rfl
@[go_sem] theorem ik49 : intK Tryd.prog 49 = none := by kernel_rfl
@[go_sem] theorem zr49 : zeroT Tryd.prog 49 = (some [(.int .i64 0), (.int .i64 0), (.int .i64 0), (.int .i64 0)]) := by kernel_rfl
@[go_sem] theorem zn49 : zeroTN Tryd.prog 49 = (some [(.int .i64 0), (.int .i64 0), (.int .i64 0), (.int .i64 0)]) := by kernel_rfl
@[go_sem] theorem pl49 : placesT Tryd.prog 49 = (some [(0, 1), (1, 1), (2, 1), (3, 1)]) := by kernel_rfl
@[go_sem] theorem fq49 : flatQ Tryd.prog 49 = (some [0, 0, 0, 0]) := by kernel_rfl
@[go_sem] theorem fl49_0 : fldT Tryd.prog 49 0 = (some (0, (false, 1))) := by kernel_rfl
@[go_sem] theorem fl49_1 : fldT Tryd.prog 49 1 = (some (1, (false, 1))) := by kernel_rfl
@[go_sem] theorem fl49_2 : fldT Tryd.prog 49 2 = (some (2, (false, 1))) := by kernel_rfl
@[go_sem] theorem fl49_3 : fldT Tryd.prog 49 3 = (some (3, (false, 1))) := by kernel_rfl
@[go_sem] theorem ty50 : tyI Tryd.prog 50 = (some (true, 4)) := by kernel_rfl
@[go_sem] theorem ik50 : intK Tryd.prog 50 = none := by kernel_rfl
@[go_sem] theorem zr50 : zeroT Tryd.prog 50 = (some [(.int .i64 0), (.int .i64 0), (.int .i64 0), (.int .i64 0)]) := by kernel_rfl
@[go_sem] theorem zn50 : zeroTN Tryd.prog 50 = (some [(.int .i64 0), (.int .i64 0), (.int .i64 0), (.int .i64 0)]) := by kernel_rfl
@[go_sem] theorem pl50 : placesT Tryd.prog 50 = (some [(0, 1), (1, 1), (2, 1), (3, 1)]) := by kernel_rfl
@[go_sem] theorem fq50 : flatQ Tryd.prog 50 = (some [0, 0, 0, 0]) := by kernel_rfl
@[go_sem] theorem fl50_0 : fldT Tryd.prog 50 0 = (some (0, (false, 1))) := by kernel_rfl
@[go_sem] theorem fl50_1 : fldT Tryd.prog 50 1 = (some (1, (false, 1))) := by kernel_rfl
@[go_sem] theorem fl50_2 : fldT Tryd.prog 50 2 = (some (2, (false, 1))) := by kernel_rfl
@[go_sem] theorem fl50_3 : fldT Tryd.prog 50 3 = (some (3, (false, 1))) := by kernel_rfl
@[go_sem] theorem ty51 : tyI Tryd.prog 51 = (some (true, 3)) := by kernel_rfl
@[go_sem] theorem ik51 : intK Tryd.prog 51 = none := by kernel_rfl
@[go_sem] theorem zr51 : zeroT Tryd.prog 51 = (some [(.int .i64 0), (.int .i64 0), (.int .i64 0)]) := by kernel_rfl
@[go_sem] theorem zn51 : zeroTN Tryd.prog 51 = (some [(.int .i64 0), (.int .i64 0), (.int .i64 0)]) := by kernel_rfl
@[go_sem] theorem pl51 : placesT Tryd.prog 51 = (some [(0, 1), (1, 1), (2, 1)]) := by kernel_rfl
@[go_sem] theorem fq51 : flatQ Tryd.prog 51 = (some [0, 0, 0]) := by kernel_rfl
@[go_sem] theorem fl51_0 : fldT Tryd.prog 51 0 = (some (0, (false, 1))) := by kernel_rfl
@[go_sem] theorem fl51_1 : fldT Tryd.prog 51 1 = (some (1, (false, 1))) := by kernel_rfl
@[go_sem] theorem fl51_2 : fldT Tryd.prog 51 2 = (some (2, (false, 1))) := by kernel_rfl
@[go_sem] theorem ty52 : tyI Tryd.prog 52 = (some (true, 3)) := by kernel_rfl
@[go_sem] theorem ik52 : intK Tryd.prog 52 = none := by kernel_rfl
@[go_sem] theorem zr52 : zeroT Tryd.prog 52 = (some [(.int .i64 0), (.int .i64 0), (.int .i64 0)]) := by kernel_rfl
@[go_sem] theorem zn52 : zeroTN Tryd.prog 52 = (some [(.int .i64 0), (.int .i64 0), (.int .i64 0)]) := by kernel_rfl
@[go_sem] theorem pl52 : placesT Tryd.prog 52 = (some [(0, 1), (1, 1), (2, 1)]) := by kernel_rfl
@[go_sem] theorem fq52 : flatQ Tryd.prog 52 = (some [0, 0, 0]) := by kernel_rfl
@[go_sem] theorem fl52_0 : fldT Tryd.prog 52 0 = (some (0, (false, 1))) := by kernel_rfl
@[go_sem] theorem fl52_1 : fldT Tryd.prog 52 1 = (some (1, (false, 1))) := by kernel_rfl
@[go_sem] theorem fl52_2 : fldT Tryd.prog 52 2 = (some (2, (false, 1))) := by kernel_rfl
@[go_sem] theorem ty53 : tyI Tryd.prog 53 = (some (true, 8)) := by kernel_rfl
@[go_sem] theorem ik53 : intK Tryd.prog 53 = none := by kernel_rfl
@[go_sem] theorem zr53 : zeroT Tryd.prog 53 = (some [(.int .i64 0), (.int .i64 0), (.int .i64 0), (.int .i64 0), (.int .i64 0), (.str ⟨#[]⟩), (.str ⟨#[]⟩), (.sl 0 [])]) := by kernel_rfl
@[go_sem] theorem zn53 : zeroTN Tryd.prog 53 = (some [(.int .i64 0), (.int .i64 0), (.int .i64 0), (.int .i64 0), (.int .i64 0), (.str ⟨#[]⟩), (.str ⟨#[]⟩), .nils]) := by kernel_rfl
@[go_sem] theorem pl53 : placesT Tryd.prog 53 = (some [(0, 3), (3, 5)]) := by kernel_rfl
@[go_sem] theorem fl53_0 : fldT Tryd.prog 53 0 = (some (0, (true, 3))) := by kernel_rfl
@[go_sem] theorem fl53_1 : fldT Tryd.prog 53 1 = (some (3, (true, 5))) := by kernel_rfl
@[go_sem] theorem ty54 : tyI Tryd.prog 54 = (some (true, 8)) := by kernel_rfl
@[go_sem] theorem ik54 : intK Tryd.prog 54 = none := by kernel_rfl
@[go_sem] theorem zr54 : zeroT Tryd.prog 54 = (some [(.int .i64 0), (.int .i64 0), (.int .i64 0), (.int .i64 0), (.int .i64 0), (.str ⟨#[]⟩), (.str ⟨#[]⟩), (.sl 0 [])]) := by kernel_rfl
@[go_sem] theorem zn54 : zeroTN Tryd.prog 54 = (some [(.int .i64 0), (.int .i64 0), (.int .i64 0), (.int .i64 0), (.int .i64 0), (.str ⟨#[]⟩), (.str ⟨#[]⟩), .nils]) := by kernel_rfl
@[go_sem] theorem pl54 : placesT Tryd.prog 54 = (some [(0, 3), (3, 5)]) := by kernel_rfl
@[go_sem] theorem fl54_0 : fldT Tryd.prog 54 0 = (some (0, (true, 3))) := by kernel_rfl
@[go_sem] theorem fl54_1 : fldT Tryd.prog 54 1 = (some (3, (true, 5))) := by kernel_rfl
@[go_sem] theorem ty55 : tyI Tryd.prog 55 = (some (false, 1)) := by kernel_rfl
@[go_sem] theorem ik55 : intK Tryd.prog 55 = none := by kernel_rfl
@[go_sem] theorem zr55 : zeroT Tryd.prog 55 = (some [.nilf]) := by kernel_rfl
@[go_sem] theorem zn55 : zeroTN Tryd.prog 55 = (some [.nilf]) := by kernel_rfl
@[go_sem] theorem ty56 : tyI Tryd.prog 56 = (some (false, 1)) := by kernel_rfl
@[go_sem] theorem ik56 : intK Tryd.prog 56 = none := by kernel_rfl
@[go_sem] theorem zr56 : zeroT Tryd.prog 56 = (some [.nilf]) := by kernel_rfl
@[go_sem] theorem zn56 : zeroTN Tryd.prog 56 = (some [.nilf]) := by kernel_rfl
@[go_sem] theorem ty57 : tyI Tryd.prog 57 = (some (false, 1)) := by kernel_rfl
@[go_sem] theorem ik57 : intK Tryd.prog 57 = none := by kernel_rfl
@[go_sem] theorem zr57 : zeroT Tryd.prog 57 = (some [.nilf]) := by kernel_rfl
@[go_sem] theorem zn57 : zeroTN Tryd.prog 57 = (some [.nilf]) := by kernel_rfl
@[go_sem] theorem ty58 : tyI Tryd.prog 58 = (some (false, 1)) := by kernel_rfl
@[go_sem] theorem ik58 : intK Tryd.prog 58 = none := by kernel_rfl
@[go_sem] theorem zr58 : zeroT Tryd.prog 58 = (some [.nilf]) := by kernel_rfl
@[go_sem] theorem zn58 : zeroTN Tryd.prog 58 = (some [.nilf]) := by kernel_rfl
@[go_sem] theorem ty59 : tyI Tryd.prog 59 = (some (false, 1)) := by kernel_rfl
@[go_sem] theorem ik59 : intK Tryd.prog 59 = none := by kernel_rfl
@[go_sem] theorem zr59 : zeroT Tryd.prog 59 = (some [.nilf]) := by kernel_rfl
@[go_sem] theorem zn59 : zeroTN Tryd.prog 59 = (some [.nilf]) := by kernel_rfl
@[go_sem] theorem ty60 : tyI Tryd.prog 60 = (some (false, 1)) := by kernel_rfl
@[go_sem] theorem el60 : elT Tryd.prog 60 = (some (9, (1, 16))) := by kernel_rfl
@[go_sem] theorem ik60 : intK Tryd.prog 60 = none := by kernel_rfl
@[go_sem] theorem zr60 : zeroT Tryd.prog 60 = (some [(.sl 0 [])]) := by kernel_rfl
@[go_sem] theorem zn60 : zeroTN Tryd.prog 60 = (some [.nils]) := by kernel_rfl
@[go_sem] theorem ty61 : tyI Tryd.prog 61 = (some (true, 33)) := by kernel_rfl
@[go_sem] theorem ik61 : intK Tryd.prog 61 = none := by kernel_rfl
@[go_sem] theorem ar61 : arrT Tryd.prog 61 = (some (33, 1)) := by kernel_rfl
@[go_sem] theorem zr61 : zeroT Tryd.prog 61 = (some [(.str ⟨#[]⟩), (.str ⟨#[]⟩), (.str ⟨#[]⟩), (.str ⟨#[]⟩), (.str ⟨#[]⟩), (.str ⟨#[]⟩), (.str ⟨#[]⟩), (.str ⟨#[]⟩), (.str ⟨#[]⟩), (.str ⟨#[]⟩), (.str ⟨#[]⟩), (.str ⟨#[]⟩), (.str ⟨#[]⟩), (.str ⟨#[]⟩), (.str ⟨#[]⟩), (.str ⟨#[]⟩), (.str ⟨#[]⟩), (.str ⟨#[]⟩), (.str ⟨#[]⟩), (.str ⟨#[]⟩), (.str ⟨#[]⟩), (.str ⟨#[]⟩), (.str ⟨#[]⟩), (.str ⟨#[]⟩), (.str ⟨#[]⟩), (.str ⟨#[]⟩), (.str ⟨#[]⟩), (.str ⟨#[]⟩), (.str ⟨#[]⟩), (.str ⟨#[]⟩), (.str ⟨#[]⟩), (.str ⟨#[]⟩), (.str ⟨#[]⟩)]) := by kernel_rfl
@[go_sem] theorem zn61 : zeroTN Tryd.prog 61 = (some [(.str ⟨#[]⟩), (.str ⟨#[]⟩), (.str ⟨#[]⟩), (.str ⟨#[]⟩), (.str ⟨#[]⟩), (.str ⟨#[]⟩), (.str ⟨#[]⟩), (.str ⟨#[]⟩), (.str ⟨#[]⟩), (.str ⟨#[]⟩), (.str ⟨#[]⟩), (.str ⟨#[]⟩), (.str ⟨#[]⟩), (.str ⟨#[]⟩), (.str ⟨#[]⟩), (.str ⟨#[]⟩), (.str ⟨#[]⟩), (.str ⟨#[]⟩), (.str ⟨#[]⟩), (.str ⟨#[]⟩), (.str ⟨#[]⟩), (.str ⟨#[]⟩), (.str ⟨#[]⟩), (.str ⟨#[]⟩), (.str ⟨#[]⟩), (.str ⟨#[]⟩), (.str ⟨#[]⟩), (.str ⟨#[]⟩), (.str ⟨#[]⟩), (.str ⟨#[]⟩), (.str ⟨#[]⟩), (.str ⟨#[]⟩), (.str ⟨#[]⟩)]) := by kernel_rfl
@[go_sem] theorem ty62 : tyI Tryd.prog 62 = (some (false, 1)) := by kernel_rfl
@[go_sem] theorem ik62 : intK Tryd.prog 62 = none := by kernel_rfl
@[go_sem] theorem zr62 : zeroT Tryd.prog 62 = (some [.nilf]) := by kernel_rfl
@[go_sem] theorem zn62 : zeroTN Tryd.prog 62 = (some [.nilf]) := by kernel_rfl
@[go_sem] theorem ty63 : tyI Tryd.prog 63 = (some (false, 1)) := by kernel_rfl
@[go_sem] theorem ik63 : intK Tryd.prog 63 = none := by kernel_rfl
@[go_sem] theorem zr63 : zeroT Tryd.prog 63 = (some [.nilf]) := by kernel_rfl
@[go_sem] theorem zn63 : zeroTN Tryd.prog 63 = (some [.nilf]) := by kernel_rfl
@[go_sem] theorem ty64 : tyI Tryd.prog 64 = (some (false, 1)) := by kernel_rfl
@[go_sem] theorem el64 : elT Tryd.prog 64 = (some (98, (3, 48))) := by kernel_rfl
@[go_sem] theorem ik64 : intK Tryd.prog 64 = none := by kernel_rfl
@[go_sem] theorem zr64 : zeroT Tryd.prog 64 = (some [(.sl 0 [])]) := by kernel_rfl
@[go_sem] theorem zn64 : zeroTN Tryd.prog 64 = (some [.nils]) := by kernel_rfl
@[go_sem] theorem ty65 : tyI Tryd.prog 65 = (some (false, 1)) := by kernel_rfl
@[go_sem] theorem el65 : elT Tryd.prog 65 = (some (100, (6, 88))) := by kernel_rfl
@[go_sem] theorem ik65 : intK Tryd.prog 65 = none := by kernel_rfl
@[go_sem] theorem zr65 : zeroT Tryd.prog 65 = (some [(.sl 0 [])]) := by kernel_rfl
@[go_sem] theorem zn65 : zeroTN Tryd.prog 65 = (some [.nils]) := by kernel_rfl
@[go_sem] theorem ty66 : tyI Tryd.prog 66 = (some (false, 1)) := by kernel_rfl
@[go_sem] theorem el66 : elT Tryd.prog 66 = (some (75, (7, 112))) := by kernel_rfl
@[go_sem] theorem ik66 : intK Tryd.prog 66 = none := by kernel_rfl
@[go_sem] theorem zr66 : zeroT Tryd.prog 66 = (some [(.sl 0 [])]) := by kernel_rfl
@[go_sem] theorem zn66 : zeroTN Tryd.prog 66 = (some [.nils]) := by kernel_rfl
@[go_sem] theorem ty67 : tyI Tryd.prog 67 = (some (false, 1)) := by kernel_rfl
@[go_sem] theorem el67 : elT Tryd.prog 67 = (some (109, (2, 32))) := by kernel_rfl
@[go_sem] theorem ik67 : intK Tryd.prog 67 = none := by kernel_rfl
@[go_sem] theorem zr67 : zeroT Tryd.prog 67 = (some [(.sl 0 [])]) := by kernel_rfl
@[go_sem] theorem zn67 : zeroTN Tryd.prog 67 = (some [.nils]) := by kernel_rfl
@[go_sem] theorem ty68 : tyI Tryd.prog 68 = (some (false, 1)) := by kernel_rfl
@[go_sem] theorem el68 : elT Tryd.prog 68 = (some (114, (4, 64))) := by kernel_rfl
@[go_sem] theorem ik68 : intK Tryd.prog 68 = none := by kernel_rfl
@[go_sem] theorem zr68 : zeroT Tryd.prog 68 = (some [(.sl 0 [])]) := by kernel_rfl
@[go_sem] theorem zn68 : zeroTN Tryd.prog 68 = (some [.nils]) := by kernel_rfl
@[go_sem] theorem ty69 : tyI Tryd.prog 69 = (some (false, 1)) := by kernel_rfl
@[go_sem] theorem el69 : elT Tryd.prog 69 = (some (78, (6, 96))) := by kernel_rfl
@[go_sem] theorem ik69 : intK Tryd.prog 69 = none := by kernel_rfl
@[go_sem] theorem zr69 : zeroT Tryd.prog 69 = (some [(.sl 0 [])]) := by kernel_rfl
@[go_sem] theorem zn69 : zeroTN Tryd.prog 69 = (some [.nils]) := by kernel_rfl
@[go_sem] theorem ty70 : tyI Tryd.prog 70 = (some (true, 14)) := by kernel_rfl
@[go_sem] theorem ik70 : intK Tryd.prog 70 = none := by kernel_rfl
@[go_sem] theorem zr70 : zeroT Tryd.prog 70 = (some [(.str ⟨#[]⟩), (.bool false), (.sl 0 []), (.sl 0 []), (.sl 0 []), (.sl 0 []), (.sl 0 []), (.sl 0 []), (.sl 0 []), (.int .i64 0), (.sl 0 []), (.sl 0 []), (.sl 0 []), (.sl 0 [])]) := by kernel_rfl
@[go_sem] theorem zn70 : zeroTN Tryd.prog 70 = (some [(.str ⟨#[]⟩), (.bool false), .nils, .nils, .nils, .nils, .nils, .nils, .nils, (.int .i64 0), .nils, .nils, .nils, .nils]) := by kernel_rfl
@[go_sem] theorem pl70 : placesT Tryd.prog 70 = (some [(0, 1), (1, 1), (2, 1), (3, 1), (4, 1), (5, 1), (6, 1), (7, 1), (8, 1), (9, 1), (10, 1), (11, 1), (12, 1), (13, 1)]) := by kernel_rfl
@[go_sem] theorem fl70_0 : fldT Tryd.prog 70 0 = (some (0, (false, 1))) := by kernel_rfl
@[go_sem] theorem fl70_1 : fldT Tryd.prog 70 1 = (some (1, (false, 1))) := by kernel_rfl
@[go_sem] theorem fl70_2 : fldT Tryd.prog 70 2 = (some (2, (false, 1))) := by kernel_rfl
@[go_sem] theorem fl70_3 : fldT Tryd.prog 70 3 = (some (3, (false, 1))) := by kernel_rfl
@[go_sem] theorem fl70_4 : fldT Tryd.prog 70 4 = (some (4, (false, 1))) := by kernel_rfl
@[go_sem] theorem fl70_5 : fldT Tryd.prog 70 5 = (some (5, (false, 1))) := by kernel_rfl
@[go_sem] theorem fl70_6 : fldT Tryd.prog 70 6 = (some (6, (false, 1))) := by kernel_rfl
@[go_sem] theorem fl70_7 : fldT Tryd.prog 70 7 = (some (7, (false, 1))) := by kernel_rfl
@[go_sem] theorem fl70_8 : fldT Tryd.prog 70 8 = (some (8, (false, 1))) := by kernel_rfl
@[go_sem] theorem fl70_9 : fldT Tryd.prog 70 9 = (some (9, (false, 1))) := by kernel_rfl
@[go_sem] theorem fl70_10 : fldT Tryd.prog 70 10 = (some (10, (false, 1))) := by kernel_rfl
@[go_sem] theorem fl70_11 : fldT Tryd.prog 70 11 = (some (11, (false, 1))) := by kernel_rfl
@[go_sem] theorem fl70_12 : fldT Tryd.prog 70 12 = (some (12, (false, 1))) := by kernel_rfl
@[go_sem] theorem fl70_13 : fldT Tryd.prog 70 13 = (some (13, (false, 1))) := by kernel_rfl
@[go_sem] theorem ty71 : tyI Tryd.prog 71 = (some (true, 14)) := by kernel_rfl
@[go_sem] theorem ik71 : intK Tryd.prog 71 = none := by kernel_rfl
@[go_sem] theorem zr71 : zeroT Tryd.prog 71 = (some [(.str ⟨#[]⟩), (.bool false), (.sl 0 []), (.sl 0 []), (.sl 0 []), (.sl 0 []), (.sl 0 []), (.sl 0 []), (.sl 0 []), (.int .i64 0), (.sl 0 []), (.sl 0 []), (.sl 0 []), (.sl 0 [])]) := by kernel_rfl
@[go_sem] theorem zn71 : zeroTN Tryd.prog 71 = (some [(.str ⟨#[]⟩), (.bool false), .nils, .nils, .nils, .nils, .nils, .nils, .nils, (.int .i64 0), .nils, .nils, .nils, .nils]) := by kernel_rfl
@[go_sem] theorem pl71 : placesT Tryd.prog 71 = (some [(0, 1), (1, 1), (2, 1), (3, 1), (4, 1), (5, 1), (6, 1), (7, 1), (8, 1), (9, 1), (10, 1), (11, 1), (12, 1), (13, 1)]) := by kernel_rfl
@[go_sem] theorem fl71_0 : fldT Tryd.prog 71 0 = (some (0, (false, 1))) := by kernel_rfl
@[go_sem] theorem fl71_1 : fldT Tryd.prog 71 1 = (some (1, (false, 1))) := by kernel_rfl
@[go_sem] theorem fl71_2 : fldT Tryd.prog 71 2 = (some (2, (false, 1))) := by kernel_rfl
@[go_sem] theorem fl71_3 : fldT Tryd.prog 71 3 = (some (3, (false, 1))) := by kernel_rfl
@[go_sem] theorem fl71_4 : fldT Tryd.prog 71 4 = (some (4, (false, 1))) := by kernel_rfl
@[go_sem] theorem fl71_5 : fldT Tryd.prog 71 5 = (some (5, (false, 1))) := by kernel_rfl
@[go_sem] theorem fl71_6 : fldT Tryd.prog 71 6 = (some (6, (false, 1))) := by kernel_rfl
@[go_sem] theorem fl71_7 : fldT Tryd.prog 71 7 = (some (7, (false, 1))) := by kernel_rfl
@[go_sem] theorem fl71_8 : fldT Tryd.prog 71 8 = (some (8, (false, 1))) := by kernel_rfl
@[go_sem] theorem fl71_9 : fldT Tryd.prog 71 9 = (some (9, (false, 1))) := by kernel_rfl
@[go_sem] theorem fl71_10 : fldT Tryd.prog 71 10 = (some (10, (false, 1))) := by kernel_rfl
@[go_sem] theorem fl71_11 : fldT Tryd.prog 71 11 = (some (11, (false, 1))) := by kernel_rfl
@[go_sem] theorem fl71_12 : fldT Tryd.prog 71 12 = (some (12, (false, 1))) := by kernel_rfl
@[go_sem] theorem fl71_13 : fldT Tryd.prog 71 13 = (some (13, (false, 1))) := by kernel_rfl
@[go_sem] theorem ty72 : tyI Tryd.prog 72 = (some (false, 1)) := by kernel_rfl
@[go_sem] theorem ik72 : intK Tryd.prog 72 = none := by kernel_rfl
@[go_sem] theorem zr72 : zeroT Tryd.prog 72 = (some [.nilf]) := by kernel_rfl
@[go_sem] theorem zn72 : zeroTN Tryd.prog 72 = (some [.nilf]) := by kernel_rfl
@[go_sem] theorem ty73 : tyI Tryd.prog 73 = (some (false, 1)) := by kernel_rfl
@[go_sem] theorem ik73 : intK Tryd.prog 73 = none := by kernel_rfl
@[go_sem] theorem zr73 : zeroT Tryd.prog 73 = (some [.nilf]) := by kernel_rfl
@[go_sem] theorem zn73 : zeroTN Tryd.prog 73 = (some [.nilf]) := by kernel_rfl
@[go_sem] theorem ty74 : tyI Tryd.prog 74 = (some (true, 7)) := by kernel_rfl
@[go_sem] theorem ik74 : intK Tryd.prog 74 = none := by kernel_rfl
@[go_sem] theorem zr74 : zeroT Tryd.prog 74 = (some [(.str ⟨#[]⟩), (.int .i64 0), (.int .i64 0), (.str ⟨#[]⟩), (.str ⟨#[]⟩), (.sl 0 []), (.sl 0 [])]) := by kernel_rfl
@[go_sem] theorem zn74 : zeroTN Tryd.prog 74 = (some [(.str ⟨#[]⟩), (.int .i64 0), (.int .i64 0), (.str ⟨#[]⟩), (.str ⟨#[]⟩), .nils, .nils]) := by kernel_rfl
@[go_sem] theorem pl74 : placesT Tryd.prog 74 = (some [(0, 1), (1, 5), (6, 1)]) := by kernel_rfl
@[go_sem] theorem fl74_0 : fldT Tryd.prog 74 0 = (some (0, (false, 1))) := by kernel_rfl
@[go_sem] theorem fl74_1 : fldT Tryd.prog 74 1 = (some (1, (true, 5))) := by kernel_rfl
@[go_sem] theorem fl74_2 : fldT Tryd.prog 74 2 = (some (6, (false, 1))) := by kernel_rfl
@[go_sem] theorem ty75 : tyI Tryd.prog 75 = (some (true, 7)) := by kernel_rfl
@[go_sem] theorem ik75 : intK Tryd.prog 75 = none := by kernel_rfl
@[go_sem] theorem zr75 : zeroT Tryd.prog 75 = (some [(.str ⟨#[]⟩), (.int .i64 0), (.int .i64 0), (.str ⟨#[]⟩), (.str ⟨#[]⟩), (.sl 0 []), (.sl 0 [])]) := by kernel_rfl
@[go_sem] theorem zn75 : zeroTN Tryd.prog 75 = (some [(.str ⟨#[]⟩), (.int .i64 0), (.int .i64 0), (.str ⟨#[]⟩), (.str ⟨#[]⟩), .nils, .nils]) := by kernel_rfl
@[go_sem] theorem pl75 : placesT Tryd.prog 75 = (some [(0, 1), (1, 5), (6, 1)]) := by kernel_rfl
@[go_sem] theorem fl75_0 : fldT Tryd.prog 75 0 = (some (0, (false, 1))) := by kernel_rfl
@[go_sem] theorem fl75_1 : fldT Tryd.prog 75 1 = (some (1, (true, 5))) := by kernel_rfl
@[go_sem] theorem fl75_2 : fldT Tryd.prog 75 2 = (some (6, (false, 1))) := by kernel_rfl
@[go_sem] theorem ty76 : tyI Tryd.prog 76 = (some (false, 1)) := by kernel_rfl
@[go_sem] theorem el76 : elT Tryd.prog 76 = (some (121, (7, 104))) := by kernel_rfl
@[go_sem] theorem ik76 : intK Tryd.prog 76 = none := by kernel_rfl
@[go_sem] theorem zr76 : zeroT Tryd.prog 76 = (some [(.sl 0 [])]) := by kernel_rfl
@[go_sem] theorem zn76 : zeroTN Tryd.prog 76 = (some [.nils]) := by kernel_rfl
@[go_sem] theorem ty77 : tyI Tryd.prog 77 = (some (true, 6)) := by kernel_rfl
@[go_sem] theorem ik77 : intK Tryd.prog 77 = none := by kernel_rfl
@[go_sem] theorem zr77 : zeroT Tryd.prog 77 = (some [(.int .i64 0), (.int .i64 0), (.str ⟨#[]⟩), (.str ⟨#[]⟩), (.sl 0 []), (.sl 0 [])]) := by kernel_rfl
@[go_sem] theorem zn77 : zeroTN Tryd.prog 77 = (some [(.int .i64 0), (.int .i64 0), (.str ⟨#[]⟩), (.str ⟨#[]⟩), .nils, .nils]) := by kernel_rfl
@[go_sem] theorem pl77 : placesT Tryd.prog 77 = (some [(0, 5), (5, 1)]) := by kernel_rfl
@[go_sem] theorem fl77_0 : fldT Tryd.prog 77 0 = (some (0, (true, 5))) := by kernel_rfl
@[go_sem] theorem fl77_1 : fldT Tryd.prog 77 1 = (some (5, (false, 1))) := by kernel_rfl
@[go_sem] theorem ty78 : tyI Tryd.prog 78 = (some (true, 6)) := by kernel_rfl
@[go_sem] theorem ik78 : intK Tryd.prog 78 = none := by kernel_rfl
@[go_sem] theorem zr78 : zeroT Tryd.prog 78 = (some [(.int .i64 0), (.int .i64 0), (.str ⟨#[]⟩), (.str ⟨#[]⟩), (.sl 0 []), (.sl 0 [])]) := by kernel_rfl
@[go_sem] theorem zn78 : zeroTN Tryd.prog 78 = (some [(.int .i64 0), (.int .i64 0), (.str ⟨#[]⟩), (.str ⟨#[]⟩), .nils, .nils]) := by kernel_rfl
@[go_sem] theorem pl78 : placesT Tryd.prog 78 = (some [(0, 5), (5, 1)]) := by kernel_rfl
@[go_sem] theorem fl78_0 : fldT Tryd.prog 78 0 = (some (0, (true, 5))) := by kernel_rfl
@[go_sem] theorem fl78_1 : fldT Tryd.prog 78 1 = (some (5, (false, 1))) := by kernel_rfl
@[go_sem] theorem ty79 : tyI Tryd.prog 79 = (some (false, 1)) := by kernel_rfl
@[go_sem] theorem ik79 : intK Tryd.prog 79 = none := by kernel_rfl
@[go_sem] theorem zr79 : zeroT Tryd.prog 79 = (some [.nilf]) := by kernel_rfl
@[go_sem] theorem zn79 : zeroTN Tryd.prog 79 = (some [.nilf]) := by kernel_rfl
@[go_sem] theorem ty80 : tyI Tryd.prog 80 = (some (false, 1)) := by kernel_rfl
@[go_sem] theorem ik80 : intK Tryd.prog 80 = none := by kernel_rfl
@[go_sem] theorem zr80 : zeroT Tryd.prog 80 = (some [.nilf]) := by kernel_rfl
@[go_sem] theorem zn80 : zeroTN Tryd.prog 80 = (some [.nilf]) := by kernel_rfl
@[go_sem] theorem ty81 : tyI Tryd.prog 81 = (some (false, 1)) := by kernel_rfl
@[go_sem] theorem ik81 : intK Tryd.prog 81 = none := by kernel_rfl
@[go_sem] theorem zr81 : zeroT Tryd.prog 81 = (some [.nilf]) := by kernel_rfl
@[go_sem] theorem zn81 : zeroTN Tryd.prog 81 = (some [.nilf]) := by kernel_rfl
@[go_sem] theorem ty82 : tyI Tryd.prog 82 = (some (false, 1)) := by kernel_rfl
@[go_sem] theorem ik82 : intK Tryd.prog 82 = none := by kernel_rfl
@[go_sem] theorem zr82 : zeroT Tryd.prog 82 = (some [.nilf]) := by kernel_rfl
@[go_sem] theorem zn82 : zeroTN Tryd.prog 82 = (some [.nilf]) := by kernel_rfl
@[go_sem] theorem ty83 : tyI Tryd.prog 83 = (some (false, 1)) := by kernel_rfl
@[go_sem] theorem ik83 : intK Tryd.prog 83 = none := by kernel_rfl
@[go_sem] theorem zr83 : zeroT Tryd.prog 83 = (some [.nilf]) := by kernel_rfl
@[go_sem] theorem zn83 : zeroTN Tryd.prog 83 = (some [.nilf]) := by kernel_rfl
@[go_sem] theorem ty84 : tyI Tryd.prog 84 = (some (false, 1)) := by kernel_rfl
@[go_sem] theorem ik84 : intK Tryd.prog 84 = none := by kernel_rfl
@[go_sem] theorem zr84 : zeroT Tryd.prog 84 = (some [.nilf]) := by kernel_rfl
@[go_sem] theorem zn84 : zeroTN Tryd.prog 84 = (some [.nilf]) := by kernel_rfl
@[go_sem] theorem ty85 : tyI Tryd.prog 85 = (some (false, 1)) := by kernel_rfl
@[go_sem] theorem el85 : elT Tryd.prog 85 = (some (89, (3, 56))) := by kernel_rfl
@[go_sem] theorem ik85 : intK Tryd.prog 85 = none := by kernel_rfl
@[go_sem] theorem zr85 : zeroT Tryd.prog 85 = (some [(.sl 0 [])]) := by kernel_rfl
@[go_sem] theorem zn85 : zeroTN Tryd.prog 85 = (some [.nils]) := by kernel_rfl
@[go_sem] theorem ty86 : tyI Tryd.prog 86 = (some (false, 1)) := by kernel_rfl
@[go_sem] theorem ik86 : intK Tryd.prog 86 = none := by kernel_rfl
@[go_sem] theorem zr86 : zeroT Tryd.prog 86 = (some [.nilf]) := by kernel_rfl
@[go_sem] theorem zn86 : zeroTN Tryd.prog 86 = (some [.nilf]) := by kernel_rfl
@[go_sem] theorem ty87 : tyI Tryd.prog 87 = (some (false, 1)) := by kernel_rfl
@[go_sem] theorem el87 : elT Tryd.prog 87 = (some (3, (1, 8))) := by kernel_rfl
@[go_sem] theorem ik87 : intK Tryd.prog 87 = none := by kernel_rfl
@[go_sem] theorem zr87 : zeroT Tryd.prog 87 = (some [(.sl 0 [])]) := by kernel_rfl
@[go_sem] theorem zn87 : zeroTN Tryd.prog 87 = (some [.nils]) := by kernel_rfl
@[go_sem] theorem ty88 : tyI Tryd.prog 88 = (some (true, 3)) := by kernel_rfl
@[go_sem] theorem ik88 : intK Tryd.prog 88 = none := by kernel_rfl
@[go_sem] theorem zr88 : zeroT Tryd.prog 88 = (some [(.int .i64 0), (.sl 0 []), (.sl 0 [])]) := by kernel_rfl
@[go_sem] theorem zn88 : zeroTN Tryd.prog 88 = (some [(.int .i64 0), .nils, .nils]) := by kernel_rfl
@[go_sem] theorem pl88 : placesT Tryd.prog 88 = (some [(0, 1), (1, 1), (2, 1)]) := by kernel_rfl
@[go_sem] theorem fl88_0 : fldT Tryd.prog 88 0 = (some (0, (false, 1))) := by kernel_rfl
@[go_sem] theorem fl88_1 : fldT Tryd.prog 88 1 = (some (1, (false, 1))) := by kernel_rfl
@[go_sem] theorem fl88_2 : fldT Tryd.prog 88 2 = (some (2, (false, 1))) := by kernel_rfl
@[go_sem] theorem ty89 : tyI Tryd.prog 89 = (some (true, 3)) := by kernel_rfl
@[go_sem] theorem ik89 : intK Tryd.prog 89 = none := by kernel_rfl
@[go_sem] theorem zr89 : zeroT Tryd.prog 89 = (some [(.int .i64 0), (.sl 0 []), (.sl 0 [])]) := by kernel_rfl
@[go_sem] theorem zn89 : zeroTN Tryd.prog 89 = (some [(.int .i64 0), .nils, .nils]) := by kernel_rfl
@[go_sem] theorem pl89 : placesT Tryd.prog 89 = (some [(0, 1), (1, 1), (2, 1)]) := by kernel_rfl
@[go_sem] theorem fl89_0 : fldT Tryd.prog 89 0 = (some (0, (false, 1))) := by kernel_rfl
@[go_sem] theorem fl89_1 : fldT Tryd.prog 89 1 = (some (1, (false, 1))) := by kernel_rfl
@[go_sem] theorem fl89_2 : fldT Tryd.prog 89 2 = (some (2, (false, 1))) := by kernel_rfl
@[go_sem] theorem ty90 : tyI Tryd.prog 90 = (some (false, 1)) := by kernel_rfl
@[go_sem] theorem ik90 : intK Tryd.prog 90 = none := by kernel_rfl
@[go_sem] theorem zr90 : zeroT Tryd.prog 90 = (some [.nilf]) := by kernel_rfl
@[go_sem] theorem zn90 : zeroTN Tryd.prog 90 = (some [.nilf]) := by kernel_rfl
@[go_sem] theorem ty91 : tyI Tryd.prog 91 = (some (false, 1)) := by kernel_rfl
@[go_sem] theorem ik91 : intK Tryd.prog 91 = none := by kernel_rfl
@[go_sem] theorem zr91 : zeroT Tryd.prog 91 = (some [.nilf]) := by kernel_rfl
@[go_sem] theorem zn91 : zeroTN Tryd.prog 91 = (some [.nilf]) := by kernel_rfl
@[go_sem] theorem ty92 : tyI Tryd.prog 92 = (some (false, 1)) := by kernel_rfl
@[go_sem] theorem ik92 : intK Tryd.prog 92 = none := by kernel_rfl
@[go_sem] theorem zr92 : zeroT Tryd.prog 92 = (some [.nilf]) := by kernel_rfl
@[go_sem] theorem zn92 : zeroTN Tryd.prog 92 = (some [.nilf]) := by kernel_rfl
@[go_sem] theorem ty93 : tyI Tryd.prog 93 = (some (false, 1)) := by kernel_rfl
@[go_sem] theorem ik93 : intK Tryd.prog 93 = none := by kernel_rfl
@[go_sem] theorem zr93 : zeroT Tryd.prog 93 = (some [.nilf]) := by kernel_rfl
@[go_sem] theorem zn93 : zeroTN Tryd.prog 93 = (some [.nilf]) := by kernel_rfl
@[go_sem] theorem ty94 : tyI Tryd.prog 94 = (some (false, 1)) := by kernel_rfl
@[go_sem] theorem el94 : elT Tryd.prog 94 = (some (96, (2, 32))) := by kernel_rfl
@[go_sem] theorem ik94 : intK Tryd.prog 94 = none := by kernel_rfl
@[go_sem] theorem zr94 : zeroT Tryd.prog 94 = (some [(.sl 0 [])]) := by kernel_rfl
@[go_sem] theorem zn94 : zeroTN Tryd.prog 94 = (some [.nils]) := by kernel_rfl
@[go_sem] theorem ty95 : tyI Tryd.prog 95 = (some (true, 2)) := by kernel_rfl
@[go_sem] theorem ik95 : intK Tryd.prog 95 = none := by kernel_rfl
@[go_sem] theorem zr95 : zeroT Tryd.prog 95 = (some [(.int .i64 0), (.sl 0 [])]) := by kernel_rfl
@[go_sem] theorem zn95 : zeroTN Tryd.prog 95 = (some [(.int .i64 0), .nils]) := by kernel_rfl
@[go_sem] theorem pl95 : placesT Tryd.prog 95 = (some [(0, 1), (1, 1)]) := by kernel_rfl
@[go_sem] theorem fl95_0 : fldT Tryd.prog 95 0 = (some (0, (false, 1))) := by kernel_rfl
@[go_sem] theorem fl95_1 : fldT Tryd.prog 95 1 = (some (1, (false, 1))) := by kernel_rfl
@[go_sem] theorem ty96 : tyI Tryd.prog 96 = (some (true, 2)) := by kernel_rfl
@[go_sem] theorem ik96 : intK Tryd.prog 96 = none := by kernel_rfl
@[go_sem] theorem zr96 : zeroT Tryd.prog 96 = (some [(.int .i64 0), (.sl 0 [])]) := by kernel_rfl
@[go_sem] theorem zn96 : zeroTN Tryd.prog 96 = (some [(.int .i64 0), .nils]) := by kernel_rfl
@[go_sem] theorem pl96 : placesT Tryd.prog 96 = (some [(0, 1), (1, 1)]) := by kernel_rfl
@[go_sem] theorem fl96_0 : fldT Tryd.prog 96 0 = (some (0, (false, 1))) := by kernel_rfl
@[go_sem] theorem fl96_1 : fldT Tryd.prog 96 1 = (some (1, (false, 1))) := by kernel_rfl
@[go_sem] theorem ty97 : tyI Tryd.prog 97 = (some (true, 3)) := by kernel_rfl
@[go_sem] theorem ik97 : intK Tryd.prog 97 = none := by kernel_rfl
@[go_sem] theorem zr97 : zeroT Tryd.prog 97 = (some [(.str ⟨#[]⟩), (.int .i64 0), (.sl 0 [])]) := by kernel_rfl
@[go_sem] theorem zn97 : zeroTN Tryd.prog 97 = (some [(.str ⟨#[]⟩), (.int .i64 0), .nils]) := by kernel_rfl
@[go_sem] theorem pl97 : placesT Tryd.prog 97 = (some [(0, 1), (1, 2)]) := by kernel_rfl
@[go_sem] theorem fl97_0 : fldT Tryd.prog 97 0 = (some (0, (false, 1))) := by kernel_rfl
@[go_sem] theorem fl97_1 : fldT Tryd.prog 97 1 = (some (1, (true, 2))) := by kernel_rfl
@[go_sem] theorem ty98 : tyI Tryd.prog 98 = (some (true, 3)) := by kernel_rfl
@[go_sem] theorem ik98 : intK Tryd.prog 98 = none := by kernel_rfl
@[go_sem] theorem zr98 : zeroT Tryd.prog 98 = (some [(.str ⟨#[]⟩), (.int .i64 0), (.sl 0 [])]) := by kernel_rfl
@[go_sem] theorem zn98 : zeroTN Tryd.prog 98 = (some [(.str ⟨#[]⟩), (.int .i64 0), .nils]) := by kernel_rfl
@[go_sem] theorem pl98 : placesT Tryd.prog 98 = (some [(0, 1), (1, 2)]) := by kernel_rfl
@[go_sem] theorem fl98_0 : fldT Tryd.prog 98 0 = (some (0, (false, 1))) := by kernel_rfl
@[go_sem] theorem fl98_1 : fldT Tryd.prog 98 1 = (some (1, (true, 2))) := by kernel_rfl
@[go_sem] theorem ty99 : tyI Tryd.prog 99 = (some (true, 6)) := by kernel_rfl
@[go_sem] theorem ik99 : intK Tryd.prog 99 = none := by kernel_rfl
@[go_sem] theorem zr99 : zeroT Tryd.prog 99 = (some [(.str ⟨#[]⟩), (.int .i64 0), (.int .i64 0), (.str ⟨#[]⟩), (.str ⟨#[]⟩), (.sl 0 [])]) := by kernel_rfl
@[go_sem] theorem zn99 : zeroTN Tryd.prog 99 = (some [(.str ⟨#[]⟩), (.int .i64 0), (.int .i64 0), (.str ⟨#[]⟩), (.str ⟨#[]⟩), .nils]) := by kernel_rfl
@[go_sem] theorem pl99 : placesT Tryd.prog 99 = (some [(0, 1), (1, 5)]) := by kernel_rfl
@[go_sem] theorem fl99_0 : fldT Tryd.prog 99 0 = (some (0, (false, 1))) := by kernel_rfl
@[go_sem] theorem fl99_1 : fldT Tryd.prog 99 1 = (some (1, (true, 5))) := by kernel_rfl
@[go_sem] theorem ty100 : tyI Tryd.prog 100 = (some (true, 6)) := by kernel_rfl
@[go_sem] theorem ik100 : intK Tryd.prog 100 = none := by kernel_rfl
@[go_sem] theorem zr100 : zeroT Tryd.prog 100 = (some [(.str ⟨#[]⟩), (.int .i64 0), (.int .i64 0), (.str ⟨#[]⟩), (.str ⟨#[]⟩), (.sl 0 [])]) := by kernel_rfl
@[go_sem] theorem zn100 : zeroTN Tryd.prog 100 = (some [(.str ⟨#[]⟩), (.int .i64 0), (.int .i64 0), (.str ⟨#[]⟩), (.str ⟨#[]⟩), .nils]) := by kernel_rfl
@[go_sem] theorem pl100 : placesT Tryd.prog 100 = (some [(0, 1), (1, 5)]) := by kernel_rfl
@[go_sem] theorem fl100_0 : fldT Tryd.prog 100 0 = (some (0, (false, 1))) := by kernel_rfl
@[go_sem] theorem fl100_1 : fldT Tryd.prog 100 1 = (some (1, (true, 5))) := by kernel_rfl
@[go_sem] theorem ty101 : tyI Tryd.prog 101 = (some (false, 1)) := by kernel_rfl
@[go_sem] theorem ik101 : intK Tryd.prog 101 = none := by kernel_rfl
@[go_sem] theorem zr101 : zeroT Tryd.prog 101 = (some [.nilf]) := by kernel_rfl
@[go_sem] theorem zn101 : zeroTN Tryd.prog 101 = (some [.nilf]) := by kernel_rfl
@[go_sem] theorem ty102 : tyI Tryd.prog 102 = (some (false, 1)) := by kernel_rfl
@[go_sem] theorem ik102 : intK Tryd.prog 102 = none := by kernel_rfl
@[go_sem] theorem zr102 : zeroT Tryd.prog 102 = (some [.nilf]) := by kernel_rfl
@[go_sem] theorem zn102 : zeroTN Tryd.prog 102 = (some [.nilf]) := by kernel_rfl
@[go_sem] theorem ty103 : tyI Tryd.prog 103 = (some (false, 1)) := by kernel_rfl
@[go_sem] theorem ik103 : intK Tryd.prog 103 = none := by kernel_rfl
@[go_sem] theorem zr103 : zeroT Tryd.prog 103 = (some [.nilf]) := by kernel_rfl
@[go_sem] theorem zn103 : zeroTN Tryd.prog 103 = (some [.nilf]) := by kernel_rfl
@[go_sem] theorem ty104 : tyI Tryd.prog 104 = (some (false, 1)) := by kernel_rfl
@[go_sem] theorem ik104 : intK Tryd.prog 104 = none := by kernel_rfl
@[go_sem] theorem zr104 : zeroT Tryd.prog 104 = (some [.nilf]) := by kernel_rfl
@[go_sem] theorem zn104 : zeroTN Tryd.prog 104 = (some [.nilf]) := by kernel_rfl
@[go_sem] theorem ty105 : tyI Tryd.prog 105 = (some (false, 1)) := by kernel_rfl
@[go_sem] theorem ik105 : intK Tryd.prog 105 = none := by kernel_rfl
@[go_sem] theorem zr105 : zeroT Tryd.prog 105 = (some [.nilf]) := by kernel_rfl
@[go_sem] theorem zn105 : zeroTN Tryd.prog 105 = (some [.nilf]) := by kernel_rfl
@[go_sem] theorem ty106 : tyI Tryd.prog 106 = (some (false, 1)) := by kernel_rfl
@[go_sem] theorem ik106 : intK Tryd.prog 106 = none := by kernel_rfl
@[go_sem] theorem zr106 : zeroT Tryd.prog 106 = (some [.nilf]) := by kernel_rfl
@[go_sem] theorem zn106 : zeroTN Tryd.prog 106 = (some [.nilf]) := by kernel_rfl
@[go_sem] theorem ty107 : tyI Tryd.prog 107 = (some (false, 1)) := by kernel_rfl
@[go_sem] theorem ik107 : intK Tryd.prog 107 = none := by kernel_rfl
@[go_sem] theorem zr107 : zeroT Tryd.prog 107 = (some [.nilf]) := by kernel_rfl
@[go_sem] theorem zn107 : zeroTN Tryd.prog 107 = (some [.nilf]) := by kernel_rfl
@[go_sem] theorem ty108 : tyI Tryd.prog 108 = (some (true, 2)) := by kernel_rfl
@[go_sem] theorem ik108 : intK Tryd.prog 108 = none := by kernel_rfl
@[go_sem] theorem zr108 : zeroT Tryd.prog 108 = (some [(.str ⟨#[]⟩), (.str ⟨#[]⟩)]) := by kernel_rfl
@[go_sem] theorem zn108 : zeroTN Tryd.prog 108 = (some [(.str ⟨#[]⟩), (.str ⟨#[]⟩)]) := by kernel_rfl
@[go_sem] theorem pl108 : placesT Tryd.prog 108 = (some [(0, 1), (1, 1)]) := by kernel_rfl
@[go_sem] theorem fq108 : flatQ Tryd.prog 108 = (some [1, 1]) := by kernel_rfl
@[go_sem] theorem fl108_0 : fldT Tryd.prog 108 0 = (some (0, (false, 1))) := by kernel_rfl
@[go_sem] theorem fl108_1 : fldT Tryd.prog 108 1 = (some (1, (false, 1))) := by kernel_rfl
@[go_sem] theorem ty109 : tyI Tryd.prog 109 = (some (true, 2)) := by kernel_rfl
@[go_sem] theorem ik109 : intK Tryd.prog 109 = none := by kernel_rfl
@[go_sem] theorem zr109 : zeroT Tryd.prog 109 = (some [(.str ⟨#[]⟩), (.str ⟨#[]⟩)]) := by kernel_rfl
@[go_sem] theorem zn109 : zeroTN Tryd.prog 109 = (some [(.str ⟨#[]⟩), (.str ⟨#[]⟩)]) := by kernel_rfl
@[go_sem] theorem pl109 : placesT Tryd.prog 109 = (some [(0, 1), (1, 1)]) := by kernel_rfl
@[go_sem] theorem fq109 : flatQ Tryd.prog 109 = (some [1, 1]) := by kernel_rfl
@[go_sem] theorem fl109_0 : fldT Tryd.prog 109 0 = (some (0, (false, 1))) := by kernel_rfl
@[go_sem] theorem fl109_1 : fldT Tryd.prog 109 1 = (some (1, (false, 1))) := by kernel_rfl
@[go_sem] theorem ty110 : tyI Tryd.prog 110 = (some (false, 1)) := by kernel_rfl
@[go_sem] theorem ik110 : intK Tryd.prog 110 = none := by kernel_rfl
@[go_sem] theorem zr110 : zeroT Tryd.prog 110 = (some [.nilf]) := by kernel_rfl
@[go_sem] theorem zn110 : zeroTN Tryd.prog 110 = (some [.nilf]) := by kernel_rfl
@[go_sem] theorem ty111 : tyI Tryd.prog 111 = (some (true, 2)) := by kernel_rfl
@[go_sem] theorem ik111 : intK Tryd.prog 111 = none := by kernel_rfl
@[go_sem] theorem zr111 : zeroT Tryd.prog 111 = (some [(.str ⟨#[]⟩), (.str ⟨#[]⟩)]) := by kernel_rfl
@[go_sem] theorem zn111 : zeroTN Tryd.prog 111 = (some [(.str ⟨#[]⟩), (.str ⟨#[]⟩)]) := by kernel_rfl
@[go_sem] theorem pl111 : placesT Tryd.prog 111 = (some [(0, 1), (1, 1)]) := by kernel_rfl
@[go_sem] theorem fq111 : flatQ Tryd.prog 111 = (some [1, 1]) := by kernel_rfl
@[go_sem] theorem fl111_0 : fldT Tryd.prog 111 0 = (some (0, (false, 1))) := by kernel_rfl
@[go_sem] theorem fl111_1 : fldT Tryd.prog 111 1 = (some (1, (false, 1))) := by kernel_rfl
@[go_sem] theorem ty112 : tyI Tryd.prog 112 = (some (true, 2)) := by kernel_rfl
@[go_sem] theorem ik112 : intK Tryd.prog 112 = none := by kernel_rfl
@[go_sem] theorem zr112 : zeroT Tryd.prog 112 = (some [(.str ⟨#[]⟩), (.str ⟨#[]⟩)]) := by kernel_rfl
@[go_sem] theorem zn112 : zeroTN Tryd.prog 112 = (some [(.str ⟨#[]⟩), (.str ⟨#[]⟩)]) := by kernel_rfl
@[go_sem] theorem pl112 : placesT Tryd.prog 112 = (some [(0, 1), (1, 1)]) := by kernel_rfl
@[go_sem] theorem fq112 : flatQ Tryd.prog 112 = (some [1, 1]) := by kernel_rfl
@[go_sem] theorem fl112_0 : fldT Tryd.prog 112 0 = (some (0, (false, 1))) := by kernel_rfl
@[go_sem] theorem fl112_1 : fldT Tryd.prog 112 1 = (some (1, (false, 1))) := by kernel_rfl
@[go_sem] theorem ty113 : tyI Tryd.prog 113 = (some (true, 4)) := by kernel_rfl
@[go_sem] theorem ik113 : intK Tryd.prog 113 = none := by kernel_rfl
@[go_sem] theorem zr113 : zeroT Tryd.prog 113 = (some [(.str ⟨#[]⟩), (.str ⟨#[]⟩), (.str ⟨#[]⟩), (.str ⟨#[]⟩)]) := by kernel_rfl
@[go_sem] theorem zn113 : zeroTN Tryd.prog 113 = (some [(.str ⟨#[]⟩), (.str ⟨#[]⟩), (.str ⟨#[]⟩), (.str ⟨#[]⟩)]) := by kernel_rfl
@[go_sem] theorem pl113 : placesT Tryd.prog 113 = (some [(0, 2), (2, 2)]) := by kernel_rfl
@[go_sem] theorem fq113 : flatQ Tryd.prog 113 = (some [1, 1, 1, 1]) := by kernel_rfl
@[go_sem] theorem fl113_0 : fldT Tryd.prog 113 0 = (some (0, (true, 2))) := by kernel_rfl
@[go_sem] theorem fl113_1 : fldT Tryd.prog 113 1 = (some (2, (true, 2))) := by kernel_rfl
@[go_sem] theorem ty114 : tyI Tryd.prog 114 = (some (true, 4)) := by kernel_rfl
@[go_sem] theorem ik114 : intK Tryd.prog 114 = none := by kernel_rfl
@[go_sem] theorem zr114 : zeroT Tryd.prog 114 = (some [(.str ⟨#[]⟩), (.str ⟨#[]⟩), (.str ⟨#[]⟩), (.str ⟨#[]⟩)]) := by kernel_rfl
@[go_sem] theorem zn114 : zeroTN Tryd.prog 114 = (some [(.str ⟨#[]⟩), (.str ⟨#[]⟩), (.str ⟨#[]⟩), (.str ⟨#[]⟩)]) := by kernel_rfl
@[go_sem] theorem pl114 : placesT Tryd.prog 114 = (some [(0, 2), (2, 2)]) := by kernel_rfl
@[go_sem] theorem fq114 : flatQ Tryd.prog 114 = (some [1, 1, 1, 1]) := by kernel_rfl
@[go_sem] theorem fl114_0 : fldT Tryd.prog 114 0 = (some (0, (true, 2))) := by kernel_rfl
@[go_sem] theorem fl114_1 : fldT Tryd.prog 114 1 = (some (2, (true, 2))) := by kernel_rfl
@[go_sem] theorem ty115 : tyI Tryd.prog 115 = (some (false, 1)) := by kernel_rfl
@[go_sem] theorem ik115 : intK Tryd.prog 115 = none := by kernel_rfl
@[go_sem] theorem zr115 : zeroT Tryd.prog 115 = (some [.nilf]) := by kernel_rfl
@[go_sem] theorem zn115 : zeroTN Tryd.prog 115 = (some [.nilf]) := by kernel_rfl
@[go_sem] theorem ty116 : tyI Tryd.prog 116 = (some (false, 1)) := by kernel_rfl
@[go_sem] theorem ik116 : intK Tryd.prog 116 = none := by kernel_rfl
@[go_sem] theorem zr116 : zeroT Tryd.prog 116 = (some [.nilf]) := by kernel_rfl
@[go_sem] theorem zn116 : zeroTN Tryd.prog 116 = (some [.nilf]) := by kernel_rfl
@[go_sem] theorem ty117 : tyI Tryd.prog 117 = (some (false, 1)) := by kernel_rfl
@[go_sem] theorem ik117 : intK Tryd.prog 117 = none := by kernel_rfl
@[go_sem] theorem zr117 : zeroT Tryd.prog 117 = (some [.nilf]) := by kernel_rfl
@[go_sem] theorem zn117 : zeroTN Tryd.prog 117 = (some [.nilf]) := by kernel_rfl
@[go_sem] theorem ty118 : tyI Tryd.prog 118 = (some (false, 1)) := by kernel_rfl
@[go_sem] theorem ik118 : intK Tryd.prog 118 = none := by kernel_rfl
@[go_sem] theorem zr118 : zeroT Tryd.prog 118 = (some [.nilf]) := by kernel_rfl
@[go_sem] theorem zn118 : zeroTN Tryd.prog 118 = (some [.nilf]) := by kernel_rfl
@[go_sem] theorem ty119 : tyI Tryd.prog 119 = (some (false, 1)) := by kernel_rfl
@[go_sem] theorem ik119 : intK Tryd.prog 119 = none := by kernel_rfl
@[go_sem] theorem zr119 : zeroT Tryd.prog 119 = (some [.nilf]) := by kernel_rfl
@[go_sem] theorem zn119 : zeroTN Tryd.prog 119 = (some [.nilf]) := by kernel_rfl
@[go_sem] theorem ty120 : tyI Tryd.prog 120 = (some (true, 7)) := by kernel_rfl
@[go_sem] theorem ik120 : intK Tryd.prog 120 = none := by kernel_rfl
@[go_sem] theorem zr120 : zeroT Tryd.prog 120 = (some [(.int .i64 0), (.str ⟨#[]⟩), (.str ⟨#[]⟩), (.str ⟨#[]⟩), (.str ⟨#[]⟩), (.str ⟨#[]⟩), (.str ⟨#[]⟩)]) := by kernel_rfl
@[go_sem] theorem zn120 : zeroTN Tryd.prog 120 = (some [(.int .i64 0), (.str ⟨#[]⟩), (.str ⟨#[]⟩), (.str ⟨#[]⟩), (.str ⟨#[]⟩), (.str ⟨#[]⟩), (.str ⟨#[]⟩)]) := by kernel_rfl
@[go_sem] theorem pl120 : placesT Tryd.prog 120 = (some [(0, 1), (1, 1), (2, 1), (3, 4)]) := by kernel_rfl
@[go_sem] theorem fq120 : flatQ Tryd.prog 120 = (some [0, 1, 1, 1, 1, 1, 1]) := by kernel_rfl
@[go_sem] theorem fl120_0 : fldT Tryd.prog 120 0 = (some (0, (false, 1))) := by kernel_rfl
@[go_sem] theorem fl120_1 : fldT Tryd.prog 120 1 = (some (1, (false, 1))) := by kernel_rfl
@[go_sem] theorem fl120_2 : fldT Tryd.prog 120 2 = (some (2, (false, 1))) := by kernel_rfl
@[go_sem] theorem fl120_3 : fldT Tryd.prog 120 3 = (some (3, (true, 4))) := by kernel_rfl
@[go_sem] theorem ty121 : tyI Tryd.prog 121 = (some (true, 7)) := by kernel_rfl
@[go_sem] theorem ik121 : intK Tryd.prog 121 = none := by kernel_rfl
@[go_sem] theorem zr121 : zeroT Tryd.prog 121 = (some [(.int .i64 0), (.str ⟨#[]⟩), (.str ⟨#[]⟩), (.str ⟨#[]⟩), (.str ⟨#[]⟩), (.str ⟨#[]⟩), (.str ⟨#[]⟩)]) := by kernel_rfl
@[go_sem] theorem zn121 : zeroTN Tryd.prog 121 = (some [(.int .i64 0), (.str ⟨#[]⟩), (.str ⟨#[]⟩), (.str ⟨#[]⟩), (.str ⟨#[]⟩), (.str ⟨#[]⟩), (.str ⟨#[]⟩)]) := by kernel_rfl
@[go_sem] theorem pl121 : placesT Tryd.prog 121 = (some [(0, 1), (1, 1), (2, 1), (3, 4)]) := by kernel_rfl
@[go_sem] theorem fq121 : flatQ Tryd.prog 121 = (some [0, 1, 1, 1, 1, 1, 1]) := by kernel_rfl
@[go_sem] theorem fl121_0 : fldT Tryd.prog 121 0 = (some (0, (false, 1))) := by kernel_rfl
@[go_sem] theorem fl121_1 : fldT Tryd.prog 121 1 = (some (1, (false, 1))) := by kernel_rfl
@[go_sem] theorem fl121_2 : fldT Tryd.prog 121 2 = (some (2, (false, 1))) := by kernel_rfl
@[go_sem] theorem fl121_3 : fldT Tryd.prog 121 3 = (some (3, (true, 4))) := by kernel_rfl
@[go_sem] theorem ty122 : tyI Tryd.prog 122 = (some (false, 1)) := by kernel_rfl
@[go_sem] theorem ik122 : intK Tryd.prog 122 = none := by kernel_rfl
@[go_sem] theorem zr122 : zeroT Tryd.prog 122 = (some [.nilf]) := by kernel_rfl
@[go_sem] theorem zn122 : zeroTN Tryd.prog 122 = (some [.nilf]) := by kernel_rfl
@[go_sem] theorem ty123 : tyI Tryd.prog 123 = (some (false, 1)) := by kernel_rfl
@[go_sem] theorem ik123 : intK Tryd.prog 123 = none := by kernel_rfl
@[go_sem] theorem zr123 : zeroT Tryd.prog 123 = (some [.nilf]) := by kernel_rfl
@[go_sem] theorem zn123 : zeroTN Tryd.prog 123 = (some [.nilf]) := by kernel_rfl
@[go_sem] theorem ty124 : tyI Tryd.prog 124 = (some (false, 1)) := by kernel_rfl
@[go_sem] theorem ik124 : intK Tryd.prog 124 = none := by kernel_rfl
@[go_sem] theorem zr124 : zeroT Tryd.prog 124 = (some [.nilf]) := by kernel_rfl
@[go_sem] theorem zn124 : zeroTN Tryd.prog 124 = (some [.nilf]) := by kernel_rfl
@[go_sem] theorem ty125 : tyI Tryd.prog 125 = (some (false, 1)) := by kernel_rfl
@[go_sem] theorem ik125 : intK Tryd.prog 125 = none := by kernel_rfl
@[go_sem] theorem zr125 : zeroT Tryd.prog 125 = (some [.nilf]) := by kernel_rfl
@[go_sem] theorem zn125 : zeroTN Tryd.prog 125 = (some [.nilf]) := by kernel_rfl
@[go_sem] theorem ty126 : tyI Tryd.prog 126 = (some (false, 1)) := by kernel_rfl
@[go_sem] theorem ik126 : intK Tryd.prog 126 = none := by kernel_rfl
@[go_sem] theorem zr126 : zeroT Tryd.prog 126 = (some [.nilf]) := by kernel_rfl
@[go_sem] theorem zn126 : zeroTN Tryd.prog 126 = (some [.nilf]) := by kernel_rfl
@[go_sem] theorem ty127 : tyI Tryd.prog 127 = (some (false, 1)) := by kernel_rfl
@[go_sem] theorem ik127 : intK Tryd.prog 127 = none := by kernel_rfl
@[go_sem] theorem zr127 : zeroT Tryd.prog 127 = (some [.nilf]) := by kernel_rfl
@[go_sem] theorem zn127 : zeroTN Tryd.prog 127 = (some [.nilf]) := by kernel_rfl
@[go_sem] theorem ty128 : tyI Tryd.prog 128 = (some (false, 1)) := by kernel_rfl
@[go_sem] theorem ik128 : intK Tryd.prog 128 = none := by kernel_rfl
@[go_sem] theorem zr128 : zeroT Tryd.prog 128 = (some [.nilf]) := by kernel_rfl
@[go_sem] theorem zn128 : zeroTN Tryd.prog 128 = (some [.nilf]) := by kernel_rfl
@[go_sem] theorem ty129 : tyI Tryd.prog 129 = (some (false, 1)) := by kernel_rfl
@[go_sem] theorem ik129 : intK Tryd.prog 129 = none := by kernel_rfl
@[go_sem] theorem zr129 : zeroT Tryd.prog 129 = (some [.nilf]) := by kernel_rfl
@[go_sem] theorem zn129 : zeroTN Tryd.prog 129 = (some [.nilf]) := by kernel_rfl
@[go_sem] theorem ty130 : tyI Tryd.prog 130 = (some (false, 1)) := by kernel_rfl
@[go_sem] theorem el130 : elT Tryd.prog 130 = (some (65, (1, 24))) := by kernel_rfl
@[go_sem] theorem ik130 : intK Tryd.prog 130 = none := by kernel_rfl
@[go_sem] theorem zr130 : zeroT Tryd.prog 130 = (some [(.sl 0 [])]) := by kernel_rfl
@[go_sem] theorem zn130 : zeroTN Tryd.prog 130 = (some [.nils]) := by kernel_rfl
@[go_sem] theorem ty131 : tyI Tryd.prog 131 = (some (false, 1)) := by kernel_rfl
@[go_sem] theorem ik131 : intK Tryd.prog 131 = none := by kernel_rfl
@[go_sem] theorem zr131 : zeroT Tryd.prog 131 = (some [.nilf]) := by kernel_rfl
@[go_sem] theorem zn131 : zeroTN Tryd.prog 131 = (some [.nilf]) := by kernel_rfl
@[go_sem] theorem ty132 : tyI Tryd.prog 132 = (some (false, 1)) := by kernel_rfl
@[go_sem] theorem ik132 : intK Tryd.prog 132 = none := by kernel_rfl
@[go_sem] theorem zr132 : zeroT Tryd.prog 132 = (some [.nilf]) := by kernel_rfl
@[go_sem] theorem zn132 : zeroTN Tryd.prog 132 = (some [.nilf]) := by kernel_rfl
@[go_sem] theorem ty133 : tyI Tryd.prog 133 = (some (false, 1)) := by kernel_rfl
@[go_sem] theorem ik133 : intK Tryd.prog 133 = none := by kernel_rfl
@[go_sem] theorem zr133 : zeroT Tryd.prog 133 = (some [.nilf]) := by kernel_rfl
@[go_sem] theorem zn133 : zeroTN Tryd.prog 133 = (some [.nilf]) := by kernel_rfl
@[go_sem] theorem ty134 : tyI Tryd.prog 134 = (some (false, 1)) := by kernel_rfl
@[go_sem] theorem ik134 : intK Tryd.prog 134 = none := by kernel_rfl
@[go_sem] theorem zr134 : zeroT Tryd.prog 134 = (some [.nilf]) := by kernel_rfl
@[go_sem] theorem zn134 : zeroTN Tryd.prog 134 = (some [.nilf]) := by kernel_rfl
@[go_sem] theorem ty135 : tyI Tryd.prog 135 = (some (false, 1)) := by kernel_rfl
@[go_sem] theorem ik135 : intK Tryd.prog 135 = none := by kernel_rfl
@[go_sem] theorem zr135 : zeroT Tryd.prog 135 = (some [.nilf]) := by kernel_rfl
@[go_sem] theorem zn135 : zeroTN Tryd.prog 135 = (some [.nilf]) := by kernel_rfl
@[go_sem] theorem ty136 : tyI Tryd.prog 136 = (some (false, 1)) := by kernel_rfl
@[go_sem] theorem ik136 : intK Tryd.prog 136 = none := by kernel_rfl
@[go_sem] theorem zr136 : zeroT Tryd.prog 136 = (some [.nilf]) := by kernel_rfl
@[go_sem] theorem zn136 : zeroTN Tryd.prog 136 = (some [.nilf]) := by kernel_rfl
@[go_sem] theorem ty137 : tyI Tryd.prog 137 = (some (false, 1)) := by kernel_rfl
@[go_sem] theorem ik137 : intK Tryd.prog 137 = none := by kernel_rfl
@[go_sem] theorem zr137 : zeroT Tryd.prog 137 = (some [.nilf]) := by kernel_rfl
@[go_sem] theorem zn137 : zeroTN Tryd.prog 137 = (some [.nilf]) := by kernel_rfl
@[go_sem] theorem ty138 : tyI Tryd.prog 138 = (some (false, 1)) := by kernel_rfl
@[go_sem] theorem ik138 : intK Tryd.prog 138 = none := by kernel_rfl
@[go_sem] theorem zr138 : zeroT Tryd.prog 138 = (some [.nilf]) := by kernel_rfl
@[go_sem] theorem zn138 : zeroTN Tryd.prog 138 = (some [.nilf]) := by kernel_rfl
@[go_sem] theorem ty139 : tyI Tryd.prog 139 = (some (false, 1)) := by kernel_rfl
@[go_sem] theorem ik139 : intK Tryd.prog 139 = none := by kernel_rfl
@[go_sem] theorem zr139 : zeroT Tryd.prog 139 = (some [.nilf]) := by kernel_rfl
@[go_sem] theorem zn139 : zeroTN Tryd.prog 139 = (some [.nilf]) := by kernel_rfl
@[go_sem] theorem ty140 : tyI Tryd.prog 140 = (some (false, 1)) := by kernel_rfl
@[go_sem] theorem ik140 : intK Tryd.prog 140 = none := by kernel_rfl
@[go_sem] theorem zr140 : zeroT Tryd.prog 140 = (some [.nilf]) := by kernel_rfl
@[go_sem] theorem zn140 : zeroTN Tryd.prog 140 = (some [.nilf]) := by kernel_rfl
@[go_sem] theorem ty141 : tyI Tryd.prog 141 = (some (false, 1)) := by kernel_rfl
@[go_sem] theorem ik141 : intK Tryd.prog 141 = none := by kernel_rfl
@[go_sem] theorem zr141 : zeroT Tryd.prog 141 = (some [.nilf]) := by kernel_rfl
@[go_sem] theorem zn141 : zeroTN Tryd.prog 141 = (some [.nilf]) := by kernel_rfl
@[go_sem] theorem ty142 : tyI Tryd.prog 142 = (some (false, 1)) := by kernel_rfl
@[go_sem] theorem ik142 : intK Tryd.prog 142 = none := by kernel_rfl
@[go_sem] theorem zr142 : zeroT Tryd.prog 142 = (some [.nilf]) := by kernel_rfl
@[go_sem] theorem zn142 : zeroTN Tryd.prog 142 = (some [.nilf]) := by kernel_rfl
@[go_sem] theorem ty143 : tyI Tryd.prog 143 = (some (false, 1)) := by kernel_rfl
@[go_sem] theorem ik143 : intK Tryd.prog 143 = none := by kernel_rfl
@[go_sem] theorem zr143 : zeroT Tryd.prog 143 = (some [.nilf]) := by kernel_rfl
@[go_sem] theorem zn143 : zeroTN Tryd.prog 143 = (some [.nilf]) := by kernel_rfl
@[go_sem] theorem ty144 : tyI Tryd.prog 144 = (some (false, 1)) := by kernel_rfl
@[go_sem] theorem ik144 : intK Tryd.prog 144 = none := by kernel_rfl
@[go_sem] theorem zr144 : zeroT Tryd.prog 144 = (some [.nilf]) := by kernel_rfl
@[go_sem] theorem zn144 : zeroTN Tryd.prog 144 = (some [.nilf]) := by kernel_rfl
@[go_sem] theorem ty145 : tyI Tryd.prog 145 = (some (false, 1)) := by kernel_rfl
@[go_sem] theorem ik145 : intK Tryd.prog 145 = none := by kernel_rfl
@[go_sem] theorem ty146 : tyI Tryd.prog 146 = (some (false, 1)) := by kernel_rfl
@[go_sem] theorem ik146 : intK Tryd.prog 146 = none := by kernel_rfl
@[go_sem] theorem zr146 : zeroT Tryd.prog 146 = (some [.nilf]) := by kernel_rfl
@[go_sem] theorem zn146 : zeroTN Tryd.prog 146 = (some [.nilf]) := by kernel_rfl
@[go_sem] theorem ty147 : tyI Tryd.prog 147 = (some (false, 1)) := by kernel_rfl
@[go_sem] theorem ik147 : intK Tryd.prog 147 = none := by kernel_rfl
@[go_sem] theorem zr147 : zeroT Tryd.prog 147 = (some [.nilf]) := by kernel_rfl
@[go_sem] theorem zn147 : zeroTN Tryd.prog 147 = (some [.nilf]) := by kernel_rfl
@[go_sem] theorem ty148 : tyI Tryd.prog 148 = (some (false, 1)) := by kernel_rfl
@[go_sem] theorem ik148 : intK Tryd.prog 148 = none := by kernel_rfl
@[go_sem] theorem zr148 : zeroT Tryd.prog 148 = (some [.nilf]) := by kernel_rfl
@[go_sem] theorem zn148 : zeroTN Tryd.prog 148 = (some [.nilf]) := by kernel_rfl
@[go_sem] theorem ty149 : tyI Tryd.prog 149 = (some (false, 1)) := by kernel_rfl
@[go_sem] theorem ik149 : intK Tryd.prog 149 = none := by kernel_rfl
@[go_sem] theorem zr149 : zeroT Tryd.prog 149 = (some [.nilf]) := by kernel_rfl
@[go_sem] theorem zn149 : zeroTN Tryd.prog 149 = (some [.nilf]) := by kernel_rfl
@[go_sem] theorem ty150 : tyI Tryd.prog 150 = (some (false, 1)) := by kernel_rfl
@[go_sem] theorem ik150 : intK Tryd.prog 150 = none := by kernel_rfl
@[go_sem] theorem zr150 : zeroT Tryd.prog 150 = (some [.nilf]) := by kernel_rfl
@[go_sem] theorem zn150 : zeroTN Tryd.prog 150 = (some [.nilf]) := by kernel_rfl
@[go_sem] theorem ty151 : tyI Tryd.prog 151 = (some (false, 1)) := by kernel_rfl
@[go_sem] theorem ik151 : intK Tryd.prog 151 = none := by kernel_rfl
@[go_sem] theorem zr151 : zeroT Tryd.prog 151 = (some [.nilf]) := by kernel_rfl
@[go_sem] theorem zn151 : zeroTN Tryd.prog 151 = (some [.nilf]) := by kernel_rfl
@[go_sem] theorem ty152 : tyI Tryd.prog 152 = (some (false, 1)) := by kernel_rfl
@[go_sem] theorem ik152 : intK Tryd.prog 152 = none := by kernel_rfl
@[go_sem] theorem zr152 : zeroT Tryd.prog 152 = (some [.nilf]) := by kernel_rfl
@[go_sem] theorem zn152 : zeroTN Tryd.prog 152 = (some [.nilf]) := by kernel_rfl
@[go_sem] theorem ty153 : tyI Tryd.prog 153 = (some (false, 1)) := by kernel_rfl
@[go_sem] theorem ik153 : intK Tryd.prog 153 = none := by kernel_rfl
@[go_sem] theorem zr153 : zeroT Tryd.prog 153 = (some [.nilf]) := by kernel_rfl
@[go_sem] theorem zn153 : zeroTN Tryd.prog 153 = (some [.nilf]) := by kernel_rfl
@[go_sem] theorem ty154 : tyI Tryd.prog 154 = (some (false, 1)) := by kernel_rfl
@[go_sem] theorem ik154 : intK Tryd.prog 154 = none := by kernel_rfl
@[go_sem] theorem zr154 : zeroT Tryd.prog 154 = (some [.nilf]) := by kernel_rfl
@[go_sem] theorem zn154 : zeroTN Tryd.prog 154 = (some [.nilf]) := by kernel_rfl
@[go_sem] theorem ty155 : tyI Tryd.prog 155 = (some (false, 1)) := by kernel_rfl
@[go_sem] theorem ik155 : intK Tryd.prog 155 = none := by kernel_rfl
@[go_sem] theorem zr155 : zeroT Tryd.prog 155 = (some [.nilf]) := by kernel_rfl
@[go_sem] theorem zn155 : zeroTN Tryd.prog 155 = (some [.nilf]) := by kernel_rfl
@[go_sem] theorem ty156 : tyI Tryd.prog 156 = (some (true, 4)) := by kernel_rfl
@[go_sem] theorem ik156 : intK Tryd.prog 156 = none := by kernel_rfl
@[go_sem] theorem zr156 : zeroT Tryd.prog 156 = (some [.nilp, .nilp, .nilp, (.str ⟨#[]⟩)]) := by kernel_rfl
@[go_sem] theorem zn156 : zeroTN Tryd.prog 156 = (some [.nilp, .nilp, .nilp, (.str ⟨#[]⟩)]) := by kernel_rfl
@[go_sem] theorem pl156 : placesT Tryd.prog 156 = (some [(0, 1), (1, 1), (2, 1), (3, 1)]) := by kernel_rfl
@[go_sem] theorem fl156_0 : fldT Tryd.prog 156 0 = (some (0, (false, 1))) := by kernel_rfl
@[go_sem] theorem fl156_1 : fldT Tryd.prog 156 1 = (some (1, (false, 1))) := by kernel_rfl
@[go_sem] theorem fl156_2 : fldT Tryd.prog 156 2 = (some (2, (false, 1))) := by kernel_rfl
@[go_sem] theorem fl156_3 : fldT Tryd.prog 156 3 = (some (3, (false, 1))) := by kernel_rfl
@[go_sem] theorem ty157 : tyI Tryd.prog 157 = (some (true, 4)) := by kernel_rfl
@[go_sem] theorem ik157 : intK Tryd.prog 157 = none := by kernel_rfl
@[go_sem] theorem zr157 : zeroT Tryd.prog 157 = (some [.nilp, .nilp, .nilp, (.str ⟨#[]⟩)]) := by kernel_rfl
@[go_sem] theorem zn157 : zeroTN Tryd.prog 157 = (some [.nilp, .nilp, .nilp, (.str ⟨#[]⟩)]) := by kernel_rfl
@[go_sem] theorem pl157 : placesT Tryd.prog 157 = (some [(0, 1), (1, 1), (2, 1), (3, 1)]) := by kernel_rfl
@[go_sem] theorem fl157_0 : fldT Tryd.prog 157 0 = (some (0, (false, 1))) := by kernel_rfl
@[go_sem] theorem fl157_1 : fldT Tryd.prog 157 1 = (some (1, (false, 1))) := by kernel_rfl
@[go_sem] theorem fl157_2 : fldT Tryd.prog 157 2 = (some (2, (false, 1))) := by kernel_rfl
@[go_sem] theorem fl157_3 : fldT Tryd.prog 157 3 = (some (3, (false, 1))) := by kernel_rfl
@[go_sem] theorem ty158 : tyI Tryd.prog 158 = (some (true, 0)) := by kernel_rfl
@[go_sem] theorem ik158 : intK Tryd.prog 158 = none := by kernel_rfl
@[go_sem] theorem ar158 : arrT Tryd.prog 158 = (some (0, 1)) := by kernel_rfl
@[go_sem] theorem zr158 : zeroT Tryd.prog 158 = (some []) := by kernel_rfl
@[go_sem] theorem zn158 : zeroTN Tryd.prog 158 = (some []) := by kernel_rfl
@[go_sem] theorem ty159 : tyI Tryd.prog 159 = (some (true, 0)) := by kernel_rfl
@[go_sem] theorem ik159 : intK Tryd.prog 159 = none := by kernel_rfl
@[go_sem] theorem zr159 : zeroT Tryd.prog 159 = (some []) := by kernel_rfl
@[go_sem] theorem zn159 : zeroTN Tryd.prog 159 = (some []) := by kernel_rfl
@[go_sem] theorem pl159 : placesT Tryd.prog 159 = (some [(0, 0)]) := by kernel_rfl
@[go_sem] theorem fl159_0 : fldT Tryd.prog 159 0 = (some (0, (true, 0))) := by kernel_rfl
@[go_sem] theorem ty160 : tyI Tryd.prog 160 = (some (true, 0)) := by kernel_rfl
@[go_sem] theorem ik160 : intK Tryd.prog 160 = none := by kernel_rfl
@[go_sem] theorem zr160 : zeroT Tryd.prog 160 = (some []) := by kernel_rfl
@[go_sem] theorem zn160 : zeroTN Tryd.prog 160 = (some []) := by kernel_rfl
@[go_sem] theorem pl160 : placesT Tryd.prog 160 = (some [(0, 0)]) := by kernel_rfl
@[go_sem] theorem fl160_0 : fldT Tryd.prog 160 0 = (some (0, (true, 0))) := by kernel_rfl
@[go_sem] theorem ty161 : tyI Tryd.prog 161 = (some (false, 1)) := by kernel_rfl
@[go_sem] theorem ik161 : intK Tryd.prog 161 = none := by kernel_rfl
@[go_sem] theorem zr161 : zeroT Tryd.prog 161 = (some [.nilf]) := by kernel_rfl
@[go_sem] theorem zn161 : zeroTN Tryd.prog 161 = (some [.nilf]) := by kernel_rfl
@[go_sem] theorem ty162 : tyI Tryd.prog 162 = (some (false, 1)) := by kernel_rfl
@[go_sem] theorem ik162 : intK Tryd.prog 162 = (some .u32) := by kernel_rfl
@[go_sem] theorem zr162 : zeroT Tryd.prog 162 = (some [(.int .u32 0)]) := by kernel_rfl
@[go_sem] theorem zn162 : zeroTN Tryd.prog 162 = (some [(.int .u32 0)]) := by kernel_rfl
@[go_sem] theorem ty163 : tyI Tryd.prog 163 = (some (false, 1)) := by kernel_rfl
@[go_sem] theorem ik163 : intK Tryd.prog 163 = (some .u8) := by kernel_rfl
@[go_sem] theorem zr163 : zeroT Tryd.prog 163 = (some [(.int .u8 0)]) := by kernel_rfl
@[go_sem] theorem zn163 : zeroTN Tryd.prog 163 = (some [(.int .u8 0)]) := by kernel_rfl
@[go_sem] theorem ty164 : tyI Tryd.prog 164 = (some (false, 1)) := by kernel_rfl
@[go_sem] theorem ik164 : intK Tryd.prog 164 = (some .u8) := by kernel_rfl
@[go_sem] theorem zr164 : zeroT Tryd.prog 164 = (some [(.int .u8 0)]) := by kernel_rfl
@[go_sem] theorem zn164 : zeroTN Tryd.prog 164 = (some [(.int .u8 0)]) := by kernel_rfl
@[go_sem] theorem ty165 : tyI Tryd.prog 165 = (some (false, 1)) := by kernel_rfl
@[go_sem] theorem ik165 : intK Tryd.prog 165 = none := by kernel_rfl
@[go_sem] theorem zr165 : zeroT Tryd.prog 165 = (some [.nilf]) := by kernel_rfl
@[go_sem] theorem zn165 : zeroTN Tryd.prog 165 = (some [.nilf]) := by kernel_rfl
@[go_sem] theorem ty166 : tyI Tryd.prog 166 = (some (false, 1)) := by kernel_rfl
@[go_sem] theorem ik166 : intK Tryd.prog 166 = none := by kernel_rfl
@[go_sem] theorem zr166 : zeroT Tryd.prog 166 = (some [.nilp]) := by kernel_rfl
@[go_sem] theorem zn166 : zeroTN Tryd.prog 166 = (some [.nilp]) := by kernel_rfl
@[go_sem] theorem ty167 : tyI Tryd.prog 167 = (some (false, 1)) := by kernel_rfl
@[go_sem] theorem ik167 : intK Tryd.prog 167 = (some .i32) := by kernel_rfl
@[go_sem] theorem zr167 : zeroT Tryd.prog 167 = (some [(.int .i32 0)]) := by kernel_rfl
@[go_sem] theorem zn167 : zeroTN Tryd.prog 167 = (some [(.int .i32 0)]) := by kernel_rfl
@[go_sem] theorem ty168 : tyI Tryd.prog 168 = (some (false, 1)) := by kernel_rfl
@[go_sem] theorem ik168 : intK Tryd.prog 168 = (some .i32) := by kernel_rfl
@[go_sem] theorem zr168 : zeroT Tryd.prog 168 = (some [(.int .i32 0)]) := by kernel_rfl
@[go_sem] theorem zn168 : zeroTN Tryd.prog 168 = (some [(.int .i32 0)]) := by kernel_rfl
@[go_sem] theorem ty169 : tyI Tryd.prog 169 = (some (true, 11)) := by kernel_rfl
@[go_sem] theorem ik169 : intK Tryd.prog 169 = none := by kernel_rfl
@[go_sem] theorem zr169 : zeroT Tryd.prog 169 = (some [(.int .u64 0), (.int .u64 0), (.int .u32 0), (.int .u8 0), (.int .u8 0), (.int .u8 0), (.int .u8 0), .nilf, .nilp, (.int .i32 0), (.int .i32 0)]) := by kernel_rfl
@[go_sem] theorem zn169 : zeroTN Tryd.prog 169 = (some [(.int .u64 0), (.int .u64 0), (.int .u32 0), (.int .u8 0), (.int .u8 0), (.int .u8 0), (.int .u8 0), .nilf, .nilp, (.int .i32 0), (.int .i32 0)]) := by kernel_rfl
@[go_sem] theorem pl169 : placesT Tryd.prog 169 = (some [(0, 1), (1, 1), (2, 1), (3, 1), (4, 1), (5, 1), (6, 1), (7, 1), (8, 1), (9, 1), (10, 1)]) := by kernel_rfl
@[go_sem] theorem fl169_0 : fldT Tryd.prog 169 0 = (some (0, (false, 1))) := by kernel_rfl
@[go_sem] theorem fl169_1 : fldT Tryd.prog 169 1 = (some (1, (false, 1))) := by kernel_rfl
@[go_sem] theorem fl169_2 : fldT Tryd.prog 169 2 = (some (2, (false, 1))) := by kernel_rfl
@[go_sem] theorem fl169_3 : fldT Tryd.prog 169 3 = (some (3, (false, 1))) := by kernel_rfl
@[go_sem] theorem fl169_4 : fldT Tryd.prog 169 4 = (some (4, (false, 1))) := by kernel_rfl
@[go_sem] theorem fl169_5 : fldT Tryd.prog 169 5 = (some (5, (false, 1))) := by kernel_rfl
@[go_sem] theorem fl169_6 : fldT Tryd.prog 169 6 = (some (6, (false, 1))) := by kernel_rfl
@[go_sem] theorem fl169_7 : fldT Tryd.prog 169 7 = (some (7, (false, 1))) := by kernel_rfl
@[go_sem] theorem fl169_8 : fldT Tryd.prog 169 8 = (some (8, (false, 1))) := by kernel_rfl
@[go_sem] theorem fl169_9 : fldT Tryd.prog 169 9 = (some (9, (false, 1))) := by kernel_rfl
@[go_sem] theorem fl169_10 : fldT Tryd.prog 169 10 = (some (10, (false, 1))) := by kernel_rfl
@[go_sem] theorem ty170 : tyI Tryd.prog 170 = (some (true, 11)) := by kernel_rfl
@[go_sem] theorem ik170 : intK Tryd.prog 170 = none := by kernel_rfl
@[go_sem] theorem zr170 : zeroT Tryd.prog 170 = (some [(.int .u64 0), (.int .u64 0), (.int .u32 0), (.int .u8 0), (.int .u8 0), (.int .u8 0), (.int .u8 0), .nilf, .nilp, (.int .i32 0), (.int .i32 0)]) := by kernel_rfl
@[go_sem] theorem zn170 : zeroTN Tryd.prog 170 = (some [(.int .u64 0), (.int .u64 0), (.int .u32 0), (.int .u8 0), (.int .u8 0), (.int .u8 0), (.int .u8 0), .nilf, .nilp, (.int .i32 0), (.int .i32 0)]) := by kernel_rfl
@[go_sem] theorem pl170 : placesT Tryd.prog 170 = (some [(0, 1), (1, 1), (2, 1), (3, 1), (4, 1), (5, 1), (6, 1), (7, 1), (8, 1), (9, 1), (10, 1)]) := by kernel_rfl
@[go_sem] theorem fl170_0 : fldT Tryd.prog 170 0 = (some (0, (false, 1))) := by kernel_rfl
@[go_sem] theorem fl170_1 : fldT Tryd.prog 170 1 = (some (1, (false, 1))) := by kernel_rfl
@[go_sem] theorem fl170_2 : fldT Tryd.prog 170 2 = (some (2, (false, 1))) := by kernel_rfl
@[go_sem] theorem fl170_3 : fldT Tryd.prog 170 3 = (some (3, (false, 1))) := by kernel_rfl
@[go_sem] theorem fl170_4 : fldT Tryd.prog 170 4 = (some (4, (false, 1))) := by kernel_rfl
@[go_sem] theorem fl170_5 : fldT Tryd.prog 170 5 = (some (5, (false, 1))) := by kernel_rfl
@[go_sem] theorem fl170_6 : fldT Tryd.prog 170 6 = (some (6, (false, 1))) := by kernel_rfl
@[go_sem] theorem fl170_7 : fldT Tryd.prog 170 7 = (some (7, (false, 1))) := by kernel_rfl
@[go_sem] theorem fl170_8 : fldT Tryd.prog 170 8 = (some (8, (false, 1))) := by kernel_rfl
@[go_sem] theorem fl170_9 : fldT Tryd.prog 170 9 = (some (9, (false, 1))) := by kernel_rfl
@[go_sem] theorem fl170_10 : fldT Tryd.prog 170 10 = (some (10, (false, 1))) := by kernel_rfl
@[go_sem] theorem ty171 : tyI Tryd.prog 171 = (some (false, 1)) := by kernel_rfl
@[go_sem] theorem ik171 : intK Tryd.prog 171 = none := by kernel_rfl
@[go_sem] theorem zr171 : zeroT Tryd.prog 171 = (some [.nilp]) := by kernel_rfl
@[go_sem] theorem zn171 : zeroTN Tryd.prog 171 = (some [.nilp]) := by kernel_rfl
end Go.Proofs.YtefiebkngpcaoaaDoor
