/- Closed facts on the types of this seat's program, printed by a small program. No condition. -/
import Derived.Test.YtandclggkgmpgaaPK
import Derived.Test.YtandclggkgmpgaaProg
import Derived.KernelRfl
namespace Go.Proofs.Ytandclggkgmpgaa
@[go_sem] theorem ty0 : tyI Try.prog 0 = (some (false, 1)) := by kernel_rfl
@[go_sem] theorem ik0 : intK Try.prog 0 = none := by kernel_rfl
@[go_sem] theorem ty1 : tyI Try.prog 1 = (some (false, 1)) := by kernel_rfl
@[go_sem] theorem ik1 : intK Try.prog 1 = none := by kernel_rfl
@[go_sem] theorem zr1 : zeroT Try.prog 1 = (some [.nilf]) := by kernel_rfl
@[go_sem] theorem zn1 : zeroTN Try.prog 1 = (some [.nilf]) := by kernel_rfl
@[go_sem] theorem ty2 : tyI Try.prog 2 = (some (false, 1)) := by kernel_rfl
@[go_sem] theorem ik2 : intK Try.prog 2 = (some .i64) := by kernel_rfl
@[go_sem] theorem zr2 : zeroT Try.prog 2 = (some [(.int .i64 0)]) := by kernel_rfl
@[go_sem] theorem zn2 : zeroTN Try.prog 2 = (some [(.int .i64 0)]) := by kernel_rfl
@[go_sem] theorem ty3 : tyI Try.prog 3 = (some (false, 1)) := by kernel_rfl
@[go_sem] theorem ik3 : intK Try.prog 3 = (some .i64) := by kernel_rfl
@[go_sem] theorem zr3 : zeroT Try.prog 3 = (some [(.int .i64 0)]) := by kernel_rfl
@[go_sem] theorem zn3 : zeroTN Try.prog 3 = (some [(.int .i64 0)]) := by kernel_rfl
@[go_sem] theorem ty4 : tyI Try.prog 4 = (some (false, 1)) := by kernel_rfl
@[go_sem] theorem bo4 : boolT Try.prog 4 = true := by kernel_rfl
@[go_sem] theorem ik4 : intK Try.prog 4 = none := by kernel_rfl
@[go_sem] theorem zr4 : zeroT Try.prog 4 = (some [(.bool false)]) := by kernel_rfl
@[go_sem] theorem zn4 : zeroTN Try.prog 4 = (some [(.bool false)]) := by kernel_rfl
@[go_sem] theorem ty5 : tyI Try.prog 5 = (some (false, 1)) := by kernel_rfl
@[go_sem] theorem ik5 : intK Try.prog 5 = (some .u8) := by kernel_rfl
@[go_sem] theorem zr5 : zeroT Try.prog 5 = (some [(.int .u8 0)]) := by kernel_rfl
@[go_sem] theorem zn5 : zeroTN Try.prog 5 = (some [(.int .u8 0)]) := by kernel_rfl
@[go_sem] theorem ty6 : tyI Try.prog 6 = (some (false, 1)) := by kernel_rfl
@[go_sem] theorem ik6 : intK Try.prog 6 = (some .u8) := by kernel_rfl
@[go_sem] theorem zr6 : zeroT Try.prog 6 = (some [(.int .u8 0)]) := by kernel_rfl
@[go_sem] theorem zn6 : zeroTN Try.prog 6 = (some [(.int .u8 0)]) := by kernel_rfl
@[go_sem] theorem ty7 : tyI Try.prog 7 = (some (true, 4)) := by kernel_rfl
@[go_sem] theorem ik7 : intK Try.prog 7 = none := by kernel_rfl
@[go_sem] theorem zr7 : zeroT Try.prog 7 = (some [(.int .i64 0), (.int .i64 0), (.bool false), (.int .u8 0)]) := by kernel_rfl
@[go_sem] theorem zn7 : zeroTN Try.prog 7 = (some [(.int .i64 0), (.int .i64 0), (.bool false), (.int .u8 0)]) := by kernel_rfl
@[go_sem] theorem pl7 : placesT Try.prog 7 = (some [(0, 1), (1, 1), (2, 1), (3, 1)]) := by kernel_rfl
@[go_sem] theorem fq7 : flatQ Try.prog 7 = (some [0, 0, 2, 0]) := by kernel_rfl
@[go_sem] theorem fl7_0 : fldT Try.prog 7 0 = (some (0, (false, 1))) := by kernel_rfl
@[go_sem] theorem fl7_1 : fldT Try.prog 7 1 = (some (1, (false, 1))) := by kernel_rfl
@[go_sem] theorem fl7_2 : fldT Try.prog 7 2 = (some (2, (false, 1))) := by kernel_rfl
@[go_sem] theorem fl7_3 : fldT Try.prog 7 3 = (some (3, (false, 1))) := by kernel_rfl
@[go_sem] theorem ty8 : tyI Try.prog 8 = (some (true, 4)) := by kernel_rfl
@[go_sem] theorem ik8 : intK Try.prog 8 = none := by kernel_rfl
@[go_sem] theorem zr8 : zeroT Try.prog 8 = (some [(.int .i64 0), (.int .i64 0), (.bool false), (.int .u8 0)]) := by kernel_rfl
@[go_sem] theorem zn8 : zeroTN Try.prog 8 = (some [(.int .i64 0), (.int .i64 0), (.bool false), (.int .u8 0)]) := by kernel_rfl
@[go_sem] theorem pl8 : placesT Try.prog 8 = (some [(0, 1), (1, 1), (2, 1), (3, 1)]) := by kernel_rfl
@[go_sem] theorem fq8 : flatQ Try.prog 8 = (some [0, 0, 2, 0]) := by kernel_rfl
@[go_sem] theorem fl8_0 : fldT Try.prog 8 0 = (some (0, (false, 1))) := by kernel_rfl
@[go_sem] theorem fl8_1 : fldT Try.prog 8 1 = (some (1, (false, 1))) := by kernel_rfl
@[go_sem] theorem fl8_2 : fldT Try.prog 8 2 = (some (2, (false, 1))) := by kernel_rfl
@[go_sem] theorem fl8_3 : fldT Try.prog 8 3 = (some (3, (false, 1))) := by kernel_rfl
@[go_sem] theorem ty9 : tyI Try.prog 9 = (some (false, 1)) := by kernel_rfl
@[go_sem] theorem str9 : isStr Try.prog 9 = true := by kernel_rfl
@[go_sem] theorem ik9 : intK Try.prog 9 = none := by kernel_rfl
@[go_sem] theorem zr9 : zeroT Try.prog 9 = (some [(.str ⟨#[]⟩)]) := by kernel_rfl
@[go_sem] theorem zn9 : zeroTN Try.prog 9 = (some [(.str ⟨#[]⟩)]) := by kernel_rfl
@[go_sem] theorem ty10 : tyI Try.prog 10 = (some (false, 1)) := by kernel_rfl
@[go_sem] theorem str10 : isStr Try.prog 10 = true := by kernel_rfl
@[go_sem] theorem ik10 : intK Try.prog 10 = none := by kernel_rfl
@[go_sem] theorem zr10 : zeroT Try.prog 10 = (some [(.str ⟨#[]⟩)]) := by kernel_rfl
@[go_sem] theorem zn10 : zeroTN Try.prog 10 = (some [(.str ⟨#[]⟩)]) := by kernel_rfl
@[go_sem] theorem ty11 : tyI Try.prog 11 = (some (false, 1)) := by kernel_rfl
@[go_sem] theorem str11 : isStr Try.prog 11 = true := by kernel_rfl
@[go_sem] theorem ik11 : intK Try.prog 11 = none := by kernel_rfl
@[go_sem] theorem zr11 : zeroT Try.prog 11 = (some [(.str ⟨#[]⟩)]) := by kernel_rfl
@[go_sem] theorem zn11 : zeroTN Try.prog 11 = (some [(.str ⟨#[]⟩)]) := by kernel_rfl
@[go_sem] theorem ty12 : tyI Try.prog 12 = (some (false, 1)) := by kernel_rfl
@[go_sem] theorem ik12 : intK Try.prog 12 = (some .u64) := by kernel_rfl
@[go_sem] theorem zr12 : zeroT Try.prog 12 = (some [(.int .u64 0)]) := by kernel_rfl
@[go_sem] theorem zn12 : zeroTN Try.prog 12 = (some [(.int .u64 0)]) := by kernel_rfl
@[go_sem] theorem ty13 : tyI Try.prog 13 = (some (true, 2)) := by kernel_rfl
@[go_sem] theorem ik13 : intK Try.prog 13 = none := by kernel_rfl
@[go_sem] theorem zr13 : zeroT Try.prog 13 = (some [(.str ⟨#[]⟩), (.int .u64 0)]) := by kernel_rfl
@[go_sem] theorem zn13 : zeroTN Try.prog 13 = (some [(.str ⟨#[]⟩), (.int .u64 0)]) := by kernel_rfl
@[go_sem] theorem pl13 : placesT Try.prog 13 = (some [(0, 1), (1, 1)]) := by kernel_rfl
@[go_sem] theorem fl13_0 : fldT Try.prog 13 0 = (some (0, (false, 1))) := by kernel_rfl
@[go_sem] theorem fl13_1 : fldT Try.prog 13 1 = (some (1, (false, 1))) := by kernel_rfl
@[go_sem] theorem ty14 : tyI Try.prog 14 = (some (true, 2)) := by kernel_rfl
@[go_sem] theorem ik14 : intK Try.prog 14 = none := by kernel_rfl
@[go_sem] theorem zr14 : zeroT Try.prog 14 = (some [(.str ⟨#[]⟩), (.int .u64 0)]) := by kernel_rfl
@[go_sem] theorem zn14 : zeroTN Try.prog 14 = (some [(.str ⟨#[]⟩), (.int .u64 0)]) := by kernel_rfl
@[go_sem] theorem pl14 : placesT Try.prog 14 = (some [(0, 1), (1, 1)]) := by kernel_rfl
@[go_sem] theorem fl14_0 : fldT Try.prog 14 0 = (some (0, (false, 1))) := by kernel_rfl
@[go_sem] theorem fl14_1 : fldT Try.prog 14 1 = (some (1, (false, 1))) := by kernel_rfl
@[go_sem] theorem ty15 : tyI Try.prog 15 = (some (false, 1)) := by kernel_rfl
@[go_sem] theorem ik15 : intK Try.prog 15 = none := by kernel_rfl
@[go_sem] theorem zr15 : zeroT Try.prog 15 = (some [.nilp]) := by kernel_rfl
@[go_sem] theorem zn15 : zeroTN Try.prog 15 = (some [.nilp]) := by kernel_rfl
@[go_sem] theorem ty16 : tyI Try.prog 16 = (some (false, 1)) := by kernel_rfl
@[go_sem] theorem ik16 : intK Try.prog 16 = none := by kernel_rfl
@[go_sem] theorem zr16 : zeroT Try.prog 16 = (some [.nilp]) := by kernel_rfl
@[go_sem] theorem zn16 : zeroTN Try.prog 16 = (some [.nilp]) := by kernel_rfl
@[go_sem] theorem ty17 : tyI Try.prog 17 = (some (false, 1)) := by kernel_rfl
@[go_sem] theorem ik17 : intK Try.prog 17 = none := by kernel_rfl
@[go_sem] theorem zr17 : zeroT Try.prog 17 = (some [.nilp]) := by kernel_rfl
@[go_sem] theorem zn17 : zeroTN Try.prog 17 = (some [.nilp]) := by kernel_rfl
@[go_sem] theorem ty18 : tyI Try.prog 18 = (some (true, 1)) := by kernel_rfl
@[go_sem] theorem ik18 : intK Try.prog 18 = none := by kernel_rfl
@[go_sem] theorem zr18 : zeroT Try.prog 18 = (some [.nilp]) := by kernel_rfl
@[go_sem] theorem zn18 : zeroTN Try.prog 18 = (some [.nilp]) := by kernel_rfl
@[go_sem] theorem pl18 : placesT Try.prog 18 = (some [(0, 1)]) := by kernel_rfl
@[go_sem] theorem fl18_0 : fldT Try.prog 18 0 = (some (0, (false, 1))) := by kernel_rfl
@[go_sem] theorem ty19 : tyI Try.prog 19 = (some (true, 1)) := by kernel_rfl
@[go_sem] theorem ik19 : intK Try.prog 19 = none := by kernel_rfl
@[go_sem] theorem zr19 : zeroT Try.prog 19 = (some [.nilp]) := by kernel_rfl
@[go_sem] theorem zn19 : zeroTN Try.prog 19 = (some [.nilp]) := by kernel_rfl
@[go_sem] theorem pl19 : placesT Try.prog 19 = (some [(0, 1)]) := by kernel_rfl
@[go_sem] theorem fl19_0 : fldT Try.prog 19 0 = (some (0, (false, 1))) := by kernel_rfl
@[go_sem] theorem ty20 : tyI Try.prog 20 = (some (false, 1)) := by kernel_rfl
@[go_sem] theorem ik20 : intK Try.prog 20 = none := by kernel_rfl
@[go_sem] theorem ty21 : tyI Try.prog 21 = (some (false, 1)) := by kernel_rfl
@[go_sem] theorem ik21 : intK Try.prog 21 = (some .i32) := by kernel_rfl
@[go_sem] theorem zr21 : zeroT Try.prog 21 = (some [(.int .i32 0)]) := by kernel_rfl
@[go_sem] theorem zn21 : zeroTN Try.prog 21 = (some [(.int .i32 0)]) := by kernel_rfl
@[go_sem] theorem ty22 : tyI Try.prog 22 = (some (false, 1)) := by kernel_rfl
@[go_sem] theorem ik22 : intK Try.prog 22 = none := by kernel_rfl
@[go_sem] theorem zr22 : zeroT Try.prog 22 = (some [.nilf]) := by kernel_rfl
@[go_sem] theorem zn22 : zeroTN Try.prog 22 = (some [.nilf]) := by kernel_rfl
@[go_sem] theorem ty23 : tyI Try.prog 23 = (some (false, 1)) := by kernel_rfl
@[go_sem] theorem ik23 : intK Try.prog 23 = none := by kernel_rfl
@[go_sem] theorem zr23 : zeroT Try.prog 23 = (some [.nilf]) := by kernel_rfl
@[go_sem] theorem zn23 : zeroTN Try.prog 23 = (some [.nilf]) := by kernel_rfl
@[go_sem] theorem ty24 : tyI Try.prog 24 = (some (false, 1)) := by kernel_rfl
@[go_sem] theorem el24 : elT Try.prog 24 = (some (26, (2, 32))) := by kernel_rfl
@[go_sem] theorem ik24 : intK Try.prog 24 = none := by kernel_rfl
@[go_sem] theorem zr24 : zeroT Try.prog 24 = (some [(.sl 0 [])]) := by kernel_rfl
@[go_sem] theorem zn24 : zeroTN Try.prog 24 = (some [.nils]) := by kernel_rfl
@[go_sem] theorem ty25 : tyI Try.prog 25 = (some (true, 2)) := by kernel_rfl
@[go_sem] theorem ik25 : intK Try.prog 25 = none := by kernel_rfl
@[go_sem] theorem zr25 : zeroT Try.prog 25 = (some [(.int .i64 0), (.sl 0 [])]) := by kernel_rfl
@[go_sem] theorem zn25 : zeroTN Try.prog 25 = (some [(.int .i64 0), .nils]) := by kernel_rfl
@[go_sem] theorem pl25 : placesT Try.prog 25 = (some [(0, 1), (1, 1)]) := by kernel_rfl
@[go_sem] theorem fl25_0 : fldT Try.prog 25 0 = (some (0, (false, 1))) := by kernel_rfl
@[go_sem] theorem fl25_1 : fldT Try.prog 25 1 = (some (1, (false, 1))) := by kernel_rfl
@[go_sem] theorem ty26 : tyI Try.prog 26 = (some (true, 2)) := by kernel_rfl
@[go_sem] theorem ik26 : intK Try.prog 26 = none := by kernel_rfl
@[go_sem] theorem zr26 : zeroT Try.prog 26 = (some [(.int .i64 0), (.sl 0 [])]) := by kernel_rfl
@[go_sem] theorem zn26 : zeroTN Try.prog 26 = (some [(.int .i64 0), .nils]) := by kernel_rfl
@[go_sem] theorem pl26 : placesT Try.prog 26 = (some [(0, 1), (1, 1)]) := by kernel_rfl
@[go_sem] theorem fl26_0 : fldT Try.prog 26 0 = (some (0, (false, 1))) := by kernel_rfl
@[go_sem] theorem fl26_1 : fldT Try.prog 26 1 = (some (1, (false, 1))) := by kernel_rfl
@[go_sem] theorem ty27 : tyI Try.prog 27 = (some (false, 1)) := by kernel_rfl
@[go_sem] theorem ik27 : intK Try.prog 27 = none := by kernel_rfl
@[go_sem] theorem zr27 : zeroT Try.prog 27 = (some [.nilf]) := by kernel_rfl
@[go_sem] theorem zn27 : zeroTN Try.prog 27 = (some [.nilf]) := by kernel_rfl
@[go_sem] theorem ty28 : tyI Try.prog 28 = (some (false, 1)) := by kernel_rfl
@[go_sem] theorem ik28 : intK Try.prog 28 = none := by kernel_rfl
@[go_sem] theorem zr28 : zeroT Try.prog 28 = (some [.nilf]) := by kernel_rfl
@[go_sem] theorem zn28 : zeroTN Try.prog 28 = (some [.nilf]) := by kernel_rfl
@[go_sem] theorem ty29 : tyI Try.prog 29 = (some (false, 1)) := by kernel_rfl
@[go_sem] theorem ik29 : intK Try.prog 29 = none := by kernel_rfl
@[go_sem] theorem zr29 : zeroT Try.prog 29 = (some [.nilf]) := by kernel_rfl
@[go_sem] theorem zn29 : zeroTN Try.prog 29 = (some [.nilf]) := by kernel_rfl
@[go_sem] theorem ty30 : tyI Try.prog 30 = (some (false, 1)) := by kernel_rfl
@[go_sem] theorem ik30 : intK Try.prog 30 = none := by kernel_rfl
@[go_sem] theorem zr30 : zeroT Try.prog 30 = (some [.nilf]) := by kernel_rfl
@[go_sem] theorem zn30 : zeroTN Try.prog 30 = (some [.nilf]) := by kernel_rfl
@[go_sem] theorem ty31 : tyI Try.prog 31 = (some (false, 1)) := by kernel_rfl
@[go_sem] theorem ik31 : intK Try.prog 31 = none := by kernel_rfl
@[go_sem] theorem zr31 : zeroT Try.prog 31 = (some [.nilf]) := by kernel_rfl
@[go_sem] theorem zn31 : zeroTN Try.prog 31 = (some [.nilf]) := by kernel_rfl
@[go_sem] theorem ty32 : tyI Try.prog 32 = (some (false, 1)) := by kernel_rfl
@[go_sem] theorem el32 : elT Try.prog 32 = (some (34, (4, 56))) := by kernel_rfl
@[go_sem] theorem ik32 : intK Try.prog 32 = none := by kernel_rfl
@[go_sem] theorem zr32 : zeroT Try.prog 32 = (some [(.sl 0 [])]) := by kernel_rfl
@[go_sem] theorem zn32 : zeroTN Try.prog 32 = (some [.nils]) := by kernel_rfl
@[go_sem] theorem ty33 : tyI Try.prog 33 = (some (true, 4)) := by kernel_rfl
@[go_sem] theorem ik33 : intK Try.prog 33 = none := by kernel_rfl
@[go_sem] theorem zr33 : zeroT Try.prog 33 = (some [(.int .i64 0), (.int .i64 0), (.str ⟨#[]⟩), (.sl 0 [])]) := by kernel_rfl
@[go_sem] theorem zn33 : zeroTN Try.prog 33 = (some [(.int .i64 0), (.int .i64 0), (.str ⟨#[]⟩), .nils]) := by kernel_rfl
@[go_sem] theorem pl33 : placesT Try.prog 33 = (some [(0, 1), (1, 1), (2, 1), (3, 1)]) := by kernel_rfl
@[go_sem] theorem fl33_0 : fldT Try.prog 33 0 = (some (0, (false, 1))) := by kernel_rfl
@[go_sem] theorem fl33_1 : fldT Try.prog 33 1 = (some (1, (false, 1))) := by kernel_rfl
@[go_sem] theorem fl33_2 : fldT Try.prog 33 2 = (some (2, (false, 1))) := by kernel_rfl
@[go_sem] theorem fl33_3 : fldT Try.prog 33 3 = (some (3, (false, 1))) := by kernel_rfl
@[go_sem] theorem ty34 : tyI Try.prog 34 = (some (true, 4)) := by kernel_rfl
@[go_sem] theorem ik34 : intK Try.prog 34 = none := by kernel_rfl
@[go_sem] theorem zr34 : zeroT Try.prog 34 = (some [(.int .i64 0), (.int .i64 0), (.str ⟨#[]⟩), (.sl 0 [])]) := by kernel_rfl
@[go_sem] theorem zn34 : zeroTN Try.prog 34 = (some [(.int .i64 0), (.int .i64 0), (.str ⟨#[]⟩), .nils]) := by kernel_rfl
@[go_sem] theorem pl34 : placesT Try.prog 34 = (some [(0, 1), (1, 1), (2, 1), (3, 1)]) := by kernel_rfl
@[go_sem] theorem fl34_0 : fldT Try.prog 34 0 = (some (0, (false, 1))) := by kernel_rfl
@[go_sem] theorem fl34_1 : fldT Try.prog 34 1 = (some (1, (false, 1))) := by kernel_rfl
@[go_sem] theorem fl34_2 : fldT Try.prog 34 2 = (some (2, (false, 1))) := by kernel_rfl
@[go_sem] theorem fl34_3 : fldT Try.prog 34 3 = (some (3, (false, 1))) := by kernel_rfl
@[go_sem] theorem ty35 : tyI Try.prog 35 = (some (false, 1)) := by kernel_rfl
@[go_sem] theorem ik35 : intK Try.prog 35 = none := by kernel_rfl
@[go_sem] theorem zr35 : zeroT Try.prog 35 = (some [.nilf]) := by kernel_rfl
@[go_sem] theorem zn35 : zeroTN Try.prog 35 = (some [.nilf]) := by kernel_rfl
@[go_sem] theorem ty36 : tyI Try.prog 36 = (some (false, 1)) := by kernel_rfl
@[go_sem] theorem ik36 : intK Try.prog 36 = none := by kernel_rfl
@[go_sem] theorem zr36 : zeroT Try.prog 36 = (some [.nilf]) := by kernel_rfl
@[go_sem] theorem zn36 : zeroTN Try.prog 36 = (some [.nilf]) := by kernel_rfl
@[go_sem] theorem ty37 : tyI Try.prog 37 = (some (false, 1)) := by kernel_rfl
@[go_sem] theorem ik37 : intK Try.prog 37 = none := by kernel_rfl
@[go_sem] theorem zr37 : zeroT Try.prog 37 = (some [.nilf]) := by kernel_rfl
@[go_sem] theorem zn37 : zeroTN Try.prog 37 = (some [.nilf]) := by kernel_rfl
@[go_sem] theorem ty38 : tyI Try.prog 38 = (some (false, 1)) := by kernel_rfl
@[go_sem] theorem ik38 : intK Try.prog 38 = none := by kernel_rfl
@[go_sem] theorem zr38 : zeroT Try.prog 38 = (some [.nilf]) := by kernel_rfl
@[go_sem] theorem zn38 : zeroTN Try.prog 38 = (some [.nilf]) := by kernel_rfl
@[go_sem] theorem ty39 : tyI Try.prog 39 = (some (false, 1)) := by kernel_rfl
@[go_sem] theorem ik39 : intK Try.prog 39 = none := by kernel_rfl
@[go_sem] theorem zr39 : zeroT Try.prog 39 = (some [.nilf]) := by kernel_rfl
@[go_sem] theorem zn39 : zeroTN Try.prog 39 = (some [.nilf]) := by kernel_rfl
@[go_sem] theorem ty40 : tyI Try.prog 40 = (some (false, 1)) := by kernel_rfl
@[go_sem] theorem ik40 : intK Try.prog 40 = none := by kernel_rfl
@[go_sem] theorem zr40 : zeroT Try.prog 40 = (some [.nilf]) := by kernel_rfl
@[go_sem] theorem zn40 : zeroTN Try.prog 40 = (some [.nilf]) := by kernel_rfl
@[go_sem] theorem ty41 : tyI Try.prog 41 = (some (false, 1)) := by kernel_rfl
@[go_sem] theorem ik41 : intK Try.prog 41 = none := by kernel_rfl
@[go_sem] theorem zr41 : zeroT Try.prog 41 = (some [.nilf]) := by kernel_rfl
@[go_sem] theorem zn41 : zeroTN Try.prog 41 = (some [.nilf]) := by kernel_rfl
@[go_sem] theorem ty42 : tyI Try.prog 42 = (some (false, 1)) := by kernel_rfl
@[go_sem] theorem ik42 : intK Try.prog 42 = none := by kernel_rfl
@[go_sem] theorem zr42 : zeroT Try.prog 42 = (some [.nilf]) := by kernel_rfl
@[go_sem] theorem zn42 : zeroTN Try.prog 42 = (some [.nilf]) := by kernel_rfl
@[go_sem] theorem ty43 : tyI Try.prog 43 = (some (false, 1)) := by kernel_rfl
@[go_sem] theorem ik43 : intK Try.prog 43 = none := by kernel_rfl
@[go_sem] theorem zr43 : zeroT Try.prog 43 = (some [.nilf]) := by kernel_rfl
@[go_sem] theorem zn43 : zeroTN Try.prog 43 = (some [.nilf]) := by kernel_rfl
@[go_sem] theorem ty44 : tyI Try.prog 44 = (some (false, 1)) := by kernel_rfl
@[go_sem] theorem ik44 : intK Try.prog 44 = none := by kernel_rfl
@[go_sem] theorem zr44 : zeroT Try.prog 44 = (some [.nilf]) := by kernel_rfl
@[go_sem] theorem zn44 : zeroTN Try.prog 44 = (some [.nilf]) := by kernel_rfl
@[go_sem] theorem ty45 : tyI Try.prog 45 = (some (false, 1)) := by kernel_rfl
@[go_sem] theorem ik45 : intK Try.prog 45 = none := by kernel_rfl
@[go_sem] theorem zr45 : zeroT Try.prog 45 = (some [.nilf]) := by kernel_rfl
@[go_sem] theorem zn45 : zeroTN Try.prog 45 = (some [.nilf]) := by kernel_rfl
@[go_sem] theorem ty46 : tyI Try.prog 46 = (some (false, 1)) := by kernel_rfl
@[go_sem] theorem ik46 : intK Try.prog 46 = none := by kernel_rfl
@[go_sem] theorem zr46 : zeroT Try.prog 46 = (some [.nilf]) := by kernel_rfl
@[go_sem] theorem zn46 : zeroTN Try.prog 46 = (some [.nilf]) := by kernel_rfl
@[go_sem] theorem ty47 : tyI Try.prog 47 = (some (false, 1)) := by kernel_rfl
@[go_sem] theorem ik47 : intK Try.prog 47 = none := by kernel_rfl
@[go_sem] theorem zr47 : zeroT Try.prog 47 = (some [.nilf]) := by kernel_rfl
@[go_sem] theorem zn47 : zeroTN Try.prog 47 = (some [.nilf]) := by kernel_rfl
@[go_sem] theorem ty48 : tyI Try.prog 48 = (some (false, 1)) := by kernel_rfl
@[go_sem] theorem ik48 : intK Try.prog 48 = none := by kernel_rfl
@[go_sem] theorem zr48 : zeroT Try.prog 48 = (some [.nilf]) := by kernel_rfl
@[go_sem] theorem zn48 : zeroTN Try.prog 48 = (some [.nilf]) := by kernel_rfl
@[go_sem] theorem ty49 : tyI Try.prog 49 = (some (false, 1)) := by kernel_rfl
@[go_sem] theorem ik49 : intK Try.prog 49 = none := by kernel_rfl
@[go_sem] theorem zr49 : zeroT Try.prog 49 = (some [.nilf]) := by kernel_rfl
@[go_sem] theorem zn49 : zeroTN Try.prog 49 = (some [.nilf]) := by kernel_rfl
@[go_sem] theorem ty50 : tyI Try.prog 50 = (some (false, 1)) := by kernel_rfl
@[go_sem] theorem ik50 : intK Try.prog 50 = none := by kernel_rfl
@[go_sem] theorem zr50 : zeroT Try.prog 50 = (some [.nilf]) := by kernel_rfl
@[go_sem] theorem zn50 : zeroTN Try.prog 50 = (some [.nilf]) := by kernel_rfl
@[go_sem] theorem ty51 : tyI Try.prog 51 = (some (false, 1)) := by kernel_rfl
@[go_sem] theorem ik51 : intK Try.prog 51 = none := by kernel_rfl
@[go_sem] theorem zr51 : zeroT Try.prog 51 = (some [.nilf]) := by kernel_rfl
@[go_sem] theorem zn51 : zeroTN Try.prog 51 = (some [.nilf]) := by kernel_rfl
@[go_sem] theorem ty52 : tyI Try.prog 52 = (some (false, 1)) := by kernel_rfl
@[go_sem] theorem ik52 : intK Try.prog 52 = none := by kernel_rfl
@[go_sem] theorem zr52 : zeroT Try.prog 52 = (some [.nilf]) := by kernel_rfl
@[go_sem] theorem zn52 : zeroTN Try.prog 52 = (some [.nilf]) := by kernel_rfl
@[go_sem] theorem ty53 : tyI Try.prog 53 = (some (false, 1)) := by kernel_rfl
@[go_sem] theorem ik53 : intK Try.prog 53 = none := by kernel_rfl
@[go_sem] theorem zr53 : zeroT Try.prog 53 = (some [.nilf]) := by kernel_rfl
@[go_sem] theorem zn53 : zeroTN Try.prog 53 = (some [.nilf]) := by kernel_rfl
@[go_sem] theorem ty54 : tyI Try.prog 54 = (some (false, 1)) := by kernel_rfl
@[go_sem] theorem ik54 : intK Try.prog 54 = none := by kernel_rfl
@[go_sem] theorem zr54 : zeroT Try.prog 54 = (some [.nilf]) := by kernel_rfl
@[go_sem] theorem zn54 : zeroTN Try.prog 54 = (some [.nilf]) := by kernel_rfl
@[go_sem] theorem ty55 : tyI Try.prog 55 = (some (false, 1)) := by kernel_rfl
@[go_sem] theorem ik55 : intK Try.prog 55 = none := by kernel_rfl
@[go_sem] theorem zr55 : zeroT Try.prog 55 = (some [.nilf]) := by kernel_rfl
@[go_sem] theorem zn55 : zeroTN Try.prog 55 = (some [.nilf]) := by kernel_rfl
@[go_sem] theorem ty56 : tyI Try.prog 56 = (some (false, 1)) := by kernel_rfl
@[go_sem] theorem ik56 : intK Try.prog 56 = none := by kernel_rfl
@[go_sem] theorem zr56 : zeroT Try.prog 56 = (some [.nilf]) := by kernel_rfl
@[go_sem] theorem zn56 : zeroTN Try.prog 56 = (some [.nilf]) := by kernel_rfl
@[go_sem] theorem ty57 : tyI Try.prog 57 = (some (false, 1)) := by kernel_rfl
@[go_sem] theorem ik57 : intK Try.prog 57 = none := by kernel_rfl
@[go_sem] theorem zr57 : zeroT Try.prog 57 = (some [.nilf]) := by kernel_rfl
@[go_sem] theorem zn57 : zeroTN Try.prog 57 = (some [.nilf]) := by kernel_rfl
@[go_sem] theorem ty58 : tyI Try.prog 58 = (some (false, 1)) := by kernel_rfl
@[go_sem] theorem el58 : elT Try.prog 58 = (some (9, (1, 16))) := by kernel_rfl
@[go_sem] theorem ik58 : intK Try.prog 58 = none := by kernel_rfl
@[go_sem] theorem zr58 : zeroT Try.prog 58 = (some [(.sl 0 [])]) := by kernel_rfl
@[go_sem] theorem zn58 : zeroTN Try.prog 58 = (some [.nils]) := by kernel_rfl
@[go_sem] theorem ty59 : tyI Try.prog 59 = (some (false, 1)) := by kernel_rfl
@[go_sem] theorem ik59 : intK Try.prog 59 = none := by kernel_rfl
@[go_sem] theorem zr59 : zeroT Try.prog 59 = (some [.nilf]) := by kernel_rfl
@[go_sem] theorem zn59 : zeroTN Try.prog 59 = (some [.nilf]) := by kernel_rfl
@[go_sem] theorem ty60 : tyI Try.prog 60 = (some (false, 1)) := by kernel_rfl
@[go_sem] theorem ik60 : intK Try.prog 60 = none := by kernel_rfl
@[go_sem] theorem zr60 : zeroT Try.prog 60 = (some [.nilf]) := by kernel_rfl
@[go_sem] theorem zn60 : zeroTN Try.prog 60 = (some [.nilf]) := by kernel_rfl
@[go_sem] theorem ty61 : tyI Try.prog 61 = (some (false, 1)) := by kernel_rfl
@[go_sem] theorem ik61 : intK Try.prog 61 = none := by kernel_rfl
@[go_sem] theorem zr61 : zeroT Try.prog 61 = (some [.nilf]) := by kernel_rfl
@[go_sem] theorem zn61 : zeroTN Try.prog 61 = (some [.nilf]) := by kernel_rfl
@[go_sem] theorem ty62 : tyI Try.prog 62 = (some (false, 1)) := by kernel_rfl
@[go_sem] theorem ik62 : intK Try.prog 62 = none := by kernel_rfl
@[go_sem] theorem zr62 : zeroT Try.prog 62 = (some [.nilf]) := by kernel_rfl
@[go_sem] theorem zn62 : zeroTN Try.prog 62 = (some [.nilf]) := by kernel_rfl
@[go_sem] theorem ty63 : tyI Try.prog 63 = (some (false, 1)) := by kernel_rfl
@[go_sem] theorem el63 : elT Try.prog 63 = (some (5, (1, 1))) := by kernel_rfl
@[go_sem] theorem ik63 : intK Try.prog 63 = none := by kernel_rfl
@[go_sem] theorem zr63 : zeroT Try.prog 63 = (some [(.sl 0 [])]) := by kernel_rfl
@[go_sem] theorem zn63 : zeroTN Try.prog 63 = (some [.nils]) := by kernel_rfl
@[go_sem] theorem ty64 : tyI Try.prog 64 = (some (false, 1)) := by kernel_rfl
@[go_sem] theorem ik64 : intK Try.prog 64 = none := by kernel_rfl
@[go_sem] theorem zr64 : zeroT Try.prog 64 = (some [.nilf]) := by kernel_rfl
@[go_sem] theorem zn64 : zeroTN Try.prog 64 = (some [.nilf]) := by kernel_rfl
@[go_sem] theorem ty65 : tyI Try.prog 65 = (some (false, 1)) := by kernel_rfl
@[go_sem] theorem ik65 : intK Try.prog 65 = none := by kernel_rfl
@[go_sem] theorem zr65 : zeroT Try.prog 65 = (some [.nilf]) := by kernel_rfl
@[go_sem] theorem zn65 : zeroTN Try.prog 65 = (some [.nilf]) := by kernel_rfl
@[go_sem] theorem ty66 : tyI Try.prog 66 = (some (false, 1)) := by kernel_rfl
@[go_sem] theorem ik66 : intK Try.prog 66 = none := by kernel_rfl
@[go_sem] theorem zr66 : zeroT Try.prog 66 = (some [.nilf]) := by kernel_rfl
@[go_sem] theorem zn66 : zeroTN Try.prog 66 = (some [.nilf]) := by kernel_rfl
@[go_sem] theorem ty67 : tyI Try.prog 67 = (some (false, 1)) := by kernel_rfl
@[go_sem] theorem ik67 : intK Try.prog 67 = none := by kernel_rfl
@[go_sem] theorem zr67 : zeroT Try.prog 67 = (some [.nilf]) := by kernel_rfl
@[go_sem] theorem zn67 : zeroTN Try.prog 67 = (some [.nilf]) := by kernel_rfl
@[go_sem] theorem ty68 : tyI Try.prog 68 = (some (false, 1)) := by kernel_rfl
@[go_sem] theorem ik68 : intK Try.prog 68 = none := by kernel_rfl
@[go_sem] theorem zr68 : zeroT Try.prog 68 = (some [.nilf]) := by kernel_rfl
@[go_sem] theorem zn68 : zeroTN Try.prog 68 = (some [.nilf]) := by kernel_rfl
@[go_sem] theorem ty69 : tyI Try.prog 69 = (some (false, 1)) := by kernel_rfl
@[go_sem] theorem ik69 : intK Try.prog 69 = none := by kernel_rfl
@[go_sem] theorem zr69 : zeroT Try.prog 69 = (some [.nilf]) := by kernel_rfl
@[go_sem] theorem zn69 : zeroTN Try.prog 69 = (some [.nilf]) := by kernel_rfl
@[go_sem] theorem ty70 : tyI Try.prog 70 = (some (false, 1)) := by kernel_rfl
@[go_sem] theorem el70 : elT Try.prog 70 = (some (3, (1, 8))) := by kernel_rfl
@[go_sem] theorem ik70 : intK Try.prog 70 = none := by kernel_rfl
@[go_sem] theorem zr70 : zeroT Try.prog 70 = (some [(.sl 0 [])]) := by kernel_rfl
@[go_sem] theorem zn70 : zeroTN Try.prog 70 = (some [.nils]) := by kernel_rfl
@[go_sem] theorem ty71 : tyI Try.prog 71 = (some (false, 1)) := by kernel_rfl
@[go_sem] theorem ik71 : intK Try.prog 71 = none := by kernel_rfl
@[go_sem] theorem zr71 : zeroT Try.prog 71 = (some [.nilf]) := by kernel_rfl
@[go_sem] theorem zn71 : zeroTN Try.prog 71 = (some [.nilf]) := by kernel_rfl
@[go_sem] theorem ty72 : tyI Try.prog 72 = (some (false, 1)) := by kernel_rfl
@[go_sem] theorem ik72 : intK Try.prog 72 = none := by kernel_rfl
@[go_sem] theorem zr72 : zeroT Try.prog 72 = (some [.nilp]) := by kernel_rfl
@[go_sem] theorem zn72 : zeroTN Try.prog 72 = (some [.nilp]) := by kernel_rfl
@[go_sem] theorem ty73 : tyI Try.prog 73 = (some (true, 2)) := by kernel_rfl
@[go_sem] theorem ik73 : intK Try.prog 73 = none := by kernel_rfl
@[go_sem] theorem zr73 : zeroT Try.prog 73 = (some [.nilp, (.sl 0 [])]) := by kernel_rfl
@[go_sem] theorem zn73 : zeroTN Try.prog 73 = (some [.nilp, .nils]) := by kernel_rfl
@[go_sem] theorem pl73 : placesT Try.prog 73 = (some [(0, 1), (1, 1)]) := by kernel_rfl
@[go_sem] theorem fl73_0 : fldT Try.prog 73 0 = (some (0, (false, 1))) := by kernel_rfl
@[go_sem] theorem fl73_1 : fldT Try.prog 73 1 = (some (1, (false, 1))) := by kernel_rfl
@[go_sem] theorem ty74 : tyI Try.prog 74 = (some (true, 2)) := by kernel_rfl
@[go_sem] theorem ik74 : intK Try.prog 74 = none := by kernel_rfl
@[go_sem] theorem zr74 : zeroT Try.prog 74 = (some [.nilp, (.sl 0 [])]) := by kernel_rfl
@[go_sem] theorem zn74 : zeroTN Try.prog 74 = (some [.nilp, .nils]) := by kernel_rfl
@[go_sem] theorem pl74 : placesT Try.prog 74 = (some [(0, 1), (1, 1)]) := by kernel_rfl
@[go_sem] theorem fl74_0 : fldT Try.prog 74 0 = (some (0, (false, 1))) := by kernel_rfl
@[go_sem] theorem fl74_1 : fldT Try.prog 74 1 = (some (1, (false, 1))) := by kernel_rfl
@[go_sem] theorem ty75 : tyI Try.prog 75 = (some (false, 1)) := by kernel_rfl
@[go_sem] theorem ik75 : intK Try.prog 75 = none := by kernel_rfl
@[go_sem] theorem zr75 : zeroT Try.prog 75 = (some [.nilf]) := by kernel_rfl
@[go_sem] theorem zn75 : zeroTN Try.prog 75 = (some [.nilf]) := by kernel_rfl
@[go_sem] theorem ty76 : tyI Try.prog 76 = (some (false, 1)) := by kernel_rfl
@[go_sem] theorem ik76 : intK Try.prog 76 = none := by kernel_rfl
@[go_sem] theorem ty77 : tyI Try.prog 77 = (some (false, 1)) := by kernel_rfl
@[go_sem] theorem ik77 : intK Try.prog 77 = none := by kernel_rfl
@[go_sem] theorem ty78 : tyI Try.prog 78 = (some (false, 1)) := by kernel_rfl
@[go_sem] theorem ik78 : intK Try.prog 78 = none := by kernel_rfl
@[go_sem] theorem ty79 : tyI Try.prog 79 = (some (false, 1)) := by kernel_rfl
@[go_sem] theorem ik79 : intK Try.prog 79 = none := by kernel_rfl
@[go_sem] theorem zr79 : zeroT Try.prog 79 = (some [.nilf]) := by kernel_rfl
@[go_sem] theorem zn79 : zeroTN Try.prog 79 = (some [.nilf]) := by kernel_rfl
@[go_sem] theorem ty80 : tyI Try.prog 80 = (some (false, 1)) := by kernel_rfl
@[go_sem] theorem ik80 : intK Try.prog 80 = none := by kernel_rfl
@[go_sem] theorem zr80 : zeroT Try.prog 80 = (some [.nilf]) := by kernel_rfl
@[go_sem] theorem zn80 : zeroTN Try.prog 80 = (some [.nilf]) := by kernel_rfl
@[go_sem] theorem ty81 : tyI Try.prog 81 = (some (false, 1)) := by kernel_rfl
@[go_sem] theorem ik81 : intK Try.prog 81 = none := by kernel_rfl
@[go_sem] theorem zr81 : zeroT Try.prog 81 = (some [.nilp]) := by kernel_rfl
@[go_sem] theorem zn81 : zeroTN Try.prog 81 = (some [.nilp]) := by kernel_rfl
@[go_sem] theorem ty82 : tyI Try.prog 82 = (some (false, 1)) := by kernel_rfl
@[go_sem] theorem ik82 : intK Try.prog 82 = none := by kernel_rfl
@[go_sem] theorem zr82 : zeroT Try.prog 82 = (some [.nilp]) := by kernel_rfl
@[go_sem] theorem zn82 : zeroTN Try.prog 82 = (some [.nilp]) := by kernel_rfl
@[go_sem] theorem ty83 : tyI Try.prog 83 = (some (false, 1)) := by kernel_rfl
@[go_sem] theorem ik83 : intK Try.prog 83 = none := by kernel_rfl
@[go_sem] theorem zr83 : zeroT Try.prog 83 = (some [.nilf]) := by kernel_rfl
@[go_sem] theorem zn83 : zeroTN Try.prog 83 = (some [.nilf]) := by kernel_rfl
@[go_sem] theorem ty84 : tyI Try.prog 84 = (some (false, 1)) := by kernel_rfl
@[go_sem] theorem ik84 : intK Try.prog 84 = none := by kernel_rfl
@[go_sem] theorem zr84 : zeroT Try.prog 84 = (some [.nilf]) := by kernel_rfl
@[go_sem] theorem zn84 : zeroTN Try.prog 84 = (some [.nilf]) := by kernel_rfl
@[go_sem] theorem ty85 : tyI Try.prog 85 = (some (true, 4)) := by kernel_rfl
@[go_sem] theorem ik85 : intK Try.prog 85 = none := by kernel_rfl
@[go_sem] theorem zr85 : zeroT Try.prog 85 = (some [.nilp, .nilp, .nilp, (.str ⟨#[]⟩)]) := by kernel_rfl
@[go_sem] theorem zn85 : zeroTN Try.prog 85 = (some [.nilp, .nilp, .nilp, (.str ⟨#[]⟩)]) := by kernel_rfl
@[go_sem] theorem pl85 : placesT Try.prog 85 = (some [(0, 1), (1, 1), (2, 1), (3, 1)]) := by kernel_rfl
@[go_sem] theorem fl85_0 : fldT Try.prog 85 0 = (some (0, (false, 1))) := by kernel_rfl
@[go_sem] theorem fl85_1 : fldT Try.prog 85 1 = (some (1, (false, 1))) := by kernel_rfl
@[go_sem] theorem fl85_2 : fldT Try.prog 85 2 = (some (2, (false, 1))) := by kernel_rfl
@[go_sem] theorem fl85_3 : fldT Try.prog 85 3 = (some (3, (false, 1))) := by kernel_rfl
@[go_sem] theorem ty86 : tyI Try.prog 86 = (some (true, 4)) := by kernel_rfl
@[go_sem] theorem ik86 : intK Try.prog 86 = none := by kernel_rfl
@[go_sem] theorem zr86 : zeroT Try.prog 86 = (some [.nilp, .nilp, .nilp, (.str ⟨#[]⟩)]) := by kernel_rfl
@[go_sem] theorem zn86 : zeroTN Try.prog 86 = (some [.nilp, .nilp, .nilp, (.str ⟨#[]⟩)]) := by kernel_rfl
@[go_sem] theorem pl86 : placesT Try.prog 86 = (some [(0, 1), (1, 1), (2, 1), (3, 1)]) := by kernel_rfl
@[go_sem] theorem fl86_0 : fldT Try.prog 86 0 = (some (0, (false, 1))) := by kernel_rfl
@[go_sem] theorem fl86_1 : fldT Try.prog 86 1 = (some (1, (false, 1))) := by kernel_rfl
@[go_sem] theorem fl86_2 : fldT Try.prog 86 2 = (some (2, (false, 1))) := by kernel_rfl
@[go_sem] theorem fl86_3 : fldT Try.prog 86 3 = (some (3, (false, 1))) := by kernel_rfl
@[go_sem] theorem ty87 : tyI Try.prog 87 = (some (true, 0)) := by kernel_rfl
@[go_sem] theorem ik87 : intK Try.prog 87 = none := by kernel_rfl
@[go_sem] theorem zr87 : zeroT Try.prog 87 = (some []) := by kernel_rfl
@[go_sem] theorem zn87 : zeroTN Try.prog 87 = (some []) := by kernel_rfl
@[go_sem] theorem ty88 : tyI Try.prog 88 = (some (true, 0)) := by kernel_rfl
@[go_sem] theorem ik88 : intK Try.prog 88 = none := by kernel_rfl
@[go_sem] theorem zr88 : zeroT Try.prog 88 = (some []) := by kernel_rfl
@[go_sem] theorem zn88 : zeroTN Try.prog 88 = (some []) := by kernel_rfl
@[go_sem] theorem pl88 : placesT Try.prog 88 = (some [(0, 0)]) := by kernel_rfl
@[go_sem] theorem fl88_0 : fldT Try.prog 88 0 = (some (0, (true, 0))) := by kernel_rfl
@[go_sem] theorem ty89 : tyI Try.prog 89 = (some (true, 0)) := by kernel_rfl
@[go_sem] theorem ik89 : intK Try.prog 89 = none := by kernel_rfl
@[go_sem] theorem zr89 : zeroT Try.prog 89 = (some []) := by kernel_rfl
@[go_sem] theorem zn89 : zeroTN Try.prog 89 = (some []) := by kernel_rfl
@[go_sem] theorem pl89 : placesT Try.prog 89 = (some [(0, 0)]) := by kernel_rfl
@[go_sem] theorem fl89_0 : fldT Try.prog 89 0 = (some (0, (true, 0))) := by kernel_rfl
@[go_sem] theorem ty90 : tyI Try.prog 90 = (some (false, 1)) := by kernel_rfl
@[go_sem] theorem ik90 : intK Try.prog 90 = none := by kernel_rfl
@[go_sem] theorem zr90 : zeroT Try.prog 90 = (some [.nilf]) := by kernel_rfl
@[go_sem] theorem zn90 : zeroTN Try.prog 90 = (some [.nilf]) := by kernel_rfl
@[go_sem] theorem ty91 : tyI Try.prog 91 = (some (false, 1)) := by kernel_rfl
@[go_sem] theorem ik91 : intK Try.prog 91 = (some .u32) := by kernel_rfl
@[go_sem] theorem zr91 : zeroT Try.prog 91 = (some [(.int .u32 0)]) := by kernel_rfl
@[go_sem] theorem zn91 : zeroTN Try.prog 91 = (some [(.int .u32 0)]) := by kernel_rfl
@[go_sem] theorem ty92 : tyI Try.prog 92 = (some (false, 1)) := by kernel_rfl
@[go_sem] theorem ik92 : intK Try.prog 92 = (some .u8) := by kernel_rfl
@[go_sem] theorem zr92 : zeroT Try.prog 92 = (some [(.int .u8 0)]) := by kernel_rfl
@[go_sem] theorem zn92 : zeroTN Try.prog 92 = (some [(.int .u8 0)]) := by kernel_rfl
@[go_sem] theorem ty93 : tyI Try.prog 93 = (some (false, 1)) := by kernel_rfl
@[go_sem] theorem ik93 : intK Try.prog 93 = (some .u8) := by kernel_rfl
@[go_sem] theorem zr93 : zeroT Try.prog 93 = (some [(.int .u8 0)]) := by kernel_rfl
@[go_sem] theorem zn93 : zeroTN Try.prog 93 = (some [(.int .u8 0)]) := by kernel_rfl
@[go_sem] theorem ty94 : tyI Try.prog 94 = (some (false, 1)) := by kernel_rfl
@[go_sem] theorem ik94 : intK Try.prog 94 = none := by kernel_rfl
@[go_sem] theorem zr94 : zeroT Try.prog 94 = (some [.nilf]) := by kernel_rfl
@[go_sem] theorem zn94 : zeroTN Try.prog 94 = (some [.nilf]) := by kernel_rfl
@[go_sem] theorem ty95 : tyI Try.prog 95 = (some (false, 1)) := by kernel_rfl
@[go_sem] theorem ik95 : intK Try.prog 95 = (some .i32) := by kernel_rfl
@[go_sem] theorem zr95 : zeroT Try.prog 95 = (some [(.int .i32 0)]) := by kernel_rfl
@[go_sem] theorem zn95 : zeroTN Try.prog 95 = (some [(.int .i32 0)]) := by kernel_rfl
@[go_sem] theorem ty96 : tyI Try.prog 96 = (some (false, 1)) := by kernel_rfl
@[go_sem] theorem ik96 : intK Try.prog 96 = (some .i32) := by kernel_rfl
@[go_sem] theorem zr96 : zeroT Try.prog 96 = (some [(.int .i32 0)]) := by kernel_rfl
@[go_sem] theorem zn96 : zeroTN Try.prog 96 = (some [(.int .i32 0)]) := by kernel_rfl
@[go_sem] theorem ty97 : tyI Try.prog 97 = (some (true, 11)) := by kernel_rfl
@[go_sem] theorem ik97 : intK Try.prog 97 = none := by kernel_rfl
@[go_sem] theorem zr97 : zeroT Try.prog 97 = (some [(.int .u64 0), (.int .u64 0), (.int .u32 0), (.int .u8 0), (.int .u8 0), (.int .u8 0), (.int .u8 0), .nilf, .nilp, (.int .i32 0), (.int .i32 0)]) := by kernel_rfl
@[go_sem] theorem zn97 : zeroTN Try.prog 97 = (some [(.int .u64 0), (.int .u64 0), (.int .u32 0), (.int .u8 0), (.int .u8 0), (.int .u8 0), (.int .u8 0), .nilf, .nilp, (.int .i32 0), (.int .i32 0)]) := by kernel_rfl
@[go_sem] theorem pl97 : placesT Try.prog 97 = (some [(0, 1), (1, 1), (2, 1), (3, 1), (4, 1), (5, 1), (6, 1), (7, 1), (8, 1), (9, 1), (10, 1)]) := by kernel_rfl
@[go_sem] theorem fl97_0 : fldT Try.prog 97 0 = (some (0, (false, 1))) := by kernel_rfl
@[go_sem] theorem fl97_1 : fldT Try.prog 97 1 = (some (1, (false, 1))) := by kernel_rfl
@[go_sem] theorem fl97_2 : fldT Try.prog 97 2 = (some (2, (false, 1))) := by kernel_rfl
@[go_sem] theorem fl97_3 : fldT Try.prog 97 3 = (some (3, (false, 1))) := by kernel_rfl
@[go_sem] theorem fl97_4 : fldT Try.prog 97 4 = (some (4, (false, 1))) := by kernel_rfl
@[go_sem] theorem fl97_5 : fldT Try.prog 97 5 = (some (5, (false, 1))) := by kernel_rfl
@[go_sem] theorem fl97_6 : fldT Try.prog 97 6 = (some (6, (false, 1))) := by kernel_rfl
@[go_sem] theorem fl97_7 : fldT Try.prog 97 7 = (some (7, (false, 1))) := by kernel_rfl
@[go_sem] theorem fl97_8 : fldT Try.prog 97 8 = (some (8, (false, 1))) := by kernel_rfl
@[go_sem] theorem fl97_9 : fldT Try.prog 97 9 = (some (9, (false, 1))) := by kernel_rfl
@[go_sem] theorem fl97_10 : fldT Try.prog 97 10 = (some (10, (false, 1))) := by kernel_rfl
@[go_sem] theorem ty98 : tyI Try.prog 98 = (some (true, 11)) := by kernel_rfl
@[go_sem] theorem ik98 : intK Try.prog 98 = none := by kernel_rfl
@[go_sem] theorem zr98 : zeroT Try.prog 98 = (some [(.int .u64 0), (.int .u64 0), (.int .u32 0), (.int .u8 0), (.int .u8 0), (.int .u8 0), (.int .u8 0), .nilf, .nilp, (.int .i32 0), (.int .i32 0)]) := by kernel_rfl
@[go_sem] theorem zn98 : zeroTN Try.prog 98 = (some [(.int .u64 0), (.int .u64 0), (.int .u32 0), (.int .u8 0), (.int .u8 0), (.int .u8 0), (.int .u8 0), .nilf, .nilp, (.int .i32 0), (.int .i32 0)]) := by kernel_rfl
@[go_sem] theorem pl98 : placesT Try.prog 98 = (some [(0, 1), (1, 1), (2, 1), (3, 1), (4, 1), (5, 1), (6, 1), (7, 1), (8, 1), (9, 1), (10, 1)]) := by kernel_rfl
@[go_sem] theorem fl98_0 : fldT Try.prog 98 0 = (some (0, (false, 1))) := by kernel_rfl
@[go_sem] theorem fl98_1 : fldT Try.prog 98 1 = (some (1, (false, 1))) := by kernel_rfl
@[go_sem] theorem fl98_2 : fldT Try.prog 98 2 = (some (2, (false, 1))) := by kernel_rfl
@[go_sem] theorem fl98_3 : fldT Try.prog 98 3 = (some (3, (false, 1))) := by kernel_rfl
@[go_sem] theorem fl98_4 : fldT Try.prog 98 4 = (some (4, (false, 1))) := by kernel_rfl
@[go_sem] theorem fl98_5 : fldT Try.prog 98 5 = (some (5, (false, 1))) := by kernel_rfl
@[go_sem] theorem fl98_6 : fldT Try.prog 98 6 = (some (6, (false, 1))) := by kernel_rfl
@[go_sem] theorem fl98_7 : fldT Try.prog 98 7 = (some (7, (false, 1))) := by kernel_rfl
@[go_sem] theorem fl98_8 : fldT Try.prog 98 8 = (some (8, (false, 1))) := by kernel_rfl
@[go_sem] theorem fl98_9 : fldT Try.prog 98 9 = (some (9, (false, 1))) := by kernel_rfl
@[go_sem] theorem fl98_10 : fldT Try.prog 98 10 = (some (10, (false, 1))) := by kernel_rfl
end Go.Proofs.Ytandclggkgmpgaa
