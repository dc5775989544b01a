/- What the long text of winnowinglaw18.fixed is parsed as. -/
import Derived.Test.YtlnaihkombcbcaaGreatLd2
noncomputable section
namespace Go.Proofs.YtlnaihkombcbcaaGreat
open Go.RowKit Go.Ev
def longS : ByteArray := ⟨#[112, 123, 99, 111, 108, 111, 114, 58, 118, 97, 114, 40, 45, 45, 97, 41, 59, 97, 110, 105, 109, 97, 116, 105, 111, 110, 58, 107, 32, 49, 115, 125, 64,
 108, 97, 121, 101, 114, 32, 108, 123, 113, 123, 45, 45, 99, 58, 49, 125, 125, 112, 123, 45, 45, 97, 58, 118, 97, 114, 40, 45, 45, 98, 44, 118, 97, 114, 40,
 45, 45, 100, 41, 41, 59, 45, 45, 99, 58, 50, 125, 64, 107, 101, 121, 102, 114, 97, 109, 101, 115, 32, 107, 123, 120, 58, 118, 97, 114, 40, 45, 45, 101, 41,
 125, 64, 107, 101, 121, 102, 114, 97, 109, 101, 115, 32, 109, 123, 125, 64, 102, 111, 110, 116, 45, 102, 97, 99, 101, 123, 102, 111, 110, 116, 45, 102, 97,
 109, 105, 108, 121, 58, 39, 70, 39, 125, 64, 109, 101, 100, 105, 97, 32, 40, 109, 105, 110, 45, 119, 105, 100, 116, 104, 58, 49, 112, 120, 41, 123, 114,
 123, 45, 45, 100, 58, 109, 59, 45, 45, 122, 58, 121, 125, 125]⟩
theorem nx0 : Pure Tryz.prog (fun _ => none) 203 [.g (.string longS), .g (.int .i64 (0))] (.ret (.tup [(.agg [(.g (.int .i64 (1))), (.g (.string ⟨#[112]⟩)), (.g (.int .i64 (0)))]), (.g (.int .i64 (1)))])) := evF_pureK prOk idxO_ok (pol := pol18) (K := 100000) (n := 300) (Ks := 100) (by kernel_rfl) (by kernel_rfl)
theorem nx1 : Pure Tryz.prog (fun _ => none) 203 [.g (.string longS), .g (.int .i64 (1))] (.ret (.tup [(.agg [(.g (.int .i64 (7))), (.g (.string ⟨#[123]⟩)), (.g (.int .i64 (0)))]), (.g (.int .i64 (2)))])) := evF_pureK prOk idxO_ok (pol := pol18) (K := 100000) (n := 300) (Ks := 100) (by kernel_rfl) (by kernel_rfl)
theorem nx2 : Pure Tryz.prog (fun _ => none) 203 [.g (.string longS), .g (.int .i64 (2))] (.ret (.tup [(.agg [(.g (.int .i64 (1))), (.g (.string ⟨#[99, 111, 108, 111, 114]⟩)), (.g (.int .i64 (0)))]), (.g (.int .i64 (7)))])) := evF_pureK prOk idxO_ok (pol := pol18) (K := 100000) (n := 300) (Ks := 100) (by kernel_rfl) (by kernel_rfl)
theorem nx3 : Pure Tryz.prog (fun _ => none) 203 [.g (.string longS), .g (.int .i64 (7))] (.ret (.tup [(.agg [(.g (.int .i64 (7))), (.g (.string ⟨#[58]⟩)), (.g (.int .i64 (0)))]), (.g (.int .i64 (8)))])) := evF_pureK prOk idxO_ok (pol := pol18) (K := 100000) (n := 300) (Ks := 100) (by kernel_rfl) (by kernel_rfl)
theorem nx4 : Pure Tryz.prog (fun _ => none) 203 [.g (.string longS), .g (.int .i64 (8))] (.ret (.tup [(.agg [(.g (.int .i64 (2))), (.g (.string ⟨#[118, 97, 114]⟩)), (.g (.int .i64 (0)))]), (.g (.int .i64 (12)))])) := evF_pureK prOk idxO_ok (pol := pol18) (K := 100000) (n := 300) (Ks := 100) (by kernel_rfl) (by kernel_rfl)
theorem nx5 : Pure Tryz.prog (fun _ => none) 203 [.g (.string longS), .g (.int .i64 (12))] (.ret (.tup [(.agg [(.g (.int .i64 (1))), (.g (.string ⟨#[45, 45, 97]⟩)), (.g (.int .i64 (0)))]), (.g (.int .i64 (15)))])) := evF_pureK prOk idxO_ok (pol := pol18) (K := 100000) (n := 300) (Ks := 100) (by kernel_rfl) (by kernel_rfl)
theorem nx6 : Pure Tryz.prog (fun _ => none) 203 [.g (.string longS), .g (.int .i64 (15))] (.ret (.tup [(.agg [(.g (.int .i64 (7))), (.g (.string ⟨#[41]⟩)), (.g (.int .i64 (0)))]), (.g (.int .i64 (16)))])) := evF_pureK prOk idxO_ok (pol := pol18) (K := 100000) (n := 300) (Ks := 100) (by kernel_rfl) (by kernel_rfl)
theorem nx7 : Pure Tryz.prog (fun _ => none) 203 [.g (.string longS), .g (.int .i64 (16))] (.ret (.tup [(.agg [(.g (.int .i64 (7))), (.g (.string ⟨#[59]⟩)), (.g (.int .i64 (0)))]), (.g (.int .i64 (17)))])) := evF_pureK prOk idxO_ok (pol := pol18) (K := 100000) (n := 300) (Ks := 100) (by kernel_rfl) (by kernel_rfl)
theorem nx8 : Pure Tryz.prog (fun _ => none) 203 [.g (.string longS), .g (.int .i64 (17))] (.ret (.tup [(.agg [(.g (.int .i64 (1))), (.g (.string ⟨#[97, 110, 105, 109, 97, 116, 105, 111, 110]⟩)), (.g (.int .i64 (0)))]), (.g (.int .i64 (26)))])) := evF_pureK prOk idxO_ok (pol := pol18) (K := 100000) (n := 300) (Ks := 100) (by kernel_rfl) (by kernel_rfl)
theorem nx9 : Pure Tryz.prog (fun _ => none) 203 [.g (.string longS), .g (.int .i64 (26))] (.ret (.tup [(.agg [(.g (.int .i64 (7))), (.g (.string ⟨#[58]⟩)), (.g (.int .i64 (0)))]), (.g (.int .i64 (27)))])) := evF_pureK prOk idxO_ok (pol := pol18) (K := 100000) (n := 300) (Ks := 100) (by kernel_rfl) (by kernel_rfl)
theorem nx10 : Pure Tryz.prog (fun _ => none) 203 [.g (.string longS), .g (.int .i64 (27))] (.ret (.tup [(.agg [(.g (.int .i64 (1))), (.g (.string ⟨#[107]⟩)), (.g (.int .i64 (0)))]), (.g (.int .i64 (28)))])) := evF_pureK prOk idxO_ok (pol := pol18) (K := 100000) (n := 300) (Ks := 100) (by kernel_rfl) (by kernel_rfl)
theorem nx11 : Pure Tryz.prog (fun _ => none) 203 [.g (.string longS), .g (.int .i64 (28))] (.ret (.tup [(.agg [(.g (.int .i64 (8))), (.g (.string ⟨#[10]⟩)), (.g (.int .i64 (0)))]), (.g (.int .i64 (29)))])) := evF_pureK prOk idxO_ok (pol := pol18) (K := 100000) (n := 300) (Ks := 100) (by kernel_rfl) (by kernel_rfl)
theorem nx12 : Pure Tryz.prog (fun _ => none) 203 [.g (.string longS), .g (.int .i64 (29))] (.ret (.tup [(.agg [(.g (.int .i64 (5))), (.g (.string ⟨#[115]⟩)), (.g (.int .i64 (1)))]), (.g (.int .i64 (31)))])) := evF_pureK prOk idxO_ok (pol := pol18) (K := 100000) (n := 300) (Ks := 100) (by kernel_rfl) (by kernel_rfl)
theorem nx13 : Pure Tryz.prog (fun _ => none) 203 [.g (.string longS), .g (.int .i64 (31))] (.ret (.tup [(.agg [(.g (.int .i64 (7))), (.g (.string ⟨#[125]⟩)), (.g (.int .i64 (0)))]), (.g (.int .i64 (32)))])) := evF_pureK prOk idxO_ok (pol := pol18) (K := 100000) (n := 300) (Ks := 100) (by kernel_rfl) (by kernel_rfl)
theorem nx14 : Pure Tryz.prog (fun _ => none) 203 [.g (.string longS), .g (.int .i64 (32))] (.ret (.tup [(.agg [(.g (.int .i64 (3))), (.g (.string ⟨#[108, 97, 121, 101, 114]⟩)), (.g (.int .i64 (0)))]), (.g (.int .i64 (38)))])) := evF_pureK prOk idxO_ok (pol := pol18) (K := 100000) (n := 300) (Ks := 100) (by kernel_rfl) (by kernel_rfl)
theorem nx15 : Pure Tryz.prog (fun _ => none) 203 [.g (.string longS), .g (.int .i64 (38))] (.ret (.tup [(.agg [(.g (.int .i64 (8))), (.g (.string ⟨#[10]⟩)), (.g (.int .i64 (0)))]), (.g (.int .i64 (39)))])) := evF_pureK prOk idxO_ok (pol := pol18) (K := 100000) (n := 300) (Ks := 100) (by kernel_rfl) (by kernel_rfl)
theorem nx16 : Pure Tryz.prog (fun _ => none) 203 [.g (.string longS), .g (.int .i64 (39))] (.ret (.tup [(.agg [(.g (.int .i64 (1))), (.g (.string ⟨#[108]⟩)), (.g (.int .i64 (0)))]), (.g (.int .i64 (40)))])) := evF_pureK prOk idxO_ok (pol := pol18) (K := 100000) (n := 300) (Ks := 100) (by kernel_rfl) (by kernel_rfl)
theorem nx17 : Pure Tryz.prog (fun _ => none) 203 [.g (.string longS), .g (.int .i64 (40))] (.ret (.tup [(.agg [(.g (.int .i64 (7))), (.g (.string ⟨#[123]⟩)), (.g (.int .i64 (0)))]), (.g (.int .i64 (41)))])) := evF_pureK prOk idxO_ok (pol := pol18) (K := 100000) (n := 300) (Ks := 100) (by kernel_rfl) (by kernel_rfl)
theorem nx18 : Pure Tryz.prog (fun _ => none) 203 [.g (.string longS), .g (.int .i64 (41))] (.ret (.tup [(.agg [(.g (.int .i64 (1))), (.g (.string ⟨#[113]⟩)), (.g (.int .i64 (0)))]), (.g (.int .i64 (42)))])) := evF_pureK prOk idxO_ok (pol := pol18) (K := 100000) (n := 300) (Ks := 100) (by kernel_rfl) (by kernel_rfl)
theorem nx19 : Pure Tryz.prog (fun _ => none) 203 [.g (.string longS), .g (.int .i64 (42))] (.ret (.tup [(.agg [(.g (.int .i64 (7))), (.g (.string ⟨#[123]⟩)), (.g (.int .i64 (0)))]), (.g (.int .i64 (43)))])) := evF_pureK prOk idxO_ok (pol := pol18) (K := 100000) (n := 300) (Ks := 100) (by kernel_rfl) (by kernel_rfl)
theorem nx20 : Pure Tryz.prog (fun _ => none) 203 [.g (.string longS), .g (.int .i64 (43))] (.ret (.tup [(.agg [(.g (.int .i64 (1))), (.g (.string ⟨#[45, 45, 99]⟩)), (.g (.int .i64 (0)))]), (.g (.int .i64 (46)))])) := evF_pureK prOk idxO_ok (pol := pol18) (K := 100000) (n := 300) (Ks := 100) (by kernel_rfl) (by kernel_rfl)
theorem nx21 : Pure Tryz.prog (fun _ => none) 203 [.g (.string longS), .g (.int .i64 (46))] (.ret (.tup [(.agg [(.g (.int .i64 (7))), (.g (.string ⟨#[58]⟩)), (.g (.int .i64 (0)))]), (.g (.int .i64 (47)))])) := evF_pureK prOk idxO_ok (pol := pol18) (K := 100000) (n := 300) (Ks := 100) (by kernel_rfl) (by kernel_rfl)
theorem nx22 : Pure Tryz.prog (fun _ => none) 203 [.g (.string longS), .g (.int .i64 (47))] (.ret (.tup [(.agg [(.g (.int .i64 (5))), (.g (.string ⟨#[]⟩)), (.g (.int .i64 (1)))]), (.g (.int .i64 (48)))])) := evF_pureK prOk idxO_ok (pol := pol18) (K := 100000) (n := 300) (Ks := 100) (by kernel_rfl) (by kernel_rfl)
theorem nx23 : Pure Tryz.prog (fun _ => none) 203 [.g (.string longS), .g (.int .i64 (48))] (.ret (.tup [(.agg [(.g (.int .i64 (7))), (.g (.string ⟨#[125]⟩)), (.g (.int .i64 (0)))]), (.g (.int .i64 (49)))])) := evF_pureK prOk idxO_ok (pol := pol18) (K := 100000) (n := 300) (Ks := 100) (by kernel_rfl) (by kernel_rfl)
theorem nx24 : Pure Tryz.prog (fun _ => none) 203 [.g (.string longS), .g (.int .i64 (49))] (.ret (.tup [(.agg [(.g (.int .i64 (7))), (.g (.string ⟨#[125]⟩)), (.g (.int .i64 (0)))]), (.g (.int .i64 (50)))])) := evF_pureK prOk idxO_ok (pol := pol18) (K := 100000) (n := 300) (Ks := 100) (by kernel_rfl) (by kernel_rfl)
theorem nx25 : Pure Tryz.prog (fun _ => none) 203 [.g (.string longS), .g (.int .i64 (50))] (.ret (.tup [(.agg [(.g (.int .i64 (1))), (.g (.string ⟨#[112]⟩)), (.g (.int .i64 (0)))]), (.g (.int .i64 (51)))])) := evF_pureK prOk idxO_ok (pol := pol18) (K := 100000) (n := 300) (Ks := 100) (by kernel_rfl) (by kernel_rfl)
theorem nx26 : Pure Tryz.prog (fun _ => none) 203 [.g (.string longS), .g (.int .i64 (51))] (.ret (.tup [(.agg [(.g (.int .i64 (7))), (.g (.string ⟨#[123]⟩)), (.g (.int .i64 (0)))]), (.g (.int .i64 (52)))])) := evF_pureK prOk idxO_ok (pol := pol18) (K := 100000) (n := 300) (Ks := 100) (by kernel_rfl) (by kernel_rfl)
theorem nx27 : Pure Tryz.prog (fun _ => none) 203 [.g (.string longS), .g (.int .i64 (52))] (.ret (.tup [(.agg [(.g (.int .i64 (1))), (.g (.string ⟨#[45, 45, 97]⟩)), (.g (.int .i64 (0)))]), (.g (.int .i64 (55)))])) := evF_pureK prOk idxO_ok (pol := pol18) (K := 100000) (n := 300) (Ks := 100) (by kernel_rfl) (by kernel_rfl)
theorem nx28 : Pure Tryz.prog (fun _ => none) 203 [.g (.string longS), .g (.int .i64 (55))] (.ret (.tup [(.agg [(.g (.int .i64 (7))), (.g (.string ⟨#[58]⟩)), (.g (.int .i64 (0)))]), (.g (.int .i64 (56)))])) := evF_pureK prOk idxO_ok (pol := pol18) (K := 100000) (n := 300) (Ks := 100) (by kernel_rfl) (by kernel_rfl)
theorem nx29 : Pure Tryz.prog (fun _ => none) 203 [.g (.string longS), .g (.int .i64 (56))] (.ret (.tup [(.agg [(.g (.int .i64 (2))), (.g (.string ⟨#[118, 97, 114]⟩)), (.g (.int .i64 (0)))]), (.g (.int .i64 (60)))])) := evF_pureK prOk idxO_ok (pol := pol18) (K := 100000) (n := 300) (Ks := 100) (by kernel_rfl) (by kernel_rfl)
theorem nx30 : Pure Tryz.prog (fun _ => none) 203 [.g (.string longS), .g (.int .i64 (60))] (.ret (.tup [(.agg [(.g (.int .i64 (1))), (.g (.string ⟨#[45, 45, 98]⟩)), (.g (.int .i64 (0)))]), (.g (.int .i64 (63)))])) := evF_pureK prOk idxO_ok (pol := pol18) (K := 100000) (n := 300) (Ks := 100) (by kernel_rfl) (by kernel_rfl)
theorem nx31 : Pure Tryz.prog (fun _ => none) 203 [.g (.string longS), .g (.int .i64 (63))] (.ret (.tup [(.agg [(.g (.int .i64 (7))), (.g (.string ⟨#[44]⟩)), (.g (.int .i64 (0)))]), (.g (.int .i64 (64)))])) := evF_pureK prOk idxO_ok (pol := pol18) (K := 100000) (n := 300) (Ks := 100) (by kernel_rfl) (by kernel_rfl)
theorem nx32 : Pure Tryz.prog (fun _ => none) 203 [.g (.string longS), .g (.int .i64 (64))] (.ret (.tup [(.agg [(.g (.int .i64 (2))), (.g (.string ⟨#[118, 97, 114]⟩)), (.g (.int .i64 (0)))]), (.g (.int .i64 (68)))])) := evF_pureK prOk idxO_ok (pol := pol18) (K := 100000) (n := 300) (Ks := 100) (by kernel_rfl) (by kernel_rfl)
theorem nx33 : Pure Tryz.prog (fun _ => none) 203 [.g (.string longS), .g (.int .i64 (68))] (.ret (.tup [(.agg [(.g (.int .i64 (1))), (.g (.string ⟨#[45, 45, 100]⟩)), (.g (.int .i64 (0)))]), (.g (.int .i64 (71)))])) := evF_pureK prOk idxO_ok (pol := pol18) (K := 100000) (n := 300) (Ks := 100) (by kernel_rfl) (by kernel_rfl)
theorem nx34 : Pure Tryz.prog (fun _ => none) 203 [.g (.string longS), .g (.int .i64 (71))] (.ret (.tup [(.agg [(.g (.int .i64 (7))), (.g (.string ⟨#[41]⟩)), (.g (.int .i64 (0)))]), (.g (.int .i64 (72)))])) := evF_pureK prOk idxO_ok (pol := pol18) (K := 100000) (n := 300) (Ks := 100) (by kernel_rfl) (by kernel_rfl)
theorem nx35 : Pure Tryz.prog (fun _ => none) 203 [.g (.string longS), .g (.int .i64 (72))] (.ret (.tup [(.agg [(.g (.int .i64 (7))), (.g (.string ⟨#[41]⟩)), (.g (.int .i64 (0)))]), (.g (.int .i64 (73)))])) := evF_pureK prOk idxO_ok (pol := pol18) (K := 100000) (n := 300) (Ks := 100) (by kernel_rfl) (by kernel_rfl)
theorem nx36 : Pure Tryz.prog (fun _ => none) 203 [.g (.string longS), .g (.int .i64 (73))] (.ret (.tup [(.agg [(.g (.int .i64 (7))), (.g (.string ⟨#[59]⟩)), (.g (.int .i64 (0)))]), (.g (.int .i64 (74)))])) := evF_pureK prOk idxO_ok (pol := pol18) (K := 100000) (n := 300) (Ks := 100) (by kernel_rfl) (by kernel_rfl)
theorem nx37 : Pure Tryz.prog (fun _ => none) 203 [.g (.string longS), .g (.int .i64 (74))] (.ret (.tup [(.agg [(.g (.int .i64 (1))), (.g (.string ⟨#[45, 45, 99]⟩)), (.g (.int .i64 (0)))]), (.g (.int .i64 (77)))])) := evF_pureK prOk idxO_ok (pol := pol18) (K := 100000) (n := 300) (Ks := 100) (by kernel_rfl) (by kernel_rfl)
theorem nx38 : Pure Tryz.prog (fun _ => none) 203 [.g (.string longS), .g (.int .i64 (77))] (.ret (.tup [(.agg [(.g (.int .i64 (7))), (.g (.string ⟨#[58]⟩)), (.g (.int .i64 (0)))]), (.g (.int .i64 (78)))])) := evF_pureK prOk idxO_ok (pol := pol18) (K := 100000) (n := 300) (Ks := 100) (by kernel_rfl) (by kernel_rfl)
theorem nx39 : Pure Tryz.prog (fun _ => none) 203 [.g (.string longS), .g (.int .i64 (78))] (.ret (.tup [(.agg [(.g (.int .i64 (5))), (.g (.string ⟨#[]⟩)), (.g (.int .i64 (2)))]), (.g (.int .i64 (79)))])) := evF_pureK prOk idxO_ok (pol := pol18) (K := 100000) (n := 300) (Ks := 100) (by kernel_rfl) (by kernel_rfl)
theorem nx40 : Pure Tryz.prog (fun _ => none) 203 [.g (.string longS), .g (.int .i64 (79))] (.ret (.tup [(.agg [(.g (.int .i64 (7))), (.g (.string ⟨#[125]⟩)), (.g (.int .i64 (0)))]), (.g (.int .i64 (80)))])) := evF_pureK prOk idxO_ok (pol := pol18) (K := 100000) (n := 300) (Ks := 100) (by kernel_rfl) (by kernel_rfl)
theorem nx41 : Pure Tryz.prog (fun _ => none) 203 [.g (.string longS), .g (.int .i64 (80))] (.ret (.tup [(.agg [(.g (.int .i64 (3))), (.g (.string ⟨#[107, 101, 121, 102, 114, 97, 109, 101, 115]⟩)), (.g (.int .i64 (0)))]), (.g (.int .i64 (90)))])) := evF_pureK prOk idxO_ok (pol := pol18) (K := 100000) (n := 300) (Ks := 100) (by kernel_rfl) (by kernel_rfl)
theorem nx42 : Pure Tryz.prog (fun _ => none) 203 [.g (.string longS), .g (.int .i64 (90))] (.ret (.tup [(.agg [(.g (.int .i64 (8))), (.g (.string ⟨#[10]⟩)), (.g (.int .i64 (0)))]), (.g (.int .i64 (91)))])) := evF_pureK prOk idxO_ok (pol := pol18) (K := 100000) (n := 300) (Ks := 100) (by kernel_rfl) (by kernel_rfl)
theorem nx43 : Pure Tryz.prog (fun _ => none) 203 [.g (.string longS), .g (.int .i64 (91))] (.ret (.tup [(.agg [(.g (.int .i64 (1))), (.g (.string ⟨#[107]⟩)), (.g (.int .i64 (0)))]), (.g (.int .i64 (92)))])) := evF_pureK prOk idxO_ok (pol := pol18) (K := 100000) (n := 300) (Ks := 100) (by kernel_rfl) (by kernel_rfl)
theorem nx44 : Pure Tryz.prog (fun _ => none) 203 [.g (.string longS), .g (.int .i64 (92))] (.ret (.tup [(.agg [(.g (.int .i64 (7))), (.g (.string ⟨#[123]⟩)), (.g (.int .i64 (0)))]), (.g (.int .i64 (93)))])) := evF_pureK prOk idxO_ok (pol := pol18) (K := 100000) (n := 300) (Ks := 100) (by kernel_rfl) (by kernel_rfl)
theorem nx45 : Pure Tryz.prog (fun _ => none) 203 [.g (.string longS), .g (.int .i64 (93))] (.ret (.tup [(.agg [(.g (.int .i64 (1))), (.g (.string ⟨#[120]⟩)), (.g (.int .i64 (0)))]), (.g (.int .i64 (94)))])) := evF_pureK prOk idxO_ok (pol := pol18) (K := 100000) (n := 300) (Ks := 100) (by kernel_rfl) (by kernel_rfl)
theorem nx46 : Pure Tryz.prog (fun _ => none) 203 [.g (.string longS), .g (.int .i64 (94))] (.ret (.tup [(.agg [(.g (.int .i64 (7))), (.g (.string ⟨#[58]⟩)), (.g (.int .i64 (0)))]), (.g (.int .i64 (95)))])) := evF_pureK prOk idxO_ok (pol := pol18) (K := 100000) (n := 300) (Ks := 100) (by kernel_rfl) (by kernel_rfl)
theorem nx47 : Pure Tryz.prog (fun _ => none) 203 [.g (.string longS), .g (.int .i64 (95))] (.ret (.tup [(.agg [(.g (.int .i64 (2))), (.g (.string ⟨#[118, 97, 114]⟩)), (.g (.int .i64 (0)))]), (.g (.int .i64 (99)))])) := evF_pureK prOk idxO_ok (pol := pol18) (K := 100000) (n := 300) (Ks := 100) (by kernel_rfl) (by kernel_rfl)
theorem nx48 : Pure Tryz.prog (fun _ => none) 203 [.g (.string longS), .g (.int .i64 (99))] (.ret (.tup [(.agg [(.g (.int .i64 (1))), (.g (.string ⟨#[45, 45, 101]⟩)), (.g (.int .i64 (0)))]), (.g (.int .i64 (102)))])) := evF_pureK prOk idxO_ok (pol := pol18) (K := 100000) (n := 300) (Ks := 100) (by kernel_rfl) (by kernel_rfl)
theorem nx49 : Pure Tryz.prog (fun _ => none) 203 [.g (.string longS), .g (.int .i64 (102))] (.ret (.tup [(.agg [(.g (.int .i64 (7))), (.g (.string ⟨#[41]⟩)), (.g (.int .i64 (0)))]), (.g (.int .i64 (103)))])) := evF_pureK prOk idxO_ok (pol := pol18) (K := 100000) (n := 300) (Ks := 100) (by kernel_rfl) (by kernel_rfl)
theorem nx50 : Pure Tryz.prog (fun _ => none) 203 [.g (.string longS), .g (.int .i64 (103))] (.ret (.tup [(.agg [(.g (.int .i64 (7))), (.g (.string ⟨#[125]⟩)), (.g (.int .i64 (0)))]), (.g (.int .i64 (104)))])) := evF_pureK prOk idxO_ok (pol := pol18) (K := 100000) (n := 300) (Ks := 100) (by kernel_rfl) (by kernel_rfl)
theorem nx51 : Pure Tryz.prog (fun _ => none) 203 [.g (.string longS), .g (.int .i64 (104))] (.ret (.tup [(.agg [(.g (.int .i64 (3))), (.g (.string ⟨#[107, 101, 121, 102, 114, 97, 109, 101, 115]⟩)), (.g (.int .i64 (0)))]), (.g (.int .i64 (114)))])) := evF_pureK prOk idxO_ok (pol := pol18) (K := 100000) (n := 300) (Ks := 100) (by kernel_rfl) (by kernel_rfl)
theorem nx52 : Pure Tryz.prog (fun _ => none) 203 [.g (.string longS), .g (.int .i64 (114))] (.ret (.tup [(.agg [(.g (.int .i64 (8))), (.g (.string ⟨#[10]⟩)), (.g (.int .i64 (0)))]), (.g (.int .i64 (115)))])) := evF_pureK prOk idxO_ok (pol := pol18) (K := 100000) (n := 300) (Ks := 100) (by kernel_rfl) (by kernel_rfl)
theorem nx53 : Pure Tryz.prog (fun _ => none) 203 [.g (.string longS), .g (.int .i64 (115))] (.ret (.tup [(.agg [(.g (.int .i64 (1))), (.g (.string ⟨#[109]⟩)), (.g (.int .i64 (0)))]), (.g (.int .i64 (116)))])) := evF_pureK prOk idxO_ok (pol := pol18) (K := 100000) (n := 300) (Ks := 100) (by kernel_rfl) (by kernel_rfl)
theorem nx54 : Pure Tryz.prog (fun _ => none) 203 [.g (.string longS), .g (.int .i64 (116))] (.ret (.tup [(.agg [(.g (.int .i64 (7))), (.g (.string ⟨#[123]⟩)), (.g (.int .i64 (0)))]), (.g (.int .i64 (117)))])) := evF_pureK prOk idxO_ok (pol := pol18) (K := 100000) (n := 300) (Ks := 100) (by kernel_rfl) (by kernel_rfl)
theorem nx55 : Pure Tryz.prog (fun _ => none) 203 [.g (.string longS), .g (.int .i64 (117))] (.ret (.tup [(.agg [(.g (.int .i64 (7))), (.g (.string ⟨#[125]⟩)), (.g (.int .i64 (0)))]), (.g (.int .i64 (118)))])) := evF_pureK prOk idxO_ok (pol := pol18) (K := 100000) (n := 300) (Ks := 100) (by kernel_rfl) (by kernel_rfl)
theorem nx56 : Pure Tryz.prog (fun _ => none) 203 [.g (.string longS), .g (.int .i64 (118))] (.ret (.tup [(.agg [(.g (.int .i64 (3))), (.g (.string ⟨#[102, 111, 110, 116, 45, 102, 97, 99, 101]⟩)), (.g (.int .i64 (0)))]), (.g (.int .i64 (128)))])) := evF_pureK prOk idxO_ok (pol := pol18) (K := 100000) (n := 300) (Ks := 100) (by kernel_rfl) (by kernel_rfl)
theorem nx57 : Pure Tryz.prog (fun _ => none) 203 [.g (.string longS), .g (.int .i64 (128))] (.ret (.tup [(.agg [(.g (.int .i64 (7))), (.g (.string ⟨#[123]⟩)), (.g (.int .i64 (0)))]), (.g (.int .i64 (129)))])) := evF_pureK prOk idxO_ok (pol := pol18) (K := 100000) (n := 300) (Ks := 100) (by kernel_rfl) (by kernel_rfl)
theorem nx58 : Pure Tryz.prog (fun _ => none) 203 [.g (.string longS), .g (.int .i64 (129))] (.ret (.tup [(.agg [(.g (.int .i64 (1))), (.g (.string ⟨#[102, 111, 110, 116, 45, 102, 97, 109, 105, 108, 121]⟩)), (.g (.int .i64 (0)))]), (.g (.int .i64 (140)))])) := evF_pureK prOk idxO_ok (pol := pol18) (K := 100000) (n := 300) (Ks := 100) (by kernel_rfl) (by kernel_rfl)
theorem nx59 : Pure Tryz.prog (fun _ => none) 203 [.g (.string longS), .g (.int .i64 (140))] (.ret (.tup [(.agg [(.g (.int .i64 (7))), (.g (.string ⟨#[58]⟩)), (.g (.int .i64 (0)))]), (.g (.int .i64 (141)))])) := evF_pureK prOk idxO_ok (pol := pol18) (K := 100000) (n := 300) (Ks := 100) (by kernel_rfl) (by kernel_rfl)
theorem nx60 : Pure Tryz.prog (fun _ => none) 203 [.g (.string longS), .g (.int .i64 (141))] (.ret (.tup [(.agg [(.g (.int .i64 (6))), (.g (.string ⟨#[70]⟩)), (.g (.int .i64 (39)))]), (.g (.int .i64 (144)))])) := evF_pureK prOk idxO_ok (pol := pol18) (K := 100000) (n := 300) (Ks := 100) (by kernel_rfl) (by kernel_rfl)
theorem nx61 : Pure Tryz.prog (fun _ => none) 203 [.g (.string longS), .g (.int .i64 (144))] (.ret (.tup [(.agg [(.g (.int .i64 (7))), (.g (.string ⟨#[125]⟩)), (.g (.int .i64 (0)))]), (.g (.int .i64 (145)))])) := evF_pureK prOk idxO_ok (pol := pol18) (K := 100000) (n := 300) (Ks := 100) (by kernel_rfl) (by kernel_rfl)
theorem nx62 : Pure Tryz.prog (fun _ => none) 203 [.g (.string longS), .g (.int .i64 (145))] (.ret (.tup [(.agg [(.g (.int .i64 (3))), (.g (.string ⟨#[109, 101, 100, 105, 97]⟩)), (.g (.int .i64 (0)))]), (.g (.int .i64 (151)))])) := evF_pureK prOk idxO_ok (pol := pol18) (K := 100000) (n := 300) (Ks := 100) (by kernel_rfl) (by kernel_rfl)
theorem nx63 : Pure Tryz.prog (fun _ => none) 203 [.g (.string longS), .g (.int .i64 (151))] (.ret (.tup [(.agg [(.g (.int .i64 (8))), (.g (.string ⟨#[10]⟩)), (.g (.int .i64 (0)))]), (.g (.int .i64 (152)))])) := evF_pureK prOk idxO_ok (pol := pol18) (K := 100000) (n := 300) (Ks := 100) (by kernel_rfl) (by kernel_rfl)
theorem nx64 : Pure Tryz.prog (fun _ => none) 203 [.g (.string longS), .g (.int .i64 (152))] (.ret (.tup [(.agg [(.g (.int .i64 (7))), (.g (.string ⟨#[40]⟩)), (.g (.int .i64 (0)))]), (.g (.int .i64 (153)))])) := evF_pureK prOk idxO_ok (pol := pol18) (K := 100000) (n := 300) (Ks := 100) (by kernel_rfl) (by kernel_rfl)
theorem nx65 : Pure Tryz.prog (fun _ => none) 203 [.g (.string longS), .g (.int .i64 (153))] (.ret (.tup [(.agg [(.g (.int .i64 (1))), (.g (.string ⟨#[109, 105, 110, 45, 119, 105, 100, 116, 104]⟩)), (.g (.int .i64 (0)))]), (.g (.int .i64 (162)))])) := evF_pureK prOk idxO_ok (pol := pol18) (K := 100000) (n := 300) (Ks := 100) (by kernel_rfl) (by kernel_rfl)
theorem nx66 : Pure Tryz.prog (fun _ => none) 203 [.g (.string longS), .g (.int .i64 (162))] (.ret (.tup [(.agg [(.g (.int .i64 (7))), (.g (.string ⟨#[58]⟩)), (.g (.int .i64 (0)))]), (.g (.int .i64 (163)))])) := evF_pureK prOk idxO_ok (pol := pol18) (K := 100000) (n := 300) (Ks := 100) (by kernel_rfl) (by kernel_rfl)
theorem nx67 : Pure Tryz.prog (fun _ => none) 203 [.g (.string longS), .g (.int .i64 (163))] (.ret (.tup [(.agg [(.g (.int .i64 (5))), (.g (.string ⟨#[112, 120]⟩)), (.g (.int .i64 (1)))]), (.g (.int .i64 (166)))])) := evF_pureK prOk idxO_ok (pol := pol18) (K := 100000) (n := 300) (Ks := 100) (by kernel_rfl) (by kernel_rfl)
theorem nx68 : Pure Tryz.prog (fun _ => none) 203 [.g (.string longS), .g (.int .i64 (166))] (.ret (.tup [(.agg [(.g (.int .i64 (7))), (.g (.string ⟨#[41]⟩)), (.g (.int .i64 (0)))]), (.g (.int .i64 (167)))])) := evF_pureK prOk idxO_ok (pol := pol18) (K := 100000) (n := 300) (Ks := 100) (by kernel_rfl) (by kernel_rfl)
theorem nx69 : Pure Tryz.prog (fun _ => none) 203 [.g (.string longS), .g (.int .i64 (167))] (.ret (.tup [(.agg [(.g (.int .i64 (7))), (.g (.string ⟨#[123]⟩)), (.g (.int .i64 (0)))]), (.g (.int .i64 (168)))])) := evF_pureK prOk idxO_ok (pol := pol18) (K := 100000) (n := 300) (Ks := 100) (by kernel_rfl) (by kernel_rfl)
theorem nx70 : Pure Tryz.prog (fun _ => none) 203 [.g (.string longS), .g (.int .i64 (168))] (.ret (.tup [(.agg [(.g (.int .i64 (1))), (.g (.string ⟨#[114]⟩)), (.g (.int .i64 (0)))]), (.g (.int .i64 (169)))])) := evF_pureK prOk idxO_ok (pol := pol18) (K := 100000) (n := 300) (Ks := 100) (by kernel_rfl) (by kernel_rfl)
theorem nx71 : Pure Tryz.prog (fun _ => none) 203 [.g (.string longS), .g (.int .i64 (169))] (.ret (.tup [(.agg [(.g (.int .i64 (7))), (.g (.string ⟨#[123]⟩)), (.g (.int .i64 (0)))]), (.g (.int .i64 (170)))])) := evF_pureK prOk idxO_ok (pol := pol18) (K := 100000) (n := 300) (Ks := 100) (by kernel_rfl) (by kernel_rfl)
theorem nx72 : Pure Tryz.prog (fun _ => none) 203 [.g (.string longS), .g (.int .i64 (170))] (.ret (.tup [(.agg [(.g (.int .i64 (1))), (.g (.string ⟨#[45, 45, 100]⟩)), (.g (.int .i64 (0)))]), (.g (.int .i64 (173)))])) := evF_pureK prOk idxO_ok (pol := pol18) (K := 100000) (n := 300) (Ks := 100) (by kernel_rfl) (by kernel_rfl)
theorem nx73 : Pure Tryz.prog (fun _ => none) 203 [.g (.string longS), .g (.int .i64 (173))] (.ret (.tup [(.agg [(.g (.int .i64 (7))), (.g (.string ⟨#[58]⟩)), (.g (.int .i64 (0)))]), (.g (.int .i64 (174)))])) := evF_pureK prOk idxO_ok (pol := pol18) (K := 100000) (n := 300) (Ks := 100) (by kernel_rfl) (by kernel_rfl)
theorem nx74 : Pure Tryz.prog (fun _ => none) 203 [.g (.string longS), .g (.int .i64 (174))] (.ret (.tup [(.agg [(.g (.int .i64 (1))), (.g (.string ⟨#[109]⟩)), (.g (.int .i64 (0)))]), (.g (.int .i64 (175)))])) := evF_pureK prOk idxO_ok (pol := pol18) (K := 100000) (n := 300) (Ks := 100) (by kernel_rfl) (by kernel_rfl)
theorem nx75 : Pure Tryz.prog (fun _ => none) 203 [.g (.string longS), .g (.int .i64 (175))] (.ret (.tup [(.agg [(.g (.int .i64 (7))), (.g (.string ⟨#[59]⟩)), (.g (.int .i64 (0)))]), (.g (.int .i64 (176)))])) := evF_pureK prOk idxO_ok (pol := pol18) (K := 100000) (n := 300) (Ks := 100) (by kernel_rfl) (by kernel_rfl)
theorem nx76 : Pure Tryz.prog (fun _ => none) 203 [.g (.string longS), .g (.int .i64 (176))] (.ret (.tup [(.agg [(.g (.int .i64 (1))), (.g (.string ⟨#[45, 45, 122]⟩)), (.g (.int .i64 (0)))]), (.g (.int .i64 (179)))])) := evF_pureK prOk idxO_ok (pol := pol18) (K := 100000) (n := 300) (Ks := 100) (by kernel_rfl) (by kernel_rfl)
theorem nx77 : Pure Tryz.prog (fun _ => none) 203 [.g (.string longS), .g (.int .i64 (179))] (.ret (.tup [(.agg [(.g (.int .i64 (7))), (.g (.string ⟨#[58]⟩)), (.g (.int .i64 (0)))]), (.g (.int .i64 (180)))])) := evF_pureK prOk idxO_ok (pol := pol18) (K := 100000) (n := 300) (Ks := 100) (by kernel_rfl) (by kernel_rfl)
theorem nx78 : Pure Tryz.prog (fun _ => none) 203 [.g (.string longS), .g (.int .i64 (180))] (.ret (.tup [(.agg [(.g (.int .i64 (1))), (.g (.string ⟨#[121]⟩)), (.g (.int .i64 (0)))]), (.g (.int .i64 (181)))])) := evF_pureK prOk idxO_ok (pol := pol18) (K := 100000) (n := 300) (Ks := 100) (by kernel_rfl) (by kernel_rfl)
theorem nx79 : Pure Tryz.prog (fun _ => none) 203 [.g (.string longS), .g (.int .i64 (181))] (.ret (.tup [(.agg [(.g (.int .i64 (7))), (.g (.string ⟨#[125]⟩)), (.g (.int .i64 (0)))]), (.g (.int .i64 (182)))])) := evF_pureK prOk idxO_ok (pol := pol18) (K := 100000) (n := 300) (Ks := 100) (by kernel_rfl) (by kernel_rfl)
theorem nx80 : Pure Tryz.prog (fun _ => none) 203 [.g (.string longS), .g (.int .i64 (182))] (.ret (.tup [(.agg [(.g (.int .i64 (7))), (.g (.string ⟨#[125]⟩)), (.g (.int .i64 (0)))]), (.g (.int .i64 (183)))])) := evF_pureK prOk idxO_ok (pol := pol18) (K := 100000) (n := 300) (Ks := 100) (by kernel_rfl) (by kernel_rfl)
def nextT : List (Int × AV) := [
 ((0), (.tup [(.agg [(.g (.int .i64 (1))), (.g (.string ⟨#[112]⟩)), (.g (.int .i64 (0)))]), (.g (.int .i64 (1)))])),
 ((1), (.tup [(.agg [(.g (.int .i64 (7))), (.g (.string ⟨#[123]⟩)), (.g (.int .i64 (0)))]), (.g (.int .i64 (2)))])),
 ((2), (.tup [(.agg [(.g (.int .i64 (1))), (.g (.string ⟨#[99, 111, 108, 111, 114]⟩)), (.g (.int .i64 (0)))]), (.g (.int .i64 (7)))])),
 ((7), (.tup [(.agg [(.g (.int .i64 (7))), (.g (.string ⟨#[58]⟩)), (.g (.int .i64 (0)))]), (.g (.int .i64 (8)))])),
 ((8), (.tup [(.agg [(.g (.int .i64 (2))), (.g (.string ⟨#[118, 97, 114]⟩)), (.g (.int .i64 (0)))]), (.g (.int .i64 (12)))])),
 ((12), (.tup [(.agg [(.g (.int .i64 (1))), (.g (.string ⟨#[45, 45, 97]⟩)), (.g (.int .i64 (0)))]), (.g (.int .i64 (15)))])),
 ((15), (.tup [(.agg [(.g (.int .i64 (7))), (.g (.string ⟨#[41]⟩)), (.g (.int .i64 (0)))]), (.g (.int .i64 (16)))])),
 ((16), (.tup [(.agg [(.g (.int .i64 (7))), (.g (.string ⟨#[59]⟩)), (.g (.int .i64 (0)))]), (.g (.int .i64 (17)))])),
 ((17), (.tup [(.agg [(.g (.int .i64 (1))), (.g (.string ⟨#[97, 110, 105, 109, 97, 116, 105, 111, 110]⟩)), (.g (.int .i64 (0)))]), (.g (.int .i64 (26)))])),
 ((26), (.tup [(.agg [(.g (.int .i64 (7))), (.g (.string ⟨#[58]⟩)), (.g (.int .i64 (0)))]), (.g (.int .i64 (27)))])),
 ((27), (.tup [(.agg [(.g (.int .i64 (1))), (.g (.string ⟨#[107]⟩)), (.g (.int .i64 (0)))]), (.g (.int .i64 (28)))])),
 ((28), (.tup [(.agg [(.g (.int .i64 (8))), (.g (.string ⟨#[10]⟩)), (.g (.int .i64 (0)))]), (.g (.int .i64 (29)))])),
 ((29), (.tup [(.agg [(.g (.int .i64 (5))), (.g (.string ⟨#[115]⟩)), (.g (.int .i64 (1)))]), (.g (.int .i64 (31)))])),
 ((31), (.tup [(.agg [(.g (.int .i64 (7))), (.g (.string ⟨#[125]⟩)), (.g (.int .i64 (0)))]), (.g (.int .i64 (32)))])),
 ((32), (.tup [(.agg [(.g (.int .i64 (3))), (.g (.string ⟨#[108, 97, 121, 101, 114]⟩)), (.g (.int .i64 (0)))]), (.g (.int .i64 (38)))])),
 ((38), (.tup [(.agg [(.g (.int .i64 (8))), (.g (.string ⟨#[10]⟩)), (.g (.int .i64 (0)))]), (.g (.int .i64 (39)))])),
 ((39), (.tup [(.agg [(.g (.int .i64 (1))), (.g (.string ⟨#[108]⟩)), (.g (.int .i64 (0)))]), (.g (.int .i64 (40)))])),
 ((40), (.tup [(.agg [(.g (.int .i64 (7))), (.g (.string ⟨#[123]⟩)), (.g (.int .i64 (0)))]), (.g (.int .i64 (41)))])),
 ((41), (.tup [(.agg [(.g (.int .i64 (1))), (.g (.string ⟨#[113]⟩)), (.g (.int .i64 (0)))]), (.g (.int .i64 (42)))])),
 ((42), (.tup [(.agg [(.g (.int .i64 (7))), (.g (.string ⟨#[123]⟩)), (.g (.int .i64 (0)))]), (.g (.int .i64 (43)))])),
 ((43), (.tup [(.agg [(.g (.int .i64 (1))), (.g (.string ⟨#[45, 45, 99]⟩)), (.g (.int .i64 (0)))]), (.g (.int .i64 (46)))])),
 ((46), (.tup [(.agg [(.g (.int .i64 (7))), (.g (.string ⟨#[58]⟩)), (.g (.int .i64 (0)))]), (.g (.int .i64 (47)))])),
 ((47), (.tup [(.agg [(.g (.int .i64 (5))), (.g (.string ⟨#[]⟩)), (.g (.int .i64 (1)))]), (.g (.int .i64 (48)))])),
 ((48), (.tup [(.agg [(.g (.int .i64 (7))), (.g (.string ⟨#[125]⟩)), (.g (.int .i64 (0)))]), (.g (.int .i64 (49)))])),
 ((49), (.tup [(.agg [(.g (.int .i64 (7))), (.g (.string ⟨#[125]⟩)), (.g (.int .i64 (0)))]), (.g (.int .i64 (50)))])),
 ((50), (.tup [(.agg [(.g (.int .i64 (1))), (.g (.string ⟨#[112]⟩)), (.g (.int .i64 (0)))]), (.g (.int .i64 (51)))])),
 ((51), (.tup [(.agg [(.g (.int .i64 (7))), (.g (.string ⟨#[123]⟩)), (.g (.int .i64 (0)))]), (.g (.int .i64 (52)))])),
 ((52), (.tup [(.agg [(.g (.int .i64 (1))), (.g (.string ⟨#[45, 45, 97]⟩)), (.g (.int .i64 (0)))]), (.g (.int .i64 (55)))])),
 ((55), (.tup [(.agg [(.g (.int .i64 (7))), (.g (.string ⟨#[58]⟩)), (.g (.int .i64 (0)))]), (.g (.int .i64 (56)))])),
 ((56), (.tup [(.agg [(.g (.int .i64 (2))), (.g (.string ⟨#[118, 97, 114]⟩)), (.g (.int .i64 (0)))]), (.g (.int .i64 (60)))])),
 ((60), (.tup [(.agg [(.g (.int .i64 (1))), (.g (.string ⟨#[45, 45, 98]⟩)), (.g (.int .i64 (0)))]), (.g (.int .i64 (63)))])),
 ((63), (.tup [(.agg [(.g (.int .i64 (7))), (.g (.string ⟨#[44]⟩)), (.g (.int .i64 (0)))]), (.g (.int .i64 (64)))])),
 ((64), (.tup [(.agg [(.g (.int .i64 (2))), (.g (.string ⟨#[118, 97, 114]⟩)), (.g (.int .i64 (0)))]), (.g (.int .i64 (68)))])),
 ((68), (.tup [(.agg [(.g (.int .i64 (1))), (.g (.string ⟨#[45, 45, 100]⟩)), (.g (.int .i64 (0)))]), (.g (.int .i64 (71)))])),
 ((71), (.tup [(.agg [(.g (.int .i64 (7))), (.g (.string ⟨#[41]⟩)), (.g (.int .i64 (0)))]), (.g (.int .i64 (72)))])),
 ((72), (.tup [(.agg [(.g (.int .i64 (7))), (.g (.string ⟨#[41]⟩)), (.g (.int .i64 (0)))]), (.g (.int .i64 (73)))])),
 ((73), (.tup [(.agg [(.g (.int .i64 (7))), (.g (.string ⟨#[59]⟩)), (.g (.int .i64 (0)))]), (.g (.int .i64 (74)))])),
 ((74), (.tup [(.agg [(.g (.int .i64 (1))), (.g (.string ⟨#[45, 45, 99]⟩)), (.g (.int .i64 (0)))]), (.g (.int .i64 (77)))])),
 ((77), (.tup [(.agg [(.g (.int .i64 (7))), (.g (.string ⟨#[58]⟩)), (.g (.int .i64 (0)))]), (.g (.int .i64 (78)))])),
 ((78), (.tup [(.agg [(.g (.int .i64 (5))), (.g (.string ⟨#[]⟩)), (.g (.int .i64 (2)))]), (.g (.int .i64 (79)))])),
 ((79), (.tup [(.agg [(.g (.int .i64 (7))), (.g (.string ⟨#[125]⟩)), (.g (.int .i64 (0)))]), (.g (.int .i64 (80)))])),
 ((80), (.tup [(.agg [(.g (.int .i64 (3))), (.g (.string ⟨#[107, 101, 121, 102, 114, 97, 109, 101, 115]⟩)), (.g (.int .i64 (0)))]), (.g (.int .i64 (90)))])),
 ((90), (.tup [(.agg [(.g (.int .i64 (8))), (.g (.string ⟨#[10]⟩)), (.g (.int .i64 (0)))]), (.g (.int .i64 (91)))])),
 ((91), (.tup [(.agg [(.g (.int .i64 (1))), (.g (.string ⟨#[107]⟩)), (.g (.int .i64 (0)))]), (.g (.int .i64 (92)))])),
 ((92), (.tup [(.agg [(.g (.int .i64 (7))), (.g (.string ⟨#[123]⟩)), (.g (.int .i64 (0)))]), (.g (.int .i64 (93)))])),
 ((93), (.tup [(.agg [(.g (.int .i64 (1))), (.g (.string ⟨#[120]⟩)), (.g (.int .i64 (0)))]), (.g (.int .i64 (94)))])),
 ((94), (.tup [(.agg [(.g (.int .i64 (7))), (.g (.string ⟨#[58]⟩)), (.g (.int .i64 (0)))]), (.g (.int .i64 (95)))])),
 ((95), (.tup [(.agg [(.g (.int .i64 (2))), (.g (.string ⟨#[118, 97, 114]⟩)), (.g (.int .i64 (0)))]), (.g (.int .i64 (99)))])),
 ((99), (.tup [(.agg [(.g (.int .i64 (1))), (.g (.string ⟨#[45, 45, 101]⟩)), (.g (.int .i64 (0)))]), (.g (.int .i64 (102)))])),
 ((102), (.tup [(.agg [(.g (.int .i64 (7))), (.g (.string ⟨#[41]⟩)), (.g (.int .i64 (0)))]), (.g (.int .i64 (103)))])),
 ((103), (.tup [(.agg [(.g (.int .i64 (7))), (.g (.string ⟨#[125]⟩)), (.g (.int .i64 (0)))]), (.g (.int .i64 (104)))])),
 ((104), (.tup [(.agg [(.g (.int .i64 (3))), (.g (.string ⟨#[107, 101, 121, 102, 114, 97, 109, 101, 115]⟩)), (.g (.int .i64 (0)))]), (.g (.int .i64 (114)))])),
 ((114), (.tup [(.agg [(.g (.int .i64 (8))), (.g (.string ⟨#[10]⟩)), (.g (.int .i64 (0)))]), (.g (.int .i64 (115)))])),
 ((115), (.tup [(.agg [(.g (.int .i64 (1))), (.g (.string ⟨#[109]⟩)), (.g (.int .i64 (0)))]), (.g (.int .i64 (116)))])),
 ((116), (.tup [(.agg [(.g (.int .i64 (7))), (.g (.string ⟨#[123]⟩)), (.g (.int .i64 (0)))]), (.g (.int .i64 (117)))])),
 ((117), (.tup [(.agg [(.g (.int .i64 (7))), (.g (.string ⟨#[125]⟩)), (.g (.int .i64 (0)))]), (.g (.int .i64 (118)))])),
 ((118), (.tup [(.agg [(.g (.int .i64 (3))), (.g (.string ⟨#[102, 111, 110, 116, 45, 102, 97, 99, 101]⟩)), (.g (.int .i64 (0)))]), (.g (.int .i64 (128)))])),
 ((128), (.tup [(.agg [(.g (.int .i64 (7))), (.g (.string ⟨#[123]⟩)), (.g (.int .i64 (0)))]), (.g (.int .i64 (129)))])),
 ((129), (.tup [(.agg [(.g (.int .i64 (1))), (.g (.string ⟨#[102, 111, 110, 116, 45, 102, 97, 109, 105, 108, 121]⟩)), (.g (.int .i64 (0)))]), (.g (.int .i64 (140)))])),
 ((140), (.tup [(.agg [(.g (.int .i64 (7))), (.g (.string ⟨#[58]⟩)), (.g (.int .i64 (0)))]), (.g (.int .i64 (141)))])),
 ((141), (.tup [(.agg [(.g (.int .i64 (6))), (.g (.string ⟨#[70]⟩)), (.g (.int .i64 (39)))]), (.g (.int .i64 (144)))])),
 ((144), (.tup [(.agg [(.g (.int .i64 (7))), (.g (.string ⟨#[125]⟩)), (.g (.int .i64 (0)))]), (.g (.int .i64 (145)))])),
 ((145), (.tup [(.agg [(.g (.int .i64 (3))), (.g (.string ⟨#[109, 101, 100, 105, 97]⟩)), (.g (.int .i64 (0)))]), (.g (.int .i64 (151)))])),
 ((151), (.tup [(.agg [(.g (.int .i64 (8))), (.g (.string ⟨#[10]⟩)), (.g (.int .i64 (0)))]), (.g (.int .i64 (152)))])),
 ((152), (.tup [(.agg [(.g (.int .i64 (7))), (.g (.string ⟨#[40]⟩)), (.g (.int .i64 (0)))]), (.g (.int .i64 (153)))])),
 ((153), (.tup [(.agg [(.g (.int .i64 (1))), (.g (.string ⟨#[109, 105, 110, 45, 119, 105, 100, 116, 104]⟩)), (.g (.int .i64 (0)))]), (.g (.int .i64 (162)))])),
 ((162), (.tup [(.agg [(.g (.int .i64 (7))), (.g (.string ⟨#[58]⟩)), (.g (.int .i64 (0)))]), (.g (.int .i64 (163)))])),
 ((163), (.tup [(.agg [(.g (.int .i64 (5))), (.g (.string ⟨#[112, 120]⟩)), (.g (.int .i64 (1)))]), (.g (.int .i64 (166)))])),
 ((166), (.tup [(.agg [(.g (.int .i64 (7))), (.g (.string ⟨#[41]⟩)), (.g (.int .i64 (0)))]), (.g (.int .i64 (167)))])),
 ((167), (.tup [(.agg [(.g (.int .i64 (7))), (.g (.string ⟨#[123]⟩)), (.g (.int .i64 (0)))]), (.g (.int .i64 (168)))])),
 ((168), (.tup [(.agg [(.g (.int .i64 (1))), (.g (.string ⟨#[114]⟩)), (.g (.int .i64 (0)))]), (.g (.int .i64 (169)))])),
 ((169), (.tup [(.agg [(.g (.int .i64 (7))), (.g (.string ⟨#[123]⟩)), (.g (.int .i64 (0)))]), (.g (.int .i64 (170)))])),
 ((170), (.tup [(.agg [(.g (.int .i64 (1))), (.g (.string ⟨#[45, 45, 100]⟩)), (.g (.int .i64 (0)))]), (.g (.int .i64 (173)))])),
 ((173), (.tup [(.agg [(.g (.int .i64 (7))), (.g (.string ⟨#[58]⟩)), (.g (.int .i64 (0)))]), (.g (.int .i64 (174)))])),
 ((174), (.tup [(.agg [(.g (.int .i64 (1))), (.g (.string ⟨#[109]⟩)), (.g (.int .i64 (0)))]), (.g (.int .i64 (175)))])),
 ((175), (.tup [(.agg [(.g (.int .i64 (7))), (.g (.string ⟨#[59]⟩)), (.g (.int .i64 (0)))]), (.g (.int .i64 (176)))])),
 ((176), (.tup [(.agg [(.g (.int .i64 (1))), (.g (.string ⟨#[45, 45, 122]⟩)), (.g (.int .i64 (0)))]), (.g (.int .i64 (179)))])),
 ((179), (.tup [(.agg [(.g (.int .i64 (7))), (.g (.string ⟨#[58]⟩)), (.g (.int .i64 (0)))]), (.g (.int .i64 (180)))])),
 ((180), (.tup [(.agg [(.g (.int .i64 (1))), (.g (.string ⟨#[121]⟩)), (.g (.int .i64 (0)))]), (.g (.int .i64 (181)))])),
 ((181), (.tup [(.agg [(.g (.int .i64 (7))), (.g (.string ⟨#[125]⟩)), (.g (.int .i64 (0)))]), (.g (.int .i64 (182)))])),
 ((182), (.tup [(.agg [(.g (.int .i64 (7))), (.g (.string ⟨#[125]⟩)), (.g (.int .i64 (0)))]), (.g (.int .i64 (183)))]))]
theorem nextT_all : ∀ e ∈ nextT, Pure Tryz.prog (fun _ => none) 203 [.g (.string longS), .g (.int .i64 e.1)] (.ret e.2) := by
 unfold nextT
 simp only [List.forall_mem_cons]
 exact ⟨nx0, nx1, nx2, nx3, nx4, nx5, nx6, nx7, nx8, nx9, nx10, nx11, nx12, nx13, nx14, nx15, nx16, nx17, nx18, nx19, nx20, nx21, nx22, nx23, nx24, nx25, nx26, nx27, nx28, nx29, nx30, nx31, nx32, nx33, nx34, nx35, nx36, nx37, nx38, nx39, nx40, nx41, nx42, nx43, nx44, nx45, nx46, nx47, nx48, nx49, nx50, nx51, nx52, nx53, nx54, nx55, nx56, nx57, nx58, nx59, nx60, nx61, nx62, nx63, nx64, nx65, nx66, nx67, nx68, nx69, nx70, nx71, nx72, nx73, nx74, nx75, nx76, nx77, nx78, nx79, nx80, by simp⟩
theorem nextT_ok : ChOk Tryz.prog (fun _ => none) (tabCH (tabI 203 longS nextT)) := tabI_ok nextT_all ⟨_, Tryz.func203, by kernel_rfl, by kernel_rfl⟩
end Go.Proofs.YtlnaihkombcbcaaGreat
end
noncomputable section
namespace Go.Proofs.YtlnaihkombcbcaaGreat
open Go.RowKit Go.Ev
def argA : AV := .g (.string longS)
def parseA : AV := (.tup [(.sl 7 8 [(.g (.int .i64 (1))), (.sl 1 2 [(.sl 1 2 [(.g (.int .i64 (0))), (.sl 1 6 [(.g (.int .i64 (2))), (.g (.string ⟨#[112]⟩)), (.g (.string ⟨#[]⟩)),
 (.g (.int .i64 (0))), (.g (.int .i64 (0))), (.g (.slice none 0 0))])]), (.g (.string ⟨#[]⟩))]), (.sl 2 3 [(.g (.string ⟨#[99, 111, 108, 111, 114]⟩)), (.sl 1 5 [(.g (.int .i64 (5))),
 (.g (.int .i64 (2))), (.g (.string ⟨#[118, 97, 114]⟩)), (.g (.int .i64 (0))), (.sl 1 5 [(.g (.int .i64 (1))), (.g (.int .i64 (1))), (.g (.string ⟨#[45, 45,
 97]⟩)), (.g (.int .i64 (0))), (.g (.slice none 0 0))])]), (.g (.bool false)), (.g (.string ⟨#[97, 110, 105, 109, 97, 116, 105, 111, 110]⟩)), (.sl 3 5 [(.g (.int .i64 (1))),
 (.g (.int .i64 (1))), (.g (.string ⟨#[107]⟩)), (.g (.int .i64 (0))), (.g (.slice none 0 0)), (.g (.int .i64 (1))), (.g (.int .i64 (8))), (.g (.string ⟨#[10]⟩)),
 (.g (.int .i64 (0))), (.g (.slice none 0 0)), (.g (.int .i64 (1))), (.g (.int .i64 (5))), (.g (.string ⟨#[115]⟩)), (.g (.int .i64 (1))), (.g (.slice none 0 0))]),
 (.g (.bool false))]), (.g (.slice none 0 0)), (.g (.int .i64 (0))), (.g (.int .i64 (0))), (.g (.slice none 0 0)), (.g (.slice none 0 0)), (.g (.int .i64 (3))),
 (.g (.slice none 0 0)), (.g (.slice none 0 0)), (.sl 1 1 [(.g (.string ⟨#[108]⟩))]), (.g (.int .i64 (0))), (.g (.int .i64 (0))), (.g (.slice none 0 0)),
 (.sl 1 8 [(.g (.int .i64 (1))), (.sl 1 2 [(.sl 1 2 [(.g (.int .i64 (0))), (.sl 1 6 [(.g (.int .i64 (2))), (.g (.string ⟨#[113]⟩)), (.g (.string ⟨#[]⟩)),
 (.g (.int .i64 (0))), (.g (.int .i64 (0))), (.g (.slice none 0 0))])]), (.g (.string ⟨#[]⟩))]), (.sl 1 3 [(.g (.string ⟨#[45, 45, 99]⟩)), (.sl 1 5 [(.g (.int .i64 (1))),
 (.g (.int .i64 (5))), (.g (.string ⟨#[]⟩)), (.g (.int .i64 (1))), (.g (.slice none 0 0))]), (.g (.bool false))]), (.g (.slice none 0 0)), (.g (.int .i64 (0))),
 (.g (.int .i64 (0))), (.g (.slice none 0 0)), (.g (.slice none 0 0))]), (.g (.int .i64 (1))), (.sl 1 2 [(.sl 1 2 [(.g (.int .i64 (0))), (.sl 1 6 [(.g (.int .i64 (2))),
 (.g (.string ⟨#[112]⟩)), (.g (.string ⟨#[]⟩)), (.g (.int .i64 (0))), (.g (.int .i64 (0))), (.g (.slice none 0 0))])]), (.g (.string ⟨#[]⟩))]), (.sl 2 3 [(.g (.string ⟨#[45,
 45, 97]⟩)), (.sl 1 5 [(.g (.int .i64 (5))), (.g (.int .i64 (2))), (.g (.string ⟨#[118, 97, 114]⟩)), (.g (.int .i64 (0))), (.sl 3 5 [(.g (.int .i64 (1))),
 (.g (.int .i64 (1))), (.g (.string ⟨#[45, 45, 98]⟩)), (.g (.int .i64 (0))), (.g (.slice none 0 0)), (.g (.int .i64 (1))), (.g (.int .i64 (7))), (.g (.string ⟨#[44]⟩)),
 (.g (.int .i64 (0))), (.g (.slice none 0 0)), (.g (.int .i64 (5))), (.g (.int .i64 (2))), (.g (.string ⟨#[118, 97, 114]⟩)), (.g (.int .i64 (0))), (.sl 1 5 [(.g (.int .i64 (1))),
 (.g (.int .i64 (1))), (.g (.string ⟨#[45, 45, 100]⟩)), (.g (.int .i64 (0))), (.g (.slice none 0 0))])])]), (.g (.bool false)), (.g (.string ⟨#[45, 45, 99]⟩)),
 (.sl 1 5 [(.g (.int .i64 (1))), (.g (.int .i64 (5))), (.g (.string ⟨#[]⟩)), (.g (.int .i64 (2))), (.g (.slice none 0 0))]), (.g (.bool false))]), (.g (.slice none 0 0)),
 (.g (.int .i64 (0))), (.g (.int .i64 (0))), (.g (.slice none 0 0)), (.g (.slice none 0 0)), (.g (.int .i64 (5))), (.g (.slice none 0 0)), (.g (.slice none 0 0)),
 (.sl 1 1 [(.g (.string ⟨#[107]⟩))]), (.g (.int .i64 (0))), (.g (.int .i64 (0))), (.sl 3 5 [(.g (.int .i64 (1))), (.g (.int .i64 (1))), (.g (.string ⟨#[120]⟩)),
 (.g (.int .i64 (0))), (.g (.slice none 0 0)), (.g (.int .i64 (1))), (.g (.int .i64 (7))), (.g (.string ⟨#[58]⟩)), (.g (.int .i64 (0))), (.g (.slice none 0 0)),
 (.g (.int .i64 (5))), (.g (.int .i64 (2))), (.g (.string ⟨#[118, 97, 114]⟩)), (.g (.int .i64 (0))), (.sl 1 5 [(.g (.int .i64 (1))), (.g (.int .i64 (1))),
 (.g (.string ⟨#[45, 45, 101]⟩)), (.g (.int .i64 (0))), (.g (.slice none 0 0))])]), (.g (.slice none 0 0)), (.g (.int .i64 (5))), (.g (.slice none 0 0)),
 (.g (.slice none 0 0)), (.sl 1 1 [(.g (.string ⟨#[109]⟩))]), (.g (.int .i64 (0))), (.g (.int .i64 (0))), (.sl 0 5 []), (.g (.slice none 0 0)), (.g (.int .i64 (6))),
 (.g (.slice none 0 0)), (.sl 1 3 [(.g (.string ⟨#[102, 111, 110, 116, 45, 102, 97, 109, 105, 108, 121]⟩)), (.sl 1 5 [(.g (.int .i64 (1))), (.g (.int .i64 (6))),
 (.g (.string ⟨#[70]⟩)), (.g (.int .i64 (39))), (.g (.slice none 0 0))]), (.g (.bool false))]), (.g (.slice none 0 0)), (.g (.int .i64 (0))), (.g (.int .i64 (0))),
 (.g (.slice none 0 0)), (.g (.slice none 0 0)), (.g (.int .i64 (2))), (.g (.slice none 0 0)), (.g (.slice none 0 0)), (.g (.slice none 0 0)), (.g (.int .i64 (1))),
 (.g (.int .i64 (-1))), (.g (.slice none 0 0)), (.sl 1 8 [(.g (.int .i64 (1))), (.sl 1 2 [(.sl 1 2 [(.g (.int .i64 (0))), (.sl 1 6 [(.g (.int .i64 (2))),
 (.g (.string ⟨#[114]⟩)), (.g (.string ⟨#[]⟩)), (.g (.int .i64 (0))), (.g (.int .i64 (0))), (.g (.slice none 0 0))])]), (.g (.string ⟨#[]⟩))]), (.sl 2 3 [(.g (.string ⟨#[45,
 45, 100]⟩)), (.sl 1 5 [(.g (.int .i64 (1))), (.g (.int .i64 (1))), (.g (.string ⟨#[109]⟩)), (.g (.int .i64 (0))), (.g (.slice none 0 0))]), (.g (.bool false)),
 (.g (.string ⟨#[45, 45, 122]⟩)), (.sl 1 5 [(.g (.int .i64 (1))), (.g (.int .i64 (1))), (.g (.string ⟨#[121]⟩)), (.g (.int .i64 (0))), (.g (.slice none 0 0))]),
 (.g (.bool false))]), (.g (.slice none 0 0)), (.g (.int .i64 (0))), (.g (.int .i64 (0))), (.g (.slice none 0 0)), (.g (.slice none 0 0))])]), (.g (.int .i64 (0)))])
def chA : CH := orCH (tabCH (tabI 203 longS nextT)) (tabCH idxO)
theorem parseA_ev : evF Tryz.prog (fun _ => none) chA pol18 100000 300 135 [argA] [] .e 0 = some (.ret parseA, .e, 0) := by kernel_rfl
theorem parseA_seal : sealV .e 1000 parseA = some parseA := by kernel_rfl
theorem parseA_pure : Pure Tryz.prog (fun _ => none) 135 [argA] (.ret parseA) := evF_pureK prOk (orCH_ok nextT_ok idxO_ok) parseA_ev parseA_seal
end Go.Proofs.YtlnaihkombcbcaaGreat
end
