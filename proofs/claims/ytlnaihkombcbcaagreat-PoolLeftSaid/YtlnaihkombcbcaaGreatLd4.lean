/- winnowinglaw18.fixed comes out true. -/
import Derived.Test.YtlnaihkombcbcaaGreatLd2
import Derived.Test.YtlnaihkombcbcaaGreatLd3
noncomputable section
namespace Go.Proofs.YtlnaihkombcbcaaGreat
open Go.RowKit Go.Ev
theorem tw0 : Pure Tryz.prog (fun _ => none) 179 [(.g (.string ⟨#[112, 123]⟩)), (.agg [(.g (.int .i64 (1))), (.g (.string ⟨#[112]⟩)), (.g (.int .i64 (0)))]), (.agg [(.g (.int .i64 (7))), (.g (.string ⟨#[123]⟩)),
 (.g (.int .i64 (0)))])] (.ret (.g (.bool true))) := evF_pure prOk idxO_ok (pol := pol18) (K := 100000) (n := 300) (by kernel_rfl) rfl
theorem tw1 : Pure Tryz.prog (fun _ => none) 179 [(.g (.string ⟨#[123, 99, 111, 108, 111, 114]⟩)), (.agg [(.g (.int .i64 (7))), (.g (.string ⟨#[123]⟩)), (.g (.int .i64 (0)))]), (.agg [(.g (.int .i64 (1))),
 (.g (.string ⟨#[99, 111, 108, 111, 114]⟩)), (.g (.int .i64 (0)))])] (.ret (.g (.bool true))) := evF_pure prOk idxO_ok (pol := pol18) (K := 100000) (n := 300) (by kernel_rfl) rfl
theorem tw2 : Pure Tryz.prog (fun _ => none) 179 [(.g (.string ⟨#[99, 111, 108, 111, 114, 58]⟩)), (.agg [(.g (.int .i64 (1))), (.g (.string ⟨#[99, 111, 108, 111, 114]⟩)), (.g (.int .i64 (0)))]), (.agg [(.g (.int .i64 (7))),
 (.g (.string ⟨#[58]⟩)), (.g (.int .i64 (0)))])] (.ret (.g (.bool true))) := evF_pure prOk idxO_ok (pol := pol18) (K := 100000) (n := 300) (by kernel_rfl) rfl
theorem tw3 : Pure Tryz.prog (fun _ => none) 179 [(.g (.string ⟨#[58, 118, 97, 114, 40]⟩)), (.agg [(.g (.int .i64 (7))), (.g (.string ⟨#[58]⟩)), (.g (.int .i64 (0)))]), (.agg [(.g (.int .i64 (2))), (.g (.string ⟨#[118,
 97, 114]⟩)), (.g (.int .i64 (0)))])] (.ret (.g (.bool true))) := evF_pure prOk idxO_ok (pol := pol18) (K := 100000) (n := 300) (by kernel_rfl) rfl
theorem tw4 : Pure Tryz.prog (fun _ => none) 179 [(.g (.string ⟨#[118, 97, 114, 40, 45, 45, 97]⟩)), (.agg [(.g (.int .i64 (2))), (.g (.string ⟨#[118, 97, 114]⟩)), (.g (.int .i64 (0)))]), (.agg [(.g (.int .i64 (1))),
 (.g (.string ⟨#[45, 45, 97]⟩)), (.g (.int .i64 (0)))])] (.ret (.g (.bool true))) := evF_pure prOk idxO_ok (pol := pol18) (K := 100000) (n := 300) (by kernel_rfl) rfl
theorem tw5 : Pure Tryz.prog (fun _ => none) 179 [(.g (.string ⟨#[45, 45, 97, 41]⟩)), (.agg [(.g (.int .i64 (1))), (.g (.string ⟨#[45, 45, 97]⟩)), (.g (.int .i64 (0)))]), (.agg [(.g (.int .i64 (7))), (.g (.string ⟨#[41]⟩)),
 (.g (.int .i64 (0)))])] (.ret (.g (.bool true))) := evF_pure prOk idxO_ok (pol := pol18) (K := 100000) (n := 300) (by kernel_rfl) rfl
theorem tw6 : Pure Tryz.prog (fun _ => none) 179 [(.g (.string ⟨#[41, 59]⟩)), (.agg [(.g (.int .i64 (7))), (.g (.string ⟨#[41]⟩)), (.g (.int .i64 (0)))]), (.agg [(.g (.int .i64 (7))), (.g (.string ⟨#[59]⟩)),
 (.g (.int .i64 (0)))])] (.ret (.g (.bool true))) := evF_pure prOk idxO_ok (pol := pol18) (K := 100000) (n := 300) (by kernel_rfl) rfl
theorem tw7 : Pure Tryz.prog (fun _ => none) 179 [(.g (.string ⟨#[59, 97, 110, 105, 109, 97, 116, 105, 111, 110]⟩)), (.agg [(.g (.int .i64 (7))), (.g (.string ⟨#[59]⟩)), (.g (.int .i64 (0)))]), (.agg [(.g (.int .i64 (1))),
 (.g (.string ⟨#[97, 110, 105, 109, 97, 116, 105, 111, 110]⟩)), (.g (.int .i64 (0)))])] (.ret (.g (.bool true))) := evF_pure prOk idxO_ok (pol := pol18) (K := 100000) (n := 300) (by kernel_rfl) rfl
theorem tw8 : Pure Tryz.prog (fun _ => none) 179 [(.g (.string ⟨#[97, 110, 105, 109, 97, 116, 105, 111, 110, 58]⟩)), (.agg [(.g (.int .i64 (1))), (.g (.string ⟨#[97, 110, 105, 109, 97, 116, 105, 111, 110]⟩)),
 (.g (.int .i64 (0)))]), (.agg [(.g (.int .i64 (7))), (.g (.string ⟨#[58]⟩)), (.g (.int .i64 (0)))])] (.ret (.g (.bool true))) := evF_pure prOk idxO_ok (pol := pol18) (K := 100000) (n := 300) (by kernel_rfl) rfl
theorem tw9 : Pure Tryz.prog (fun _ => none) 179 [(.g (.string ⟨#[58, 107]⟩)), (.agg [(.g (.int .i64 (7))), (.g (.string ⟨#[58]⟩)), (.g (.int .i64 (0)))]), (.agg [(.g (.int .i64 (1))), (.g (.string ⟨#[107]⟩)),
 (.g (.int .i64 (0)))])] (.ret (.g (.bool true))) := evF_pure prOk idxO_ok (pol := pol18) (K := 100000) (n := 300) (by kernel_rfl) rfl
theorem tw10 : Pure Tryz.prog (fun _ => none) 179 [(.g (.string ⟨#[107, 10]⟩)), (.agg [(.g (.int .i64 (1))), (.g (.string ⟨#[107]⟩)), (.g (.int .i64 (0)))]), (.agg [(.g (.int .i64 (8))), (.g (.string ⟨#[10]⟩)),
 (.g (.int .i64 (0)))])] (.ret (.g (.bool true))) := evF_pure prOk idxO_ok (pol := pol18) (K := 100000) (n := 300) (by kernel_rfl) rfl
theorem tw11 : Pure Tryz.prog (fun _ => none) 179 [(.g (.string ⟨#[10, 49, 115]⟩)), (.agg [(.g (.int .i64 (8))), (.g (.string ⟨#[10]⟩)), (.g (.int .i64 (0)))]), (.agg [(.g (.int .i64 (5))), (.g (.string ⟨#[115]⟩)),
 (.g (.int .i64 (1)))])] (.ret (.g (.bool true))) := evF_pure prOk idxO_ok (pol := pol18) (K := 100000) (n := 300) (by kernel_rfl) rfl
theorem tw12 : Pure Tryz.prog (fun _ => none) 179 [(.g (.string ⟨#[49, 115, 125]⟩)), (.agg [(.g (.int .i64 (5))), (.g (.string ⟨#[115]⟩)), (.g (.int .i64 (1)))]), (.agg [(.g (.int .i64 (7))), (.g (.string ⟨#[125]⟩)),
 (.g (.int .i64 (0)))])] (.ret (.g (.bool true))) := evF_pure prOk idxO_ok (pol := pol18) (K := 100000) (n := 300) (by kernel_rfl) rfl
theorem tw13 : Pure Tryz.prog (fun _ => none) 179 [(.g (.string ⟨#[125, 64, 108, 97, 121, 101, 114]⟩)), (.agg [(.g (.int .i64 (7))), (.g (.string ⟨#[125]⟩)), (.g (.int .i64 (0)))]), (.agg [(.g (.int .i64 (3))),
 (.g (.string ⟨#[108, 97, 121, 101, 114]⟩)), (.g (.int .i64 (0)))])] (.ret (.g (.bool true))) := evF_pure prOk idxO_ok (pol := pol18) (K := 100000) (n := 300) (by kernel_rfl) rfl
theorem tw14 : Pure Tryz.prog (fun _ => none) 179 [(.g (.string ⟨#[64, 108, 97, 121, 101, 114, 10]⟩)), (.agg [(.g (.int .i64 (3))), (.g (.string ⟨#[108, 97, 121, 101, 114]⟩)), (.g (.int .i64 (0)))]), (.agg [(.g (.int .i64 (8))),
 (.g (.string ⟨#[10]⟩)), (.g (.int .i64 (0)))])] (.ret (.g (.bool true))) := evF_pure prOk idxO_ok (pol := pol18) (K := 100000) (n := 300) (by kernel_rfl) rfl
theorem tw15 : Pure Tryz.prog (fun _ => none) 179 [(.g (.string ⟨#[10, 108]⟩)), (.agg [(.g (.int .i64 (8))), (.g (.string ⟨#[10]⟩)), (.g (.int .i64 (0)))]), (.agg [(.g (.int .i64 (1))), (.g (.string ⟨#[108]⟩)),
 (.g (.int .i64 (0)))])] (.ret (.g (.bool true))) := evF_pure prOk idxO_ok (pol := pol18) (K := 100000) (n := 300) (by kernel_rfl) rfl
theorem tw16 : Pure Tryz.prog (fun _ => none) 179 [(.g (.string ⟨#[108, 59]⟩)), (.agg [(.g (.int .i64 (1))), (.g (.string ⟨#[108]⟩)), (.g (.int .i64 (0)))]), (.agg [(.g (.int .i64 (7))), (.g (.string ⟨#[59]⟩)),
 (.g (.int .i64 (0)))])] (.ret (.g (.bool true))) := evF_pure prOk idxO_ok (pol := pol18) (K := 100000) (n := 300) (by kernel_rfl) rfl
theorem tw17 : Pure Tryz.prog (fun _ => none) 179 [(.g (.string ⟨#[59, 112]⟩)), (.agg [(.g (.int .i64 (7))), (.g (.string ⟨#[59]⟩)), (.g (.int .i64 (0)))]), (.agg [(.g (.int .i64 (1))), (.g (.string ⟨#[112]⟩)),
 (.g (.int .i64 (0)))])] (.ret (.g (.bool true))) := evF_pure prOk idxO_ok (pol := pol18) (K := 100000) (n := 300) (by kernel_rfl) rfl
theorem tw18 : Pure Tryz.prog (fun _ => none) 179 [(.g (.string ⟨#[123, 45, 45, 97]⟩)), (.agg [(.g (.int .i64 (7))), (.g (.string ⟨#[123]⟩)), (.g (.int .i64 (0)))]), (.agg [(.g (.int .i64 (1))), (.g (.string ⟨#[45,
 45, 97]⟩)), (.g (.int .i64 (0)))])] (.ret (.g (.bool true))) := evF_pure prOk idxO_ok (pol := pol18) (K := 100000) (n := 300) (by kernel_rfl) rfl
theorem tw19 : Pure Tryz.prog (fun _ => none) 179 [(.g (.string ⟨#[45, 45, 97, 58]⟩)), (.agg [(.g (.int .i64 (1))), (.g (.string ⟨#[45, 45, 97]⟩)), (.g (.int .i64 (0)))]), (.agg [(.g (.int .i64 (7))), (.g (.string ⟨#[58]⟩)),
 (.g (.int .i64 (0)))])] (.ret (.g (.bool true))) := evF_pure prOk idxO_ok (pol := pol18) (K := 100000) (n := 300) (by kernel_rfl) rfl
theorem tw20 : Pure Tryz.prog (fun _ => none) 179 [(.g (.string ⟨#[118, 97, 114, 40, 45, 45, 98]⟩)), (.agg [(.g (.int .i64 (2))), (.g (.string ⟨#[118, 97, 114]⟩)), (.g (.int .i64 (0)))]), (.agg [(.g (.int .i64 (1))),
 (.g (.string ⟨#[45, 45, 98]⟩)), (.g (.int .i64 (0)))])] (.ret (.g (.bool true))) := evF_pure prOk idxO_ok (pol := pol18) (K := 100000) (n := 300) (by kernel_rfl) rfl
theorem tw21 : Pure Tryz.prog (fun _ => none) 179 [(.g (.string ⟨#[45, 45, 98, 44]⟩)), (.agg [(.g (.int .i64 (1))), (.g (.string ⟨#[45, 45, 98]⟩)), (.g (.int .i64 (0)))]), (.agg [(.g (.int .i64 (7))), (.g (.string ⟨#[44]⟩)),
 (.g (.int .i64 (0)))])] (.ret (.g (.bool true))) := evF_pure prOk idxO_ok (pol := pol18) (K := 100000) (n := 300) (by kernel_rfl) rfl
theorem tw22 : Pure Tryz.prog (fun _ => none) 179 [(.g (.string ⟨#[44, 118, 97, 114, 40]⟩)), (.agg [(.g (.int .i64 (7))), (.g (.string ⟨#[44]⟩)), (.g (.int .i64 (0)))]), (.agg [(.g (.int .i64 (2))), (.g (.string ⟨#[118,
 97, 114]⟩)), (.g (.int .i64 (0)))])] (.ret (.g (.bool true))) := evF_pure prOk idxO_ok (pol := pol18) (K := 100000) (n := 300) (by kernel_rfl) rfl
theorem tw23 : Pure Tryz.prog (fun _ => none) 179 [(.g (.string ⟨#[118, 97, 114, 40, 45, 45, 100]⟩)), (.agg [(.g (.int .i64 (2))), (.g (.string ⟨#[118, 97, 114]⟩)), (.g (.int .i64 (0)))]), (.agg [(.g (.int .i64 (1))),
 (.g (.string ⟨#[45, 45, 100]⟩)), (.g (.int .i64 (0)))])] (.ret (.g (.bool true))) := evF_pure prOk idxO_ok (pol := pol18) (K := 100000) (n := 300) (by kernel_rfl) rfl
theorem tw24 : Pure Tryz.prog (fun _ => none) 179 [(.g (.string ⟨#[45, 45, 100, 41]⟩)), (.agg [(.g (.int .i64 (1))), (.g (.string ⟨#[45, 45, 100]⟩)), (.g (.int .i64 (0)))]), (.agg [(.g (.int .i64 (7))),
 (.g (.string ⟨#[41]⟩)), (.g (.int .i64 (0)))])] (.ret (.g (.bool true))) := evF_pure prOk idxO_ok (pol := pol18) (K := 100000) (n := 300) (by kernel_rfl) rfl
theorem tw25 : Pure Tryz.prog (fun _ => none) 179 [(.g (.string ⟨#[41, 41]⟩)), (.agg [(.g (.int .i64 (7))), (.g (.string ⟨#[41]⟩)), (.g (.int .i64 (0)))]), (.agg [(.g (.int .i64 (7))), (.g (.string ⟨#[41]⟩)),
 (.g (.int .i64 (0)))])] (.ret (.g (.bool true))) := evF_pure prOk idxO_ok (pol := pol18) (K := 100000) (n := 300) (by kernel_rfl) rfl
theorem tw26 : Pure Tryz.prog (fun _ => none) 179 [(.g (.string ⟨#[41, 125]⟩)), (.agg [(.g (.int .i64 (7))), (.g (.string ⟨#[41]⟩)), (.g (.int .i64 (0)))]), (.agg [(.g (.int .i64 (7))), (.g (.string ⟨#[125]⟩)),
 (.g (.int .i64 (0)))])] (.ret (.g (.bool true))) := evF_pure prOk idxO_ok (pol := pol18) (K := 100000) (n := 300) (by kernel_rfl) rfl
theorem tw27 : Pure Tryz.prog (fun _ => none) 179 [(.g (.string ⟨#[125, 64, 107, 101, 121, 102, 114, 97, 109, 101, 115]⟩)), (.agg [(.g (.int .i64 (7))), (.g (.string ⟨#[125]⟩)), (.g (.int .i64 (0)))]), (.agg [(.g (.int .i64 (3))),
 (.g (.string ⟨#[107, 101, 121, 102, 114, 97, 109, 101, 115]⟩)), (.g (.int .i64 (0)))])] (.ret (.g (.bool true))) := evF_pure prOk idxO_ok (pol := pol18) (K := 100000) (n := 300) (by kernel_rfl) rfl
theorem tw28 : Pure Tryz.prog (fun _ => none) 179 [(.g (.string ⟨#[64, 107, 101, 121, 102, 114, 97, 109, 101, 115, 10]⟩)), (.agg [(.g (.int .i64 (3))), (.g (.string ⟨#[107, 101, 121, 102, 114, 97, 109, 101,
 115]⟩)), (.g (.int .i64 (0)))]), (.agg [(.g (.int .i64 (8))), (.g (.string ⟨#[10]⟩)), (.g (.int .i64 (0)))])] (.ret (.g (.bool true))) := evF_pure prOk idxO_ok (pol := pol18) (K := 100000) (n := 300) (by kernel_rfl) rfl
theorem tw29 : Pure Tryz.prog (fun _ => none) 179 [(.g (.string ⟨#[10, 107]⟩)), (.agg [(.g (.int .i64 (8))), (.g (.string ⟨#[10]⟩)), (.g (.int .i64 (0)))]), (.agg [(.g (.int .i64 (1))), (.g (.string ⟨#[107]⟩)),
 (.g (.int .i64 (0)))])] (.ret (.g (.bool true))) := evF_pure prOk idxO_ok (pol := pol18) (K := 100000) (n := 300) (by kernel_rfl) rfl
theorem tw30 : Pure Tryz.prog (fun _ => none) 179 [(.g (.string ⟨#[107, 123]⟩)), (.agg [(.g (.int .i64 (1))), (.g (.string ⟨#[107]⟩)), (.g (.int .i64 (0)))]), (.agg [(.g (.int .i64 (7))), (.g (.string ⟨#[123]⟩)),
 (.g (.int .i64 (0)))])] (.ret (.g (.bool true))) := evF_pure prOk idxO_ok (pol := pol18) (K := 100000) (n := 300) (by kernel_rfl) rfl
theorem tw31 : Pure Tryz.prog (fun _ => none) 179 [(.g (.string ⟨#[123, 120]⟩)), (.agg [(.g (.int .i64 (7))), (.g (.string ⟨#[123]⟩)), (.g (.int .i64 (0)))]), (.agg [(.g (.int .i64 (1))), (.g (.string ⟨#[120]⟩)),
 (.g (.int .i64 (0)))])] (.ret (.g (.bool true))) := evF_pure prOk idxO_ok (pol := pol18) (K := 100000) (n := 300) (by kernel_rfl) rfl
theorem tw32 : Pure Tryz.prog (fun _ => none) 179 [(.g (.string ⟨#[120, 58]⟩)), (.agg [(.g (.int .i64 (1))), (.g (.string ⟨#[120]⟩)), (.g (.int .i64 (0)))]), (.agg [(.g (.int .i64 (7))), (.g (.string ⟨#[58]⟩)),
 (.g (.int .i64 (0)))])] (.ret (.g (.bool true))) := evF_pure prOk idxO_ok (pol := pol18) (K := 100000) (n := 300) (by kernel_rfl) rfl
theorem tw33 : Pure Tryz.prog (fun _ => none) 179 [(.g (.string ⟨#[118, 97, 114, 40, 45, 45, 101]⟩)), (.agg [(.g (.int .i64 (2))), (.g (.string ⟨#[118, 97, 114]⟩)), (.g (.int .i64 (0)))]), (.agg [(.g (.int .i64 (1))),
 (.g (.string ⟨#[45, 45, 101]⟩)), (.g (.int .i64 (0)))])] (.ret (.g (.bool true))) := evF_pure prOk idxO_ok (pol := pol18) (K := 100000) (n := 300) (by kernel_rfl) rfl
theorem tw34 : Pure Tryz.prog (fun _ => none) 179 [(.g (.string ⟨#[45, 45, 101, 41]⟩)), (.agg [(.g (.int .i64 (1))), (.g (.string ⟨#[45, 45, 101]⟩)), (.g (.int .i64 (0)))]), (.agg [(.g (.int .i64 (7))),
 (.g (.string ⟨#[41]⟩)), (.g (.int .i64 (0)))])] (.ret (.g (.bool true))) := evF_pure prOk idxO_ok (pol := pol18) (K := 100000) (n := 300) (by kernel_rfl) rfl
theorem tw35 : Pure Tryz.prog (fun _ => none) 179 [(.g (.string ⟨#[10, 109]⟩)), (.agg [(.g (.int .i64 (8))), (.g (.string ⟨#[10]⟩)), (.g (.int .i64 (0)))]), (.agg [(.g (.int .i64 (1))), (.g (.string ⟨#[109]⟩)),
 (.g (.int .i64 (0)))])] (.ret (.g (.bool true))) := evF_pure prOk idxO_ok (pol := pol18) (K := 100000) (n := 300) (by kernel_rfl) rfl
theorem tw36 : Pure Tryz.prog (fun _ => none) 179 [(.g (.string ⟨#[109, 123]⟩)), (.agg [(.g (.int .i64 (1))), (.g (.string ⟨#[109]⟩)), (.g (.int .i64 (0)))]), (.agg [(.g (.int .i64 (7))), (.g (.string ⟨#[123]⟩)),
 (.g (.int .i64 (0)))])] (.ret (.g (.bool true))) := evF_pure prOk idxO_ok (pol := pol18) (K := 100000) (n := 300) (by kernel_rfl) rfl
theorem tw37 : Pure Tryz.prog (fun _ => none) 179 [(.g (.string ⟨#[123, 125]⟩)), (.agg [(.g (.int .i64 (7))), (.g (.string ⟨#[123]⟩)), (.g (.int .i64 (0)))]), (.agg [(.g (.int .i64 (7))), (.g (.string ⟨#[125]⟩)),
 (.g (.int .i64 (0)))])] (.ret (.g (.bool true))) := evF_pure prOk idxO_ok (pol := pol18) (K := 100000) (n := 300) (by kernel_rfl) rfl
theorem tw38 : Pure Tryz.prog (fun _ => none) 179 [(.g (.string ⟨#[125, 64, 109, 101, 100, 105, 97]⟩)), (.agg [(.g (.int .i64 (7))), (.g (.string ⟨#[125]⟩)), (.g (.int .i64 (0)))]), (.agg [(.g (.int .i64 (3))),
 (.g (.string ⟨#[109, 101, 100, 105, 97]⟩)), (.g (.int .i64 (0)))])] (.ret (.g (.bool true))) := evF_pure prOk idxO_ok (pol := pol18) (K := 100000) (n := 300) (by kernel_rfl) rfl
theorem tw39 : Pure Tryz.prog (fun _ => none) 179 [(.g (.string ⟨#[64, 109, 101, 100, 105, 97, 10]⟩)), (.agg [(.g (.int .i64 (3))), (.g (.string ⟨#[109, 101, 100, 105, 97]⟩)), (.g (.int .i64 (0)))]), (.agg [(.g (.int .i64 (8))),
 (.g (.string ⟨#[10]⟩)), (.g (.int .i64 (0)))])] (.ret (.g (.bool true))) := evF_pure prOk idxO_ok (pol := pol18) (K := 100000) (n := 300) (by kernel_rfl) rfl
theorem tw40 : Pure Tryz.prog (fun _ => none) 179 [(.g (.string ⟨#[10, 40]⟩)), (.agg [(.g (.int .i64 (8))), (.g (.string ⟨#[10]⟩)), (.g (.int .i64 (0)))]), (.agg [(.g (.int .i64 (7))), (.g (.string ⟨#[40]⟩)),
 (.g (.int .i64 (0)))])] (.ret (.g (.bool true))) := evF_pure prOk idxO_ok (pol := pol18) (K := 100000) (n := 300) (by kernel_rfl) rfl
theorem tw41 : Pure Tryz.prog (fun _ => none) 179 [(.g (.string ⟨#[40, 109, 105, 110, 45, 119, 105, 100, 116, 104]⟩)), (.agg [(.g (.int .i64 (7))), (.g (.string ⟨#[40]⟩)), (.g (.int .i64 (0)))]), (.agg [(.g (.int .i64 (1))),
 (.g (.string ⟨#[109, 105, 110, 45, 119, 105, 100, 116, 104]⟩)), (.g (.int .i64 (0)))])] (.ret (.g (.bool true))) := evF_pure prOk idxO_ok (pol := pol18) (K := 100000) (n := 300) (by kernel_rfl) rfl
theorem tw42 : Pure Tryz.prog (fun _ => none) 179 [(.g (.string ⟨#[109, 105, 110, 45, 119, 105, 100, 116, 104, 58]⟩)), (.agg [(.g (.int .i64 (1))), (.g (.string ⟨#[109, 105, 110, 45, 119, 105, 100, 116,
 104]⟩)), (.g (.int .i64 (0)))]), (.agg [(.g (.int .i64 (7))), (.g (.string ⟨#[58]⟩)), (.g (.int .i64 (0)))])] (.ret (.g (.bool true))) := evF_pure prOk idxO_ok (pol := pol18) (K := 100000) (n := 300) (by kernel_rfl) rfl
theorem tw43 : Pure Tryz.prog (fun _ => none) 179 [(.g (.string ⟨#[58, 49, 112, 120]⟩)), (.agg [(.g (.int .i64 (7))), (.g (.string ⟨#[58]⟩)), (.g (.int .i64 (0)))]), (.agg [(.g (.int .i64 (5))), (.g (.string ⟨#[112,
 120]⟩)), (.g (.int .i64 (1)))])] (.ret (.g (.bool true))) := evF_pure prOk idxO_ok (pol := pol18) (K := 100000) (n := 300) (by kernel_rfl) rfl
theorem tw44 : Pure Tryz.prog (fun _ => none) 179 [(.g (.string ⟨#[49, 112, 120, 41]⟩)), (.agg [(.g (.int .i64 (5))), (.g (.string ⟨#[112, 120]⟩)), (.g (.int .i64 (1)))]), (.agg [(.g (.int .i64 (7))), (.g (.string ⟨#[41]⟩)),
 (.g (.int .i64 (0)))])] (.ret (.g (.bool true))) := evF_pure prOk idxO_ok (pol := pol18) (K := 100000) (n := 300) (by kernel_rfl) rfl
theorem tw45 : Pure Tryz.prog (fun _ => none) 179 [(.g (.string ⟨#[41, 123]⟩)), (.agg [(.g (.int .i64 (7))), (.g (.string ⟨#[41]⟩)), (.g (.int .i64 (0)))]), (.agg [(.g (.int .i64 (7))), (.g (.string ⟨#[123]⟩)),
 (.g (.int .i64 (0)))])] (.ret (.g (.bool true))) := evF_pure prOk idxO_ok (pol := pol18) (K := 100000) (n := 300) (by kernel_rfl) rfl
theorem tw46 : Pure Tryz.prog (fun _ => none) 179 [(.g (.string ⟨#[123, 114]⟩)), (.agg [(.g (.int .i64 (7))), (.g (.string ⟨#[123]⟩)), (.g (.int .i64 (0)))]), (.agg [(.g (.int .i64 (1))), (.g (.string ⟨#[114]⟩)),
 (.g (.int .i64 (0)))])] (.ret (.g (.bool true))) := evF_pure prOk idxO_ok (pol := pol18) (K := 100000) (n := 300) (by kernel_rfl) rfl
theorem tw47 : Pure Tryz.prog (fun _ => none) 179 [(.g (.string ⟨#[114, 123]⟩)), (.agg [(.g (.int .i64 (1))), (.g (.string ⟨#[114]⟩)), (.g (.int .i64 (0)))]), (.agg [(.g (.int .i64 (7))), (.g (.string ⟨#[123]⟩)),
 (.g (.int .i64 (0)))])] (.ret (.g (.bool true))) := evF_pure prOk idxO_ok (pol := pol18) (K := 100000) (n := 300) (by kernel_rfl) rfl
theorem tw48 : Pure Tryz.prog (fun _ => none) 179 [(.g (.string ⟨#[123, 45, 45, 100]⟩)), (.agg [(.g (.int .i64 (7))), (.g (.string ⟨#[123]⟩)), (.g (.int .i64 (0)))]), (.agg [(.g (.int .i64 (1))), (.g (.string ⟨#[45,
 45, 100]⟩)), (.g (.int .i64 (0)))])] (.ret (.g (.bool true))) := evF_pure prOk idxO_ok (pol := pol18) (K := 100000) (n := 300) (by kernel_rfl) rfl
theorem tw49 : Pure Tryz.prog (fun _ => none) 179 [(.g (.string ⟨#[45, 45, 100, 58]⟩)), (.agg [(.g (.int .i64 (1))), (.g (.string ⟨#[45, 45, 100]⟩)), (.g (.int .i64 (0)))]), (.agg [(.g (.int .i64 (7))),
 (.g (.string ⟨#[58]⟩)), (.g (.int .i64 (0)))])] (.ret (.g (.bool true))) := evF_pure prOk idxO_ok (pol := pol18) (K := 100000) (n := 300) (by kernel_rfl) rfl
theorem tw50 : Pure Tryz.prog (fun _ => none) 179 [(.g (.string ⟨#[58, 109]⟩)), (.agg [(.g (.int .i64 (7))), (.g (.string ⟨#[58]⟩)), (.g (.int .i64 (0)))]), (.agg [(.g (.int .i64 (1))), (.g (.string ⟨#[109]⟩)),
 (.g (.int .i64 (0)))])] (.ret (.g (.bool true))) := evF_pure prOk idxO_ok (pol := pol18) (K := 100000) (n := 300) (by kernel_rfl) rfl
theorem tw51 : Pure Tryz.prog (fun _ => none) 179 [(.g (.string ⟨#[109, 125]⟩)), (.agg [(.g (.int .i64 (1))), (.g (.string ⟨#[109]⟩)), (.g (.int .i64 (0)))]), (.agg [(.g (.int .i64 (7))), (.g (.string ⟨#[125]⟩)),
 (.g (.int .i64 (0)))])] (.ret (.g (.bool true))) := evF_pure prOk idxO_ok (pol := pol18) (K := 100000) (n := 300) (by kernel_rfl) rfl
theorem tw52 : Pure Tryz.prog (fun _ => none) 179 [(.g (.string ⟨#[125, 125]⟩)), (.agg [(.g (.int .i64 (7))), (.g (.string ⟨#[125]⟩)), (.g (.int .i64 (0)))]), (.agg [(.g (.int .i64 (7))), (.g (.string ⟨#[125]⟩)),
 (.g (.int .i64 (0)))])] (.ret (.g (.bool true))) := evF_pure prOk idxO_ok (pol := pol18) (K := 100000) (n := 300) (by kernel_rfl) rfl
def twoT : List (List AV × AV) := [
 ([(.g (.string ⟨#[112, 123]⟩)), (.agg [(.g (.int .i64 (1))), (.g (.string ⟨#[112]⟩)), (.g (.int .i64 (0)))]), (.agg [(.g (.int .i64 (7))), (.g (.string ⟨#[123]⟩)),
 (.g (.int .i64 (0)))])], (.g (.bool true))),
 ([(.g (.string ⟨#[123, 99, 111, 108, 111, 114]⟩)), (.agg [(.g (.int .i64 (7))), (.g (.string ⟨#[123]⟩)), (.g (.int .i64 (0)))]), (.agg [(.g (.int .i64 (1))),
 (.g (.string ⟨#[99, 111, 108, 111, 114]⟩)), (.g (.int .i64 (0)))])], (.g (.bool true))),
 ([(.g (.string ⟨#[99, 111, 108, 111, 114, 58]⟩)), (.agg [(.g (.int .i64 (1))), (.g (.string ⟨#[99, 111, 108, 111, 114]⟩)), (.g (.int .i64 (0)))]), (.agg [(.g (.int .i64 (7))),
 (.g (.string ⟨#[58]⟩)), (.g (.int .i64 (0)))])], (.g (.bool true))),
 ([(.g (.string ⟨#[58, 118, 97, 114, 40]⟩)), (.agg [(.g (.int .i64 (7))), (.g (.string ⟨#[58]⟩)), (.g (.int .i64 (0)))]), (.agg [(.g (.int .i64 (2))), (.g (.string ⟨#[118,
 97, 114]⟩)), (.g (.int .i64 (0)))])], (.g (.bool true))),
 ([(.g (.string ⟨#[118, 97, 114, 40, 45, 45, 97]⟩)), (.agg [(.g (.int .i64 (2))), (.g (.string ⟨#[118, 97, 114]⟩)), (.g (.int .i64 (0)))]), (.agg [(.g (.int .i64 (1))),
 (.g (.string ⟨#[45, 45, 97]⟩)), (.g (.int .i64 (0)))])], (.g (.bool true))),
 ([(.g (.string ⟨#[45, 45, 97, 41]⟩)), (.agg [(.g (.int .i64 (1))), (.g (.string ⟨#[45, 45, 97]⟩)), (.g (.int .i64 (0)))]), (.agg [(.g (.int .i64 (7))), (.g (.string ⟨#[41]⟩)),
 (.g (.int .i64 (0)))])], (.g (.bool true))),
 ([(.g (.string ⟨#[41, 59]⟩)), (.agg [(.g (.int .i64 (7))), (.g (.string ⟨#[41]⟩)), (.g (.int .i64 (0)))]), (.agg [(.g (.int .i64 (7))), (.g (.string ⟨#[59]⟩)),
 (.g (.int .i64 (0)))])], (.g (.bool true))),
 ([(.g (.string ⟨#[59, 97, 110, 105, 109, 97, 116, 105, 111, 110]⟩)), (.agg [(.g (.int .i64 (7))), (.g (.string ⟨#[59]⟩)), (.g (.int .i64 (0)))]), (.agg [(.g (.int .i64 (1))),
 (.g (.string ⟨#[97, 110, 105, 109, 97, 116, 105, 111, 110]⟩)), (.g (.int .i64 (0)))])], (.g (.bool true))),
 ([(.g (.string ⟨#[97, 110, 105, 109, 97, 116, 105, 111, 110, 58]⟩)), (.agg [(.g (.int .i64 (1))), (.g (.string ⟨#[97, 110, 105, 109, 97, 116, 105, 111, 110]⟩)),
 (.g (.int .i64 (0)))]), (.agg [(.g (.int .i64 (7))), (.g (.string ⟨#[58]⟩)), (.g (.int .i64 (0)))])], (.g (.bool true))),
 ([(.g (.string ⟨#[58, 107]⟩)), (.agg [(.g (.int .i64 (7))), (.g (.string ⟨#[58]⟩)), (.g (.int .i64 (0)))]), (.agg [(.g (.int .i64 (1))), (.g (.string ⟨#[107]⟩)),
 (.g (.int .i64 (0)))])], (.g (.bool true))),
 ([(.g (.string ⟨#[107, 10]⟩)), (.agg [(.g (.int .i64 (1))), (.g (.string ⟨#[107]⟩)), (.g (.int .i64 (0)))]), (.agg [(.g (.int .i64 (8))), (.g (.string ⟨#[10]⟩)),
 (.g (.int .i64 (0)))])], (.g (.bool true))),
 ([(.g (.string ⟨#[10, 49, 115]⟩)), (.agg [(.g (.int .i64 (8))), (.g (.string ⟨#[10]⟩)), (.g (.int .i64 (0)))]), (.agg [(.g (.int .i64 (5))), (.g (.string ⟨#[115]⟩)),
 (.g (.int .i64 (1)))])], (.g (.bool true))),
 ([(.g (.string ⟨#[49, 115, 125]⟩)), (.agg [(.g (.int .i64 (5))), (.g (.string ⟨#[115]⟩)), (.g (.int .i64 (1)))]), (.agg [(.g (.int .i64 (7))), (.g (.string ⟨#[125]⟩)),
 (.g (.int .i64 (0)))])], (.g (.bool true))),
 ([(.g (.string ⟨#[125, 64, 108, 97, 121, 101, 114]⟩)), (.agg [(.g (.int .i64 (7))), (.g (.string ⟨#[125]⟩)), (.g (.int .i64 (0)))]), (.agg [(.g (.int .i64 (3))),
 (.g (.string ⟨#[108, 97, 121, 101, 114]⟩)), (.g (.int .i64 (0)))])], (.g (.bool true))),
 ([(.g (.string ⟨#[64, 108, 97, 121, 101, 114, 10]⟩)), (.agg [(.g (.int .i64 (3))), (.g (.string ⟨#[108, 97, 121, 101, 114]⟩)), (.g (.int .i64 (0)))]), (.agg [(.g (.int .i64 (8))),
 (.g (.string ⟨#[10]⟩)), (.g (.int .i64 (0)))])], (.g (.bool true))),
 ([(.g (.string ⟨#[10, 108]⟩)), (.agg [(.g (.int .i64 (8))), (.g (.string ⟨#[10]⟩)), (.g (.int .i64 (0)))]), (.agg [(.g (.int .i64 (1))), (.g (.string ⟨#[108]⟩)),
 (.g (.int .i64 (0)))])], (.g (.bool true))),
 ([(.g (.string ⟨#[108, 59]⟩)), (.agg [(.g (.int .i64 (1))), (.g (.string ⟨#[108]⟩)), (.g (.int .i64 (0)))]), (.agg [(.g (.int .i64 (7))), (.g (.string ⟨#[59]⟩)),
 (.g (.int .i64 (0)))])], (.g (.bool true))),
 ([(.g (.string ⟨#[59, 112]⟩)), (.agg [(.g (.int .i64 (7))), (.g (.string ⟨#[59]⟩)), (.g (.int .i64 (0)))]), (.agg [(.g (.int .i64 (1))), (.g (.string ⟨#[112]⟩)),
 (.g (.int .i64 (0)))])], (.g (.bool true))),
 ([(.g (.string ⟨#[123, 45, 45, 97]⟩)), (.agg [(.g (.int .i64 (7))), (.g (.string ⟨#[123]⟩)), (.g (.int .i64 (0)))]), (.agg [(.g (.int .i64 (1))), (.g (.string ⟨#[45,
 45, 97]⟩)), (.g (.int .i64 (0)))])], (.g (.bool true))),
 ([(.g (.string ⟨#[45, 45, 97, 58]⟩)), (.agg [(.g (.int .i64 (1))), (.g (.string ⟨#[45, 45, 97]⟩)), (.g (.int .i64 (0)))]), (.agg [(.g (.int .i64 (7))), (.g (.string ⟨#[58]⟩)),
 (.g (.int .i64 (0)))])], (.g (.bool true))),
 ([(.g (.string ⟨#[118, 97, 114, 40, 45, 45, 98]⟩)), (.agg [(.g (.int .i64 (2))), (.g (.string ⟨#[118, 97, 114]⟩)), (.g (.int .i64 (0)))]), (.agg [(.g (.int .i64 (1))),
 (.g (.string ⟨#[45, 45, 98]⟩)), (.g (.int .i64 (0)))])], (.g (.bool true))),
 ([(.g (.string ⟨#[45, 45, 98, 44]⟩)), (.agg [(.g (.int .i64 (1))), (.g (.string ⟨#[45, 45, 98]⟩)), (.g (.int .i64 (0)))]), (.agg [(.g (.int .i64 (7))), (.g (.string ⟨#[44]⟩)),
 (.g (.int .i64 (0)))])], (.g (.bool true))),
 ([(.g (.string ⟨#[44, 118, 97, 114, 40]⟩)), (.agg [(.g (.int .i64 (7))), (.g (.string ⟨#[44]⟩)), (.g (.int .i64 (0)))]), (.agg [(.g (.int .i64 (2))), (.g (.string ⟨#[118,
 97, 114]⟩)), (.g (.int .i64 (0)))])], (.g (.bool true))),
 ([(.g (.string ⟨#[118, 97, 114, 40, 45, 45, 100]⟩)), (.agg [(.g (.int .i64 (2))), (.g (.string ⟨#[118, 97, 114]⟩)), (.g (.int .i64 (0)))]), (.agg [(.g (.int .i64 (1))),
 (.g (.string ⟨#[45, 45, 100]⟩)), (.g (.int .i64 (0)))])], (.g (.bool true))),
 ([(.g (.string ⟨#[45, 45, 100, 41]⟩)), (.agg [(.g (.int .i64 (1))), (.g (.string ⟨#[45, 45, 100]⟩)), (.g (.int .i64 (0)))]), (.agg [(.g (.int .i64 (7))),
 (.g (.string ⟨#[41]⟩)), (.g (.int .i64 (0)))])], (.g (.bool true))),
 ([(.g (.string ⟨#[41, 41]⟩)), (.agg [(.g (.int .i64 (7))), (.g (.string ⟨#[41]⟩)), (.g (.int .i64 (0)))]), (.agg [(.g (.int .i64 (7))), (.g (.string ⟨#[41]⟩)),
 (.g (.int .i64 (0)))])], (.g (.bool true))),
 ([(.g (.string ⟨#[41, 125]⟩)), (.agg [(.g (.int .i64 (7))), (.g (.string ⟨#[41]⟩)), (.g (.int .i64 (0)))]), (.agg [(.g (.int .i64 (7))), (.g (.string ⟨#[125]⟩)),
 (.g (.int .i64 (0)))])], (.g (.bool true))),
 ([(.g (.string ⟨#[125, 64, 107, 101, 121, 102, 114, 97, 109, 101, 115]⟩)), (.agg [(.g (.int .i64 (7))), (.g (.string ⟨#[125]⟩)), (.g (.int .i64 (0)))]), (.agg [(.g (.int .i64 (3))),
 (.g (.string ⟨#[107, 101, 121, 102, 114, 97, 109, 101, 115]⟩)), (.g (.int .i64 (0)))])], (.g (.bool true))),
 ([(.g (.string ⟨#[64, 107, 101, 121, 102, 114, 97, 109, 101, 115, 10]⟩)), (.agg [(.g (.int .i64 (3))), (.g (.string ⟨#[107, 101, 121, 102, 114, 97, 109, 101,
 115]⟩)), (.g (.int .i64 (0)))]), (.agg [(.g (.int .i64 (8))), (.g (.string ⟨#[10]⟩)), (.g (.int .i64 (0)))])], (.g (.bool true))),
 ([(.g (.string ⟨#[10, 107]⟩)), (.agg [(.g (.int .i64 (8))), (.g (.string ⟨#[10]⟩)), (.g (.int .i64 (0)))]), (.agg [(.g (.int .i64 (1))), (.g (.string ⟨#[107]⟩)),
 (.g (.int .i64 (0)))])], (.g (.bool true))),
 ([(.g (.string ⟨#[107, 123]⟩)), (.agg [(.g (.int .i64 (1))), (.g (.string ⟨#[107]⟩)), (.g (.int .i64 (0)))]), (.agg [(.g (.int .i64 (7))), (.g (.string ⟨#[123]⟩)),
 (.g (.int .i64 (0)))])], (.g (.bool true))),
 ([(.g (.string ⟨#[123, 120]⟩)), (.agg [(.g (.int .i64 (7))), (.g (.string ⟨#[123]⟩)), (.g (.int .i64 (0)))]), (.agg [(.g (.int .i64 (1))), (.g (.string ⟨#[120]⟩)),
 (.g (.int .i64 (0)))])], (.g (.bool true))),
 ([(.g (.string ⟨#[120, 58]⟩)), (.agg [(.g (.int .i64 (1))), (.g (.string ⟨#[120]⟩)), (.g (.int .i64 (0)))]), (.agg [(.g (.int .i64 (7))), (.g (.string ⟨#[58]⟩)),
 (.g (.int .i64 (0)))])], (.g (.bool true))),
 ([(.g (.string ⟨#[118, 97, 114, 40, 45, 45, 101]⟩)), (.agg [(.g (.int .i64 (2))), (.g (.string ⟨#[118, 97, 114]⟩)), (.g (.int .i64 (0)))]), (.agg [(.g (.int .i64 (1))),
 (.g (.string ⟨#[45, 45, 101]⟩)), (.g (.int .i64 (0)))])], (.g (.bool true))),
 ([(.g (.string ⟨#[45, 45, 101, 41]⟩)), (.agg [(.g (.int .i64 (1))), (.g (.string ⟨#[45, 45, 101]⟩)), (.g (.int .i64 (0)))]), (.agg [(.g (.int .i64 (7))),
 (.g (.string ⟨#[41]⟩)), (.g (.int .i64 (0)))])], (.g (.bool true))),
 ([(.g (.string ⟨#[10, 109]⟩)), (.agg [(.g (.int .i64 (8))), (.g (.string ⟨#[10]⟩)), (.g (.int .i64 (0)))]), (.agg [(.g (.int .i64 (1))), (.g (.string ⟨#[109]⟩)),
 (.g (.int .i64 (0)))])], (.g (.bool true))),
 ([(.g (.string ⟨#[109, 123]⟩)), (.agg [(.g (.int .i64 (1))), (.g (.string ⟨#[109]⟩)), (.g (.int .i64 (0)))]), (.agg [(.g (.int .i64 (7))), (.g (.string ⟨#[123]⟩)),
 (.g (.int .i64 (0)))])], (.g (.bool true))),
 ([(.g (.string ⟨#[123, 125]⟩)), (.agg [(.g (.int .i64 (7))), (.g (.string ⟨#[123]⟩)), (.g (.int .i64 (0)))]), (.agg [(.g (.int .i64 (7))), (.g (.string ⟨#[125]⟩)),
 (.g (.int .i64 (0)))])], (.g (.bool true))),
 ([(.g (.string ⟨#[125, 64, 109, 101, 100, 105, 97]⟩)), (.agg [(.g (.int .i64 (7))), (.g (.string ⟨#[125]⟩)), (.g (.int .i64 (0)))]), (.agg [(.g (.int .i64 (3))),
 (.g (.string ⟨#[109, 101, 100, 105, 97]⟩)), (.g (.int .i64 (0)))])], (.g (.bool true))),
 ([(.g (.string ⟨#[64, 109, 101, 100, 105, 97, 10]⟩)), (.agg [(.g (.int .i64 (3))), (.g (.string ⟨#[109, 101, 100, 105, 97]⟩)), (.g (.int .i64 (0)))]), (.agg [(.g (.int .i64 (8))),
 (.g (.string ⟨#[10]⟩)), (.g (.int .i64 (0)))])], (.g (.bool true))),
 ([(.g (.string ⟨#[10, 40]⟩)), (.agg [(.g (.int .i64 (8))), (.g (.string ⟨#[10]⟩)), (.g (.int .i64 (0)))]), (.agg [(.g (.int .i64 (7))), (.g (.string ⟨#[40]⟩)),
 (.g (.int .i64 (0)))])], (.g (.bool true))),
 ([(.g (.string ⟨#[40, 109, 105, 110, 45, 119, 105, 100, 116, 104]⟩)), (.agg [(.g (.int .i64 (7))), (.g (.string ⟨#[40]⟩)), (.g (.int .i64 (0)))]), (.agg [(.g (.int .i64 (1))),
 (.g (.string ⟨#[109, 105, 110, 45, 119, 105, 100, 116, 104]⟩)), (.g (.int .i64 (0)))])], (.g (.bool true))),
 ([(.g (.string ⟨#[109, 105, 110, 45, 119, 105, 100, 116, 104, 58]⟩)), (.agg [(.g (.int .i64 (1))), (.g (.string ⟨#[109, 105, 110, 45, 119, 105, 100, 116,
 104]⟩)), (.g (.int .i64 (0)))]), (.agg [(.g (.int .i64 (7))), (.g (.string ⟨#[58]⟩)), (.g (.int .i64 (0)))])], (.g (.bool true))),
 ([(.g (.string ⟨#[58, 49, 112, 120]⟩)), (.agg [(.g (.int .i64 (7))), (.g (.string ⟨#[58]⟩)), (.g (.int .i64 (0)))]), (.agg [(.g (.int .i64 (5))), (.g (.string ⟨#[112,
 120]⟩)), (.g (.int .i64 (1)))])], (.g (.bool true))),
 ([(.g (.string ⟨#[49, 112, 120, 41]⟩)), (.agg [(.g (.int .i64 (5))), (.g (.string ⟨#[112, 120]⟩)), (.g (.int .i64 (1)))]), (.agg [(.g (.int .i64 (7))), (.g (.string ⟨#[41]⟩)),
 (.g (.int .i64 (0)))])], (.g (.bool true))),
 ([(.g (.string ⟨#[41, 123]⟩)), (.agg [(.g (.int .i64 (7))), (.g (.string ⟨#[41]⟩)), (.g (.int .i64 (0)))]), (.agg [(.g (.int .i64 (7))), (.g (.string ⟨#[123]⟩)),
 (.g (.int .i64 (0)))])], (.g (.bool true))),
 ([(.g (.string ⟨#[123, 114]⟩)), (.agg [(.g (.int .i64 (7))), (.g (.string ⟨#[123]⟩)), (.g (.int .i64 (0)))]), (.agg [(.g (.int .i64 (1))), (.g (.string ⟨#[114]⟩)),
 (.g (.int .i64 (0)))])], (.g (.bool true))),
 ([(.g (.string ⟨#[114, 123]⟩)), (.agg [(.g (.int .i64 (1))), (.g (.string ⟨#[114]⟩)), (.g (.int .i64 (0)))]), (.agg [(.g (.int .i64 (7))), (.g (.string ⟨#[123]⟩)),
 (.g (.int .i64 (0)))])], (.g (.bool true))),
 ([(.g (.string ⟨#[123, 45, 45, 100]⟩)), (.agg [(.g (.int .i64 (7))), (.g (.string ⟨#[123]⟩)), (.g (.int .i64 (0)))]), (.agg [(.g (.int .i64 (1))), (.g (.string ⟨#[45,
 45, 100]⟩)), (.g (.int .i64 (0)))])], (.g (.bool true))),
 ([(.g (.string ⟨#[45, 45, 100, 58]⟩)), (.agg [(.g (.int .i64 (1))), (.g (.string ⟨#[45, 45, 100]⟩)), (.g (.int .i64 (0)))]), (.agg [(.g (.int .i64 (7))),
 (.g (.string ⟨#[58]⟩)), (.g (.int .i64 (0)))])], (.g (.bool true))),
 ([(.g (.string ⟨#[58, 109]⟩)), (.agg [(.g (.int .i64 (7))), (.g (.string ⟨#[58]⟩)), (.g (.int .i64 (0)))]), (.agg [(.g (.int .i64 (1))), (.g (.string ⟨#[109]⟩)),
 (.g (.int .i64 (0)))])], (.g (.bool true))),
 ([(.g (.string ⟨#[109, 125]⟩)), (.agg [(.g (.int .i64 (1))), (.g (.string ⟨#[109]⟩)), (.g (.int .i64 (0)))]), (.agg [(.g (.int .i64 (7))), (.g (.string ⟨#[125]⟩)),
 (.g (.int .i64 (0)))])], (.g (.bool true))),
 ([(.g (.string ⟨#[125, 125]⟩)), (.agg [(.g (.int .i64 (7))), (.g (.string ⟨#[125]⟩)), (.g (.int .i64 (0)))]), (.agg [(.g (.int .i64 (7))), (.g (.string ⟨#[125]⟩)),
 (.g (.int .i64 (0)))])], (.g (.bool true)))]
theorem twoT_all : ∀ e ∈ twoT, Pure Tryz.prog (fun _ => none) 179 e.1 (.ret e.2) := by
 unfold twoT
 simp only [List.forall_mem_cons]
 exact ⟨tw0, tw1, tw2, tw3, tw4, tw5, tw6, tw7, tw8, tw9, tw10, tw11, tw12, tw13, tw14, tw15, tw16, tw17, tw18, tw19, tw20, tw21, tw22, tw23, tw24, tw25, tw26, tw27, tw28, tw29, tw30, tw31, tw32, tw33, tw34, tw35, tw36, tw37, tw38, tw39, tw40, tw41, tw42, tw43, tw44, tw45, tw46, tw47, tw48, tw49, tw50, tw51, tw52, by simp⟩
theorem twoT_ok : ChOk Tryz.prog (fun _ => none) (tabCH (tabF 179 twoT)) := tabF_ok twoT_all ⟨_, Tryz.func179, by kernel_rfl, by kernel_rfl⟩
end Go.Proofs.YtlnaihkombcbcaaGreat
end
noncomputable section
namespace Go.Proofs.YtlnaihkombcbcaaGreat
open Go.RowKit Go.Ev
def argB : AV := (.sl 6 8 [(.g (.int .i64 (1))), (.sl 1 2 [(.sl 1 2 [(.g (.int .i64 (0))), (.sl 1 6 [(.g (.int .i64 (2))), (.g (.string ⟨#[112]⟩)), (.g (.string ⟨#[]⟩)),
 (.g (.int .i64 (0))), (.g (.int .i64 (0))), (.g (.slice none 0 0))])]), (.g (.string ⟨#[]⟩))]), (.sl 2 3 [(.g (.string ⟨#[99, 111, 108, 111, 114]⟩)), (.sl 1 5 [(.g (.int .i64 (5))),
 (.g (.int .i64 (2))), (.g (.string ⟨#[118, 97, 114]⟩)), (.g (.int .i64 (0))), (.sl 1 5 [(.g (.int .i64 (1))), (.g (.int .i64 (1))), (.g (.string ⟨#[45, 45,
 97]⟩)), (.g (.int .i64 (0))), (.g (.slice none 0 0))])]), (.g (.bool false)), (.g (.string ⟨#[97, 110, 105, 109, 97, 116, 105, 111, 110]⟩)), (.sl 3 5 [(.g (.int .i64 (1))),
 (.g (.int .i64 (1))), (.g (.string ⟨#[107]⟩)), (.g (.int .i64 (0))), (.g (.slice none 0 0)), (.g (.int .i64 (1))), (.g (.int .i64 (8))), (.g (.string ⟨#[10]⟩)),
 (.g (.int .i64 (0))), (.g (.slice none 0 0)), (.g (.int .i64 (1))), (.g (.int .i64 (5))), (.g (.string ⟨#[115]⟩)), (.g (.int .i64 (1))), (.g (.slice none 0 0))]),
 (.g (.bool false))]), (.g (.slice none 0 0)), (.g (.int .i64 (0))), (.g (.int .i64 (0))), (.g (.slice none 0 0)), (.g (.slice none 0 0)), (.g (.int .i64 (4))),
 (.g (.slice none 0 0)), (.g (.slice none 0 0)), (.sl 1 1 [(.g (.string ⟨#[108]⟩))]), (.g (.int .i64 (0))), (.g (.int .i64 (0))), (.g (.slice none 0 0)),
 (.g (.slice none 0 0)), (.g (.int .i64 (1))), (.sl 1 2 [(.sl 1 2 [(.g (.int .i64 (0))), (.sl 1 6 [(.g (.int .i64 (2))), (.g (.string ⟨#[112]⟩)), (.g (.string ⟨#[]⟩)),
 (.g (.int .i64 (0))), (.g (.int .i64 (0))), (.g (.slice none 0 0))])]), (.g (.string ⟨#[]⟩))]), (.sl 1 3 [(.g (.string ⟨#[45, 45, 97]⟩)), (.sl 1 5 [(.g (.int .i64 (5))),
 (.g (.int .i64 (2))), (.g (.string ⟨#[118, 97, 114]⟩)), (.g (.int .i64 (0))), (.sl 3 5 [(.g (.int .i64 (1))), (.g (.int .i64 (1))), (.g (.string ⟨#[45, 45,
 98]⟩)), (.g (.int .i64 (0))), (.g (.slice none 0 0)), (.g (.int .i64 (1))), (.g (.int .i64 (7))), (.g (.string ⟨#[44]⟩)), (.g (.int .i64 (0))), (.g (.slice none 0 0)),
 (.g (.int .i64 (5))), (.g (.int .i64 (2))), (.g (.string ⟨#[118, 97, 114]⟩)), (.g (.int .i64 (0))), (.sl 1 5 [(.g (.int .i64 (1))), (.g (.int .i64 (1))),
 (.g (.string ⟨#[45, 45, 100]⟩)), (.g (.int .i64 (0))), (.g (.slice none 0 0))])])]), (.g (.bool false))]), (.g (.slice none 0 0)), (.g (.int .i64 (0))),
 (.g (.int .i64 (0))), (.g (.slice none 0 0)), (.g (.slice none 0 0)), (.g (.int .i64 (5))), (.g (.slice none 0 0)), (.g (.slice none 0 0)), (.sl 1 1 [(.g (.string ⟨#[107]⟩))]),
 (.g (.int .i64 (0))), (.g (.int .i64 (0))), (.sl 3 5 [(.g (.int .i64 (1))), (.g (.int .i64 (1))), (.g (.string ⟨#[120]⟩)), (.g (.int .i64 (0))), (.g (.slice none 0 0)),
 (.g (.int .i64 (1))), (.g (.int .i64 (7))), (.g (.string ⟨#[58]⟩)), (.g (.int .i64 (0))), (.g (.slice none 0 0)), (.g (.int .i64 (5))), (.g (.int .i64 (2))),
 (.g (.string ⟨#[118, 97, 114]⟩)), (.g (.int .i64 (0))), (.sl 1 5 [(.g (.int .i64 (1))), (.g (.int .i64 (1))), (.g (.string ⟨#[45, 45, 101]⟩)), (.g (.int .i64 (0))),
 (.g (.slice none 0 0))])]), (.g (.slice none 0 0)), (.g (.int .i64 (5))), (.g (.slice none 0 0)), (.g (.slice none 0 0)), (.sl 1 1 [(.g (.string ⟨#[109]⟩))]),
 (.g (.int .i64 (0))), (.g (.int .i64 (0))), (.sl 0 5 []), (.g (.slice none 0 0)), (.g (.int .i64 (2))), (.g (.slice none 0 0)), (.g (.slice none 0 0)), (.g (.slice none 0 0)),
 (.g (.int .i64 (1))), (.g (.int .i64 (-1))), (.g (.slice none 0 0)), (.sl 1 8 [(.g (.int .i64 (1))), (.sl 1 2 [(.sl 1 2 [(.g (.int .i64 (0))), (.sl 1 6 [(.g (.int .i64 (2))),
 (.g (.string ⟨#[114]⟩)), (.g (.string ⟨#[]⟩)), (.g (.int .i64 (0))), (.g (.int .i64 (0))), (.g (.slice none 0 0))])]), (.g (.string ⟨#[]⟩))]), (.sl 1 3 [(.g (.string ⟨#[45,
 45, 100]⟩)), (.sl 1 5 [(.g (.int .i64 (1))), (.g (.int .i64 (1))), (.g (.string ⟨#[109]⟩)), (.g (.int .i64 (0))), (.g (.slice none 0 0))]), (.g (.bool false))]),
 (.g (.slice none 0 0)), (.g (.int .i64 (0))), (.g (.int .i64 (0))), (.g (.slice none 0 0)), (.g (.slice none 0 0))])])
def textB : AV := (.g (.string ⟨#[112, 123, 99, 111, 108, 111, 114, 58, 118, 97, 114, 40, 45, 45, 97, 41, 59, 97, 110, 105, 109, 97, 116, 105, 111, 110, 58, 107, 10, 49, 115,
 125, 64, 108, 97, 121, 101, 114, 10, 108, 59, 112, 123, 45, 45, 97, 58, 118, 97, 114, 40, 45, 45, 98, 44, 118, 97, 114, 40, 45, 45, 100, 41, 41, 125, 64,
 107, 101, 121, 102, 114, 97, 109, 101, 115, 10, 107, 123, 120, 58, 118, 97, 114, 40, 45, 45, 101, 41, 125, 64, 107, 101, 121, 102, 114, 97, 109, 101, 115,
 10, 109, 123, 125, 64, 109, 101, 100, 105, 97, 10, 40, 109, 105, 110, 45, 119, 105, 100, 116, 104, 58, 49, 112, 120, 41, 123, 114, 123, 45, 45, 100, 58,
 109, 125, 125]⟩))
def chB : CH := orCH (tabCH (tabF 179 twoT)) (tabCH idxO)
theorem textB_ev : evF Tryz.prog (fun _ => none) chB pol18 100000 300 76 [argB] [] .e 0 = some (.ret textB, .e, 0) := by kernel_rfl
theorem textB_pure : Pure Tryz.prog (fun _ => none) 76 [argB] (.ret textB) := evF_pure prOk (orCH_ok twoT_ok idxO_ok) textB_ev rfl
end Go.Proofs.YtlnaihkombcbcaaGreat
end
noncomputable section
namespace Go.Proofs.YtlnaihkombcbcaaGreat
open Go.RowKit Go.Ev
def textO : FuncId → List AV → Option AV := oneO 76 argB textB
theorem textO_ok {GT : GTab} : ChOk Tryz.prog GT (shutCH (fun f => Nat.beq f 76) 1000 textO) := by
 refine shutCH_ok fun f args a _ h => ?_
 obtain ⟨rfl, rfl, rfl⟩ := oneO_spec h
 refine ⟨fun w rargs ha => ?_, _, Tryz.func76, by kernel_rfl, by kernel_rfl⟩
 refine (textB_pure.at w rargs (fun g cs h => by cases h) ha).mono ?_
 rintro e w' ⟨r, rfl, hr, hB⟩
 exact ⟨r, rfl, hr, hB⟩
def ch18 : CH := orCH addCH (orCH (shutCH pick18 1000 known18) (orCH (tabCH (oneO 135 argA parseA)) (orCH (shutCH (fun f => Nat.beq f 76) 1000 textO) (tabCH idxO))))
theorem ch18_ok : ChOk Tryz.prog (fun _ => none) ch18 := orCH_ok addCH_ok (orCH_ok known18_ok (orCH_ok (oneO_ok parseA_pure ⟨_, Tryz.func135, by kernel_rfl, by kernel_rfl⟩) (orCH_ok textO_ok idxO_ok)))
def polF : FuncId → Bool := fun f => pol18 f && !(Nat.beq f 146 || Nat.beq f 212)
theorem fixed18_ev : evF Tryz.prog (fun _ => none) ch18 polF 100000 300 26 [] [] .e 0 = some (.ret (.g (.bool true)), .e, 0) := by kernel_rfl
theorem fixed18_any (w : World) : Calls Tryz.prog 26 #[] w fun e w' => e = .returned (.bool true) ∧ Below w.heap.size w w' := by
 have hp : Pure Tryz.prog (fun _ => none) 26 [] (.ret (.g (.bool true))) := evF_pure prOk ch18_ok fixed18_ev rfl
 refine (hp.at w #[] (fun g cs h => by cases h) (by rw [Ats, VRs])).mono ?_
 rintro e w' ⟨r, rfl, hr, hB⟩
 obtain rfl : r = .bool true := hr
 exact ⟨rfl, hB⟩
end Go.Proofs.YtlnaihkombcbcaaGreat
end
