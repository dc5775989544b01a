/- What the row of the law ShakeExact asks of the program: closed facts, each by itself. -/
import Derived.Test.YtabliahkhafddaaGreatJd3
import Derived.Test.YtabliahkhafddaaGreatRows
import Derived.JoinedOf
set_option linter.unusedSimpArgs false
noncomputable section
namespace Go.Proofs.YtabliahkhafddaaGreat
open Go.RowKit Go.Ev
def rargA:AV:=.g (.string rS)
def ritems:AV:=(.sl 6 8 [(.g (.int .i64 (1))),(.sl 3 2 [(.sl 1 2 [(.g (.int .i64 (0))),(.sl 1 6 [(.g (.int .i64 (2))),(.g (.string ⟨#[112]⟩)),(.g (.string ⟨#[]⟩)),
 (.g (.int .i64 (0))),(.g (.int .i64 (0))),(.g (.slice none 0 0))])]),(.g (.string ⟨#[]⟩)),(.sl 1 2 [(.g (.int .i64 (0))),(.sl 1 6 [(.g (.int .i64 (2))),
 (.g (.string ⟨#[113]⟩)),(.g (.string ⟨#[]⟩)),(.g (.int .i64 (0))),(.g (.int .i64 (0))),(.g (.slice none 0 0))])]),(.g (.string ⟨#[]⟩)),(.sl 1 2 [(.g (.int .i64 (0))),
 (.sl 1 6 [(.g (.int .i64 (2))),(.g (.string ⟨#[114]⟩)),(.g (.string ⟨#[]⟩)),(.g (.int .i64 (0))),(.g (.int .i64 (0))),(.g (.slice none 0 0))])]),(.g (.string ⟨#[]⟩))]),
 (.sl 1 3 [(.g (.string ⟨#[120]⟩)),(.sl 1 5 [(.g (.int .i64 (1))),(.g (.int .i64 (5))),(.g (.string ⟨#[]⟩)),(.g (.int .i64 (1))),(.g (.slice none 0 0))]),
 (.g (.bool false))]),(.g (.slice none 0 0)),(.g (.int .i64 (0))),(.g (.int .i64 (0))),(.g (.slice none 0 0)),(.g (.slice none 0 0)),(.g (.int .i64 (1))),
 (.sl 1 2 [(.sl 1 2 [(.g (.int .i64 (0))),(.sl 1 6 [(.g (.int .i64 (2))),(.g (.string ⟨#[114]⟩)),(.g (.string ⟨#[]⟩)),(.g (.int .i64 (0))),(.g (.int .i64 (0))),
 (.g (.slice none 0 0))])]),(.g (.string ⟨#[]⟩))]),(.sl 1 3 [(.g (.string ⟨#[120]⟩)),(.sl 1 5 [(.g (.int .i64 (1))),(.g (.int .i64 (5))),(.g (.string ⟨#[]⟩)),
 (.g (.int .i64 (2))),(.g (.slice none 0 0))]),(.g (.bool false))]),(.g (.slice none 0 0)),(.g (.int .i64 (0))),(.g (.int .i64 (0))),(.g (.slice none 0 0)),
 (.g (.slice none 0 0)),(.g (.int .i64 (3))),(.g (.slice none 0 0)),(.g (.slice none 0 0)),(.sl 1 1 [(.g (.string ⟨#[108]⟩))]),(.g (.int .i64 (0))),
 (.g (.int .i64 (0))),(.g (.slice none 0 0)),(.sl 1 8 [(.g (.int .i64 (1))),(.sl 1 2 [(.sl 1 2 [(.g (.int .i64 (0))),(.sl 1 6 [(.g (.int .i64 (2))),(.g (.string ⟨#[114]⟩)),
 (.g (.string ⟨#[]⟩)),(.g (.int .i64 (0))),(.g (.int .i64 (0))),(.g (.slice none 0 0))])]),(.g (.string ⟨#[]⟩))]),(.sl 1 3 [(.g (.string ⟨#[120]⟩)),
 (.sl 1 5 [(.g (.int .i64 (1))),(.g (.int .i64 (5))),(.g (.string ⟨#[]⟩)),(.g (.int .i64 (3))),(.g (.slice none 0 0))]),(.g (.bool false))]),(.g (.slice none 0 0)),
 (.g (.int .i64 (0))),(.g (.int .i64 (0))),(.g (.slice none 0 0)),(.g (.slice none 0 0))]),(.g (.int .i64 (2))),(.g (.slice none 0 0)),(.g (.slice none 0 0)),
 (.g (.slice none 0 0)),(.g (.int .i64 (1))),(.g (.int .i64 (-1))),(.g (.slice none 0 0)),(.sl 2 8 [(.g (.int .i64 (1))),(.sl 1 2 [(.sl 1 2 [(.g (.int .i64 (0))),
 (.sl 2 6 [(.g (.int .i64 (4))),(.g (.string ⟨#[98]⟩)),(.g (.string ⟨#[]⟩)),(.g (.int .i64 (0))),(.g (.int .i64 (0))),(.g (.slice none 0 0)),(.g (.int .i64 (7))),
 (.g (.string ⟨#[104,111,118,101,114]⟩)),(.g (.string ⟨#[]⟩)),(.g (.int .i64 (0))),(.g (.int .i64 (0))),(.g (.slice none 0 0))])]),(.g (.string ⟨#[]⟩))]),
 (.sl 1 3 [(.g (.string ⟨#[120]⟩)),(.sl 1 5 [(.g (.int .i64 (1))),(.g (.int .i64 (5))),(.g (.string ⟨#[]⟩)),(.g (.int .i64 (4))),(.g (.slice none 0 0))]),
 (.g (.bool false))]),(.g (.slice none 0 0)),(.g (.int .i64 (0))),(.g (.int .i64 (0))),(.g (.slice none 0 0)),(.g (.slice none 0 0)),(.g (.int .i64 (1))),
 (.sl 1 2 [(.sl 2 2 [(.g (.int .i64 (0))),(.sl 1 6 [(.g (.int .i64 (2))),(.g (.string ⟨#[113]⟩)),(.g (.string ⟨#[]⟩)),(.g (.int .i64 (0))),(.g (.int .i64 (0))),
 (.g (.slice none 0 0))]),(.g (.int .i64 (1))),(.sl 1 6 [(.g (.int .i64 (4))),(.g (.string ⟨#[97]⟩)),(.g (.string ⟨#[]⟩)),(.g (.int .i64 (0))),(.g (.int .i64 (0))),
 (.g (.slice none 0 0))])]),(.g (.string ⟨#[]⟩))]),(.sl 1 3 [(.g (.string ⟨#[120]⟩)),(.sl 1 5 [(.g (.int .i64 (1))),(.g (.int .i64 (5))),(.g (.string ⟨#[]⟩)),
 (.g (.int .i64 (5))),(.g (.slice none 0 0))]),(.g (.bool false))]),(.g (.slice none 0 0)),(.g (.int .i64 (0))),(.g (.int .i64 (0))),(.g (.slice none 0 0)),
 (.g (.slice none 0 0))]),(.g (.int .i64 (1))),(.sl 1 2 [(.sl 1 2 [(.g (.int .i64 (0))),(.sl 2 6 [(.g (.int .i64 (2))),(.g (.string ⟨#[113]⟩)),(.g (.string ⟨#[]⟩)),
 (.g (.int .i64 (0))),(.g (.int .i64 (0))),(.g (.slice none 0 0)),(.g (.int .i64 (7))),(.g (.string ⟨#[104,111,118,101,114]⟩)),(.g (.string ⟨#[]⟩)),
 (.g (.int .i64 (0))),(.g (.int .i64 (0))),(.g (.slice none 0 0))])]),(.g (.string ⟨#[]⟩))]),(.sl 1 3 [(.g (.string ⟨#[120]⟩)),(.sl 1 5 [(.g (.int .i64 (5))),
 (.g (.int .i64 (2))),(.g (.string ⟨#[118,97,114]⟩)),(.g (.int .i64 (0))),(.sl 1 5 [(.g (.int .i64 (1))),(.g (.int .i64 (1))),(.g (.string ⟨#[45,45,
 122]⟩)),(.g (.int .i64 (0))),(.g (.slice none 0 0))])]),(.g (.bool false))]),(.g (.slice none 0 0)),(.g (.int .i64 (0))),(.g (.int .i64 (0))),(.g (.slice none 0 0)),
 (.g (.slice none 0 0)),(.g (.int .i64 (1))),(.sl 1 2 [(.sl 1 2 [(.g (.int .i64 (0))),(.sl 1 6 [(.g (.int .i64 (2))),(.g (.string ⟨#[112]⟩)),(.g (.string ⟨#[]⟩)),
 (.g (.int .i64 (0))),(.g (.int .i64 (0))),(.g (.slice none 0 0))])]),(.g (.string ⟨#[]⟩))]),(.sl 2 3 [(.g (.string ⟨#[45,45,122]⟩)),(.sl 1 5 [(.g (.int .i64 (1))),
 (.g (.int .i64 (5))),(.g (.string ⟨#[]⟩)),(.g (.int .i64 (6))),(.g (.slice none 0 0))]),(.g (.bool false)),(.g (.string ⟨#[45,45,121]⟩)),(.sl 1 5 [(.g (.int .i64 (1))),
 (.g (.int .i64 (5))),(.g (.string ⟨#[]⟩)),(.g (.int .i64 (7))),(.g (.slice none 0 0))]),(.g (.bool false))]),(.g (.slice none 0 0)),(.g (.int .i64 (0))),
 (.g (.int .i64 (0))),(.g (.slice none 0 0)),(.g (.slice none 0 0))])
def rparse:AV:=(.tup [ritems,(.g (.int .i64 (0)))])
def rchA:CH:=orCH (tabCH (tabI 283 rS rnextT)) (tabCH idxO)
theorem rparse_ev:evF Tryz.prog (fun _=>none) rchA pol18 100000 300 79 [rargA] [] .e 0=some (.ret rparse,.e,0):=by kernel_rfl
theorem rparse_seal:sealV .e 1000 rparse=some rparse:=by kernel_rfl
theorem rparse_pure:Pure Tryz.prog (fun _=>none) 79 [rargA] (.ret rparse):=evF_pureK prOk (Q4k rnextT_ok Q2w) rparse_ev rparse_seal
def rtk (k:Int) (s:ByteArray) (n:Int):AV:=.agg [.g (.int .i64 k),.g (.string s),.g (.int .i64 n)]
def rtwE (t:ByteArray) (k:Int) (s:ByteArray) (n k2:Int) (s2:ByteArray) (n2:Int):List AV:=[.g (.string t),rtk k s n,rtk k2 s2 n2]
abbrev rTW (t:ByteArray) (k:Int) (s:ByteArray) (n k2:Int) (s2:ByteArray) (n2:Int) (b:Bool):Prop:=Pure Tryz.prog (fun _=>none) 222 (rtwE t k s n k2 s2 n2) (.ret (.g (.bool b)))
theorem rtwP {t s s2:ByteArray} {k n k2 n2:Int} {b:Bool} (h:evF Tryz.prog (fun _=>none) (tabCH idxO) pol18 100000 300 222 (rtwE t k s n k2 s2 n2) [] .e 0=some (.ret (.g (.bool b)),.e,0)):rTW t k s n k2 s2 n2 b:=Q2u prOk Q2w h rfl
theorem rtw0:rTW ⟨#[112,44]⟩ 1 ⟨#[112]⟩ 0 7 ⟨#[44]⟩ 0 true:=rtwP (by kernel_rfl)
theorem rtw1:rTW ⟨#[44,113]⟩ 7 ⟨#[44]⟩ 0 1 ⟨#[113]⟩ 0 true:=rtwP (by kernel_rfl)
theorem rtw2:rTW ⟨#[113,123]⟩ 1 ⟨#[113]⟩ 0 7 ⟨#[123]⟩ 0 true:=rtwP (by kernel_rfl)
theorem rtw3:rTW ⟨#[123,120]⟩ 7 ⟨#[123]⟩ 0 1 ⟨#[120]⟩ 0 true:=rtwP (by kernel_rfl)
theorem rtw4:rTW ⟨#[120,58]⟩ 1 ⟨#[120]⟩ 0 7 ⟨#[58]⟩ 0 true:=rtwP (by kernel_rfl)
theorem rtw5:rTW ⟨#[58,49]⟩ 7 ⟨#[58]⟩ 0 5 ⟨#[]⟩ 1 true:=rtwP (by kernel_rfl)
theorem rtw6:rTW ⟨#[49,125]⟩ 5 ⟨#[]⟩ 1 7 ⟨#[125]⟩ 0 true:=rtwP (by kernel_rfl)
theorem rtw7:rTW ⟨#[125,64,108,97,121,101,114]⟩ 7 ⟨#[125]⟩ 0 3 ⟨#[108,97,121,101,114]⟩ 0 true:=rtwP (by kernel_rfl)
theorem rtw8:rTW ⟨#[64,108,97,121,101,114,10]⟩ 3 ⟨#[108,97,121,101,114]⟩ 0 8 ⟨#[10]⟩ 0 true:=rtwP (by kernel_rfl)
theorem rtw9:rTW ⟨#[10,108]⟩ 8 ⟨#[10]⟩ 0 1 ⟨#[108]⟩ 0 true:=rtwP (by kernel_rfl)
theorem rtw10:rTW ⟨#[108,59]⟩ 1 ⟨#[108]⟩ 0 7 ⟨#[59]⟩ 0 true:=rtwP (by kernel_rfl)
theorem rtw11:rTW ⟨#[59,64,109,101,100,105,97]⟩ 7 ⟨#[59]⟩ 0 3 ⟨#[109,101,100,105,97]⟩ 0 true:=rtwP (by kernel_rfl)
theorem rtw12:rTW ⟨#[64,109,101,100,105,97,10]⟩ 3 ⟨#[109,101,100,105,97]⟩ 0 8 ⟨#[10]⟩ 0 true:=rtwP (by kernel_rfl)
theorem rtw13:rTW ⟨#[10,40]⟩ 8 ⟨#[10]⟩ 0 7 ⟨#[40]⟩ 0 true:=rtwP (by kernel_rfl)
theorem rtw14:rTW ⟨#[40,109,105,110,45,119,105,100,116,104]⟩ 7 ⟨#[40]⟩ 0 1 ⟨#[109,105,110,45,119,105,100,116,104]⟩ 0 true:=rtwP (by kernel_rfl)
theorem rtw15:rTW ⟨#[109,105,110,45,119,105,100,116,104,58]⟩ 1 ⟨#[109,105,110,45,119,105,100,116,104]⟩ 0 7 ⟨#[58]⟩ 0 true:=rtwP (by kernel_rfl)
theorem rtw16:rTW ⟨#[58,49,112,120]⟩ 7 ⟨#[58]⟩ 0 5 ⟨#[112,120]⟩ 1 true:=rtwP (by kernel_rfl)
theorem rtw17:rTW ⟨#[49,112,120,41]⟩ 5 ⟨#[112,120]⟩ 1 7 ⟨#[41]⟩ 0 true:=rtwP (by kernel_rfl)
theorem rtw18:rTW ⟨#[41,123]⟩ 7 ⟨#[41]⟩ 0 7 ⟨#[123]⟩ 0 true:=rtwP (by kernel_rfl)
theorem rtw19:rTW ⟨#[123,46]⟩ 7 ⟨#[123]⟩ 0 7 ⟨#[46]⟩ 0 true:=rtwP (by kernel_rfl)
theorem rtw20:rTW ⟨#[46,98]⟩ 7 ⟨#[46]⟩ 0 1 ⟨#[98]⟩ 0 true:=rtwP (by kernel_rfl)
theorem rtw21:rTW ⟨#[98,58]⟩ 1 ⟨#[98]⟩ 0 7 ⟨#[58]⟩ 0 true:=rtwP (by kernel_rfl)
theorem rtw22:rTW ⟨#[58,104,111,118,101,114]⟩ 7 ⟨#[58]⟩ 0 1 ⟨#[104,111,118,101,114]⟩ 0 true:=rtwP (by kernel_rfl)
theorem rtw23:rTW ⟨#[104,111,118,101,114,123]⟩ 1 ⟨#[104,111,118,101,114]⟩ 0 7 ⟨#[123]⟩ 0 true:=rtwP (by kernel_rfl)
theorem rtw24:rTW ⟨#[58,52]⟩ 7 ⟨#[58]⟩ 0 5 ⟨#[]⟩ 4 true:=rtwP (by kernel_rfl)
theorem rtw25:rTW ⟨#[52,125]⟩ 5 ⟨#[]⟩ 4 7 ⟨#[125]⟩ 0 true:=rtwP (by kernel_rfl)
theorem rtw26:rTW ⟨#[125,125]⟩ 7 ⟨#[125]⟩ 0 7 ⟨#[125]⟩ 0 true:=rtwP (by kernel_rfl)
theorem rtw27:rTW ⟨#[125,113]⟩ 7 ⟨#[125]⟩ 0 1 ⟨#[113]⟩ 0 true:=rtwP (by kernel_rfl)
theorem rtw28:rTW ⟨#[113,58]⟩ 1 ⟨#[113]⟩ 0 7 ⟨#[58]⟩ 0 true:=rtwP (by kernel_rfl)
theorem rtw29:rTW ⟨#[58,118,97,114,40]⟩ 7 ⟨#[58]⟩ 0 2 ⟨#[118,97,114]⟩ 0 true:=rtwP (by kernel_rfl)
theorem rtw30:rTW ⟨#[118,97,114,40,45,45,122]⟩ 2 ⟨#[118,97,114]⟩ 0 1 ⟨#[45,45,122]⟩ 0 true:=rtwP (by kernel_rfl)
theorem rtw31:rTW ⟨#[45,45,122,41]⟩ 1 ⟨#[45,45,122]⟩ 0 7 ⟨#[41]⟩ 0 true:=rtwP (by kernel_rfl)
theorem rtw32:rTW ⟨#[41,125]⟩ 7 ⟨#[41]⟩ 0 7 ⟨#[125]⟩ 0 true:=rtwP (by kernel_rfl)
theorem rtw33:rTW ⟨#[125,112]⟩ 7 ⟨#[125]⟩ 0 1 ⟨#[112]⟩ 0 true:=rtwP (by kernel_rfl)
theorem rtw34:rTW ⟨#[112,123]⟩ 1 ⟨#[112]⟩ 0 7 ⟨#[123]⟩ 0 true:=rtwP (by kernel_rfl)
theorem rtw35:rTW ⟨#[123,45,45,122]⟩ 7 ⟨#[123]⟩ 0 1 ⟨#[45,45,122]⟩ 0 true:=rtwP (by kernel_rfl)
theorem rtw36:rTW ⟨#[45,45,122,58]⟩ 1 ⟨#[45,45,122]⟩ 0 7 ⟨#[58]⟩ 0 true:=rtwP (by kernel_rfl)
theorem rtw37:rTW ⟨#[58,54]⟩ 7 ⟨#[58]⟩ 0 5 ⟨#[]⟩ 6 true:=rtwP (by kernel_rfl)
theorem rtw38:rTW ⟨#[54,59]⟩ 5 ⟨#[]⟩ 6 7 ⟨#[59]⟩ 0 true:=rtwP (by kernel_rfl)
theorem rtw39:rTW ⟨#[59,45,45,121]⟩ 7 ⟨#[59]⟩ 0 1 ⟨#[45,45,121]⟩ 0 true:=rtwP (by kernel_rfl)
theorem rtw40:rTW ⟨#[45,45,121,58]⟩ 1 ⟨#[45,45,121]⟩ 0 7 ⟨#[58]⟩ 0 true:=rtwP (by kernel_rfl)
theorem rtw41:rTW ⟨#[58,55]⟩ 7 ⟨#[58]⟩ 0 5 ⟨#[]⟩ 7 true:=rtwP (by kernel_rfl)
theorem rtw42:rTW ⟨#[55,125]⟩ 5 ⟨#[]⟩ 7 7 ⟨#[125]⟩ 0 true:=rtwP (by kernel_rfl)
theorem rtw43:rTW ⟨#[54,125]⟩ 5 ⟨#[]⟩ 6 7 ⟨#[125]⟩ 0 true:=rtwP (by kernel_rfl)
def rtwoT:List (List AV×AV):=[(rtwE ⟨#[112,44]⟩ 1 ⟨#[112]⟩ 0 7 ⟨#[44]⟩ 0,.g (.bool true)),(rtwE ⟨#[44,113]⟩ 7 ⟨#[44]⟩ 0 1 ⟨#[113]⟩ 0,.g (.bool true)),(rtwE ⟨#[113,123]⟩ 1 ⟨#[113]⟩ 0 7 ⟨#[123]⟩ 0,.g (.bool true)),(rtwE ⟨#[123,120]⟩ 7 ⟨#[123]⟩ 0 1 ⟨#[120]⟩ 0,.g (.bool true)),(rtwE ⟨#[120,58]⟩ 1 ⟨#[120]⟩ 0 7 ⟨#[58]⟩ 0,.g (.bool true)),(rtwE ⟨#[58,49]⟩ 7 ⟨#[58]⟩ 0 5 ⟨#[]⟩ 1,.g (.bool true)),(rtwE ⟨#[49,125]⟩ 5 ⟨#[]⟩ 1 7 ⟨#[125]⟩ 0,.g (.bool true)),(rtwE ⟨#[125,64,108,97,121,101,114]⟩ 7 ⟨#[125]⟩ 0 3 ⟨#[108,97,121,101,114]⟩ 0,.g (.bool true)),(rtwE ⟨#[64,108,97,121,101,114,10]⟩ 3 ⟨#[108,97,121,101,114]⟩ 0 8 ⟨#[10]⟩ 0,.g (.bool true)),(rtwE ⟨#[10,108]⟩ 8 ⟨#[10]⟩ 0 1 ⟨#[108]⟩ 0,.g (.bool true)),(rtwE ⟨#[108,59]⟩ 1 ⟨#[108]⟩ 0 7 ⟨#[59]⟩ 0,.g (.bool true)),(rtwE ⟨#[59,64,109,101,100,105,97]⟩ 7 ⟨#[59]⟩ 0 3 ⟨#[109,101,100,105,97]⟩ 0,.g (.bool true)),(rtwE ⟨#[64,109,101,100,105,97,10]⟩ 3 ⟨#[109,101,100,105,97]⟩ 0 8 ⟨#[10]⟩ 0,.g (.bool true)),(rtwE ⟨#[10,40]⟩ 8 ⟨#[10]⟩ 0 7 ⟨#[40]⟩ 0,.g (.bool true)),(rtwE ⟨#[40,109,105,110,45,119,105,100,116,104]⟩ 7 ⟨#[40]⟩ 0 1 ⟨#[109,105,110,45,119,105,100,116,104]⟩ 0,.g (.bool true)),(rtwE ⟨#[109,105,110,45,119,105,100,116,104,58]⟩ 1 ⟨#[109,105,110,45,119,105,100,116,104]⟩ 0 7 ⟨#[58]⟩ 0,.g (.bool true)),(rtwE ⟨#[58,49,112,120]⟩ 7 ⟨#[58]⟩ 0 5 ⟨#[112,120]⟩ 1,.g (.bool true)),(rtwE ⟨#[49,112,120,41]⟩ 5 ⟨#[112,120]⟩ 1 7 ⟨#[41]⟩ 0,.g (.bool true)),(rtwE ⟨#[41,123]⟩ 7 ⟨#[41]⟩ 0 7 ⟨#[123]⟩ 0,.g (.bool true)),(rtwE ⟨#[123,46]⟩ 7 ⟨#[123]⟩ 0 7 ⟨#[46]⟩ 0,.g (.bool true)),(rtwE ⟨#[46,98]⟩ 7 ⟨#[46]⟩ 0 1 ⟨#[98]⟩ 0,.g (.bool true)),(rtwE ⟨#[98,58]⟩ 1 ⟨#[98]⟩ 0 7 ⟨#[58]⟩ 0,.g (.bool true)),(rtwE ⟨#[58,104,111,118,101,114]⟩ 7 ⟨#[58]⟩ 0 1 ⟨#[104,111,118,101,114]⟩ 0,.g (.bool true)),(rtwE ⟨#[104,111,118,101,114,123]⟩ 1 ⟨#[104,111,118,101,114]⟩ 0 7 ⟨#[123]⟩ 0,.g (.bool true)),(rtwE ⟨#[58,52]⟩ 7 ⟨#[58]⟩ 0 5 ⟨#[]⟩ 4,.g (.bool true)),(rtwE ⟨#[52,125]⟩ 5 ⟨#[]⟩ 4 7 ⟨#[125]⟩ 0,.g (.bool true)),(rtwE ⟨#[125,125]⟩ 7 ⟨#[125]⟩ 0 7 ⟨#[125]⟩ 0,.g (.bool true)),(rtwE ⟨#[125,113]⟩ 7 ⟨#[125]⟩ 0 1 ⟨#[113]⟩ 0,.g (.bool true)),(rtwE ⟨#[113,58]⟩ 1 ⟨#[113]⟩ 0 7 ⟨#[58]⟩ 0,.g (.bool true)),(rtwE ⟨#[58,118,97,114,40]⟩ 7 ⟨#[58]⟩ 0 2 ⟨#[118,97,114]⟩ 0,.g (.bool true)),(rtwE ⟨#[118,97,114,40,45,45,122]⟩ 2 ⟨#[118,97,114]⟩ 0 1 ⟨#[45,45,122]⟩ 0,.g (.bool true)),(rtwE ⟨#[45,45,122,41]⟩ 1 ⟨#[45,45,122]⟩ 0 7 ⟨#[41]⟩ 0,.g (.bool true)),(rtwE ⟨#[41,125]⟩ 7 ⟨#[41]⟩ 0 7 ⟨#[125]⟩ 0,.g (.bool true)),(rtwE ⟨#[125,112]⟩ 7 ⟨#[125]⟩ 0 1 ⟨#[112]⟩ 0,.g (.bool true)),(rtwE ⟨#[112,123]⟩ 1 ⟨#[112]⟩ 0 7 ⟨#[123]⟩ 0,.g (.bool true)),(rtwE ⟨#[123,45,45,122]⟩ 7 ⟨#[123]⟩ 0 1 ⟨#[45,45,122]⟩ 0,.g (.bool true)),(rtwE ⟨#[45,45,122,58]⟩ 1 ⟨#[45,45,122]⟩ 0 7 ⟨#[58]⟩ 0,.g (.bool true)),(rtwE ⟨#[58,54]⟩ 7 ⟨#[58]⟩ 0 5 ⟨#[]⟩ 6,.g (.bool true)),(rtwE ⟨#[54,59]⟩ 5 ⟨#[]⟩ 6 7 ⟨#[59]⟩ 0,.g (.bool true)),(rtwE ⟨#[59,45,45,121]⟩ 7 ⟨#[59]⟩ 0 1 ⟨#[45,45,121]⟩ 0,.g (.bool true)),(rtwE ⟨#[45,45,121,58]⟩ 1 ⟨#[45,45,121]⟩ 0 7 ⟨#[58]⟩ 0,.g (.bool true)),(rtwE ⟨#[58,55]⟩ 7 ⟨#[58]⟩ 0 5 ⟨#[]⟩ 7,.g (.bool true)),(rtwE ⟨#[55,125]⟩ 5 ⟨#[]⟩ 7 7 ⟨#[125]⟩ 0,.g (.bool true)),(rtwE ⟨#[54,125]⟩ 5 ⟨#[]⟩ 6 7 ⟨#[125]⟩ 0,.g (.bool true))]
theorem rtwoT_all:∀ e∈rtwoT,Pure Tryz.prog (fun _=>none) 222 e.1 (.ret e.2):=by
 unfold rtwoT;simp only [List.forall_mem_cons];exact ⟨rtw0,rtw1,rtw2,rtw3,rtw4,rtw5,rtw6,rtw7,rtw8,rtw9,rtw10,rtw11,rtw12,rtw13,rtw14,rtw15,rtw16,rtw17,rtw18,rtw19,rtw20,rtw21,rtw22,rtw23,rtw24,rtw25,rtw26,rtw27,rtw28,rtw29,rtw30,rtw31,rtw32,rtw33,rtw34,rtw35,rtw36,rtw37,rtw38,rtw39,rtw40,rtw41,rtw42,rtw43,by simp⟩
theorem rtwoT_ok:ChOk Tryz.prog (fun _=>none) (tabCH (tabF 222 rtwoT)):=tabF_ok rtwoT_all ⟨_,Tryz.func222,by kernel_rfl,by kernel_rfl⟩
def rargB:AV:=(.sl 5 8 [(.g (.int .i64 (1))),(.sl 2 2 [(.sl 1 2 [(.g (.int .i64 (0))),(.sl 1 6 [(.g (.int .i64 (2))),(.g (.string ⟨#[112]⟩)),(.g (.string ⟨#[]⟩)),
 (.g (.int .i64 (0))),(.g (.int .i64 (0))),(.g (.slice none 0 0))])]),(.g (.string ⟨#[]⟩)),(.sl 1 2 [(.g (.int .i64 (0))),(.sl 1 6 [(.g (.int .i64 (2))),
 (.g (.string ⟨#[113]⟩)),(.g (.string ⟨#[]⟩)),(.g (.int .i64 (0))),(.g (.int .i64 (0))),(.g (.slice none 0 0))])]),(.g (.string ⟨#[]⟩))]),(.sl 1 3 [(.g (.string ⟨#[120]⟩)),
 (.sl 1 5 [(.g (.int .i64 (1))),(.g (.int .i64 (5))),(.g (.string ⟨#[]⟩)),(.g (.int .i64 (1))),(.g (.slice none 0 0))]),(.g (.bool false))]),(.g (.slice none 0 0)),
 (.g (.int .i64 (0))),(.g (.int .i64 (0))),(.g (.slice none 0 0)),(.g (.slice none 0 0)),(.g (.int .i64 (4))),(.g (.slice none 0 0)),(.g (.slice none 0 0)),
 (.sl 1 1 [(.g (.string ⟨#[108]⟩))]),(.g (.int .i64 (0))),(.g (.int .i64 (0))),(.g (.slice none 0 0)),(.g (.slice none 0 0)),(.g (.int .i64 (2))),(.g (.slice none 0 0)),
 (.g (.slice none 0 0)),(.g (.slice none 0 0)),(.g (.int .i64 (1))),(.g (.int .i64 (-1))),(.g (.slice none 0 0)),(.sl 1 8 [(.g (.int .i64 (1))),(.sl 1 2 [(.sl 1 2 [(.g (.int .i64 (0))),
 (.sl 2 6 [(.g (.int .i64 (4))),(.g (.string ⟨#[98]⟩)),(.g (.string ⟨#[]⟩)),(.g (.int .i64 (0))),(.g (.int .i64 (0))),(.g (.slice none 0 0)),(.g (.int .i64 (7))),
 (.g (.string ⟨#[104,111,118,101,114]⟩)),(.g (.string ⟨#[]⟩)),(.g (.int .i64 (0))),(.g (.int .i64 (0))),(.g (.slice none 0 0))])]),(.g (.string ⟨#[]⟩))]),
 (.sl 1 3 [(.g (.string ⟨#[120]⟩)),(.sl 1 5 [(.g (.int .i64 (1))),(.g (.int .i64 (5))),(.g (.string ⟨#[]⟩)),(.g (.int .i64 (4))),(.g (.slice none 0 0))]),
 (.g (.bool false))]),(.g (.slice none 0 0)),(.g (.int .i64 (0))),(.g (.int .i64 (0))),(.g (.slice none 0 0)),(.g (.slice none 0 0))]),(.g (.int .i64 (1))),
 (.sl 1 2 [(.sl 1 2 [(.g (.int .i64 (0))),(.sl 2 6 [(.g (.int .i64 (2))),(.g (.string ⟨#[113]⟩)),(.g (.string ⟨#[]⟩)),(.g (.int .i64 (0))),(.g (.int .i64 (0))),
 (.g (.slice none 0 0)),(.g (.int .i64 (7))),(.g (.string ⟨#[104,111,118,101,114]⟩)),(.g (.string ⟨#[]⟩)),(.g (.int .i64 (0))),(.g (.int .i64 (0))),
 (.g (.slice none 0 0))])]),(.g (.string ⟨#[]⟩))]),(.sl 1 3 [(.g (.string ⟨#[120]⟩)),(.sl 1 5 [(.g (.int .i64 (5))),(.g (.int .i64 (2))),(.g (.string ⟨#[118,
 97,114]⟩)),(.g (.int .i64 (0))),(.sl 1 5 [(.g (.int .i64 (1))),(.g (.int .i64 (1))),(.g (.string ⟨#[45,45,122]⟩)),(.g (.int .i64 (0))),(.g (.slice none 0 0))])]),
 (.g (.bool false))]),(.g (.slice none 0 0)),(.g (.int .i64 (0))),(.g (.int .i64 (0))),(.g (.slice none 0 0)),(.g (.slice none 0 0)),(.g (.int .i64 (1))),
 (.sl 1 2 [(.sl 1 2 [(.g (.int .i64 (0))),(.sl 1 6 [(.g (.int .i64 (2))),(.g (.string ⟨#[112]⟩)),(.g (.string ⟨#[]⟩)),(.g (.int .i64 (0))),(.g (.int .i64 (0))),
 (.g (.slice none 0 0))])]),(.g (.string ⟨#[]⟩))]),(.sl 2 3 [(.g (.string ⟨#[45,45,122]⟩)),(.sl 1 5 [(.g (.int .i64 (1))),(.g (.int .i64 (5))),(.g (.string ⟨#[]⟩)),
 (.g (.int .i64 (6))),(.g (.slice none 0 0))]),(.g (.bool false)),(.g (.string ⟨#[45,45,121]⟩)),(.sl 1 5 [(.g (.int .i64 (1))),(.g (.int .i64 (5))),
 (.g (.string ⟨#[]⟩)),(.g (.int .i64 (7))),(.g (.slice none 0 0))]),(.g (.bool false))]),(.g (.slice none 0 0)),(.g (.int .i64 (0))),(.g (.int .i64 (0))),
 (.g (.slice none 0 0)),(.g (.slice none 0 0))])
def rtextB:AV:=(.g (.string ⟨#[112,44,113,123,120,58,49,125,64,108,97,121,101,114,10,108,59,64,109,101,100,105,97,10,40,109,105,110,45,119,105,100,116,104,58,49,112,120,41,123,46,98,58,104,111,118,101,114,123,120,58,52,125,125,113,58,104,111,118,101,114,123,120,58,118,97,114,40,45,45,122,41,125,112,123,45,45,122,58,54,59,45,45,121,58,55,125]⟩))
theorem rtextB_ev:evF Tryz.prog (fun _=>none) (orCH (tabCH (tabF 222 rtwoT)) (tabCH idxO)) pol18 100000 300 40 [rargB] [] .e 0=some (.ret rtextB,.e,0):=by kernel_rfl
theorem rtextB_pure:Pure Tryz.prog (fun _=>none) 40 [rargB] (.ret rtextB):=Q2u prOk (Q4k rtwoT_ok Q2w) rtextB_ev rfl
def rargC:AV:=(.sl 5 8 [(.g (.int .i64 (1))),(.sl 2 2 [(.sl 1 2 [(.g (.int .i64 (0))),(.sl 1 6 [(.g (.int .i64 (2))),(.g (.string ⟨#[112]⟩)),(.g (.string ⟨#[]⟩)),
 (.g (.int .i64 (0))),(.g (.int .i64 (0))),(.g (.slice none 0 0))])]),(.g (.string ⟨#[]⟩)),(.sl 1 2 [(.g (.int .i64 (0))),(.sl 1 6 [(.g (.int .i64 (2))),
 (.g (.string ⟨#[113]⟩)),(.g (.string ⟨#[]⟩)),(.g (.int .i64 (0))),(.g (.int .i64 (0))),(.g (.slice none 0 0))])]),(.g (.string ⟨#[]⟩))]),(.sl 1 3 [(.g (.string ⟨#[120]⟩)),
 (.sl 1 5 [(.g (.int .i64 (1))),(.g (.int .i64 (5))),(.g (.string ⟨#[]⟩)),(.g (.int .i64 (1))),(.g (.slice none 0 0))]),(.g (.bool false))]),(.g (.slice none 0 0)),
 (.g (.int .i64 (0))),(.g (.int .i64 (0))),(.g (.slice none 0 0)),(.g (.slice none 0 0)),(.g (.int .i64 (4))),(.g (.slice none 0 0)),(.g (.slice none 0 0)),
 (.sl 1 1 [(.g (.string ⟨#[108]⟩))]),(.g (.int .i64 (0))),(.g (.int .i64 (0))),(.g (.slice none 0 0)),(.g (.slice none 0 0)),(.g (.int .i64 (2))),(.g (.slice none 0 0)),
 (.g (.slice none 0 0)),(.g (.slice none 0 0)),(.g (.int .i64 (1))),(.g (.int .i64 (-1))),(.g (.slice none 0 0)),(.sl 1 8 [(.g (.int .i64 (1))),(.sl 1 2 [(.sl 1 2 [(.g (.int .i64 (0))),
 (.sl 2 6 [(.g (.int .i64 (4))),(.g (.string ⟨#[98]⟩)),(.g (.string ⟨#[]⟩)),(.g (.int .i64 (0))),(.g (.int .i64 (0))),(.g (.slice none 0 0)),(.g (.int .i64 (7))),
 (.g (.string ⟨#[104,111,118,101,114]⟩)),(.g (.string ⟨#[]⟩)),(.g (.int .i64 (0))),(.g (.int .i64 (0))),(.g (.slice none 0 0))])]),(.g (.string ⟨#[]⟩))]),
 (.sl 1 3 [(.g (.string ⟨#[120]⟩)),(.sl 1 5 [(.g (.int .i64 (1))),(.g (.int .i64 (5))),(.g (.string ⟨#[]⟩)),(.g (.int .i64 (4))),(.g (.slice none 0 0))]),
 (.g (.bool false))]),(.g (.slice none 0 0)),(.g (.int .i64 (0))),(.g (.int .i64 (0))),(.g (.slice none 0 0)),(.g (.slice none 0 0))]),(.g (.int .i64 (1))),
 (.sl 1 2 [(.sl 1 2 [(.g (.int .i64 (0))),(.sl 2 6 [(.g (.int .i64 (2))),(.g (.string ⟨#[113]⟩)),(.g (.string ⟨#[]⟩)),(.g (.int .i64 (0))),(.g (.int .i64 (0))),
 (.g (.slice none 0 0)),(.g (.int .i64 (7))),(.g (.string ⟨#[104,111,118,101,114]⟩)),(.g (.string ⟨#[]⟩)),(.g (.int .i64 (0))),(.g (.int .i64 (0))),
 (.g (.slice none 0 0))])]),(.g (.string ⟨#[]⟩))]),(.sl 1 3 [(.g (.string ⟨#[120]⟩)),(.sl 1 5 [(.g (.int .i64 (5))),(.g (.int .i64 (2))),(.g (.string ⟨#[118,
 97,114]⟩)),(.g (.int .i64 (0))),(.sl 1 5 [(.g (.int .i64 (1))),(.g (.int .i64 (1))),(.g (.string ⟨#[45,45,122]⟩)),(.g (.int .i64 (0))),(.g (.slice none 0 0))])]),
 (.g (.bool false))]),(.g (.slice none 0 0)),(.g (.int .i64 (0))),(.g (.int .i64 (0))),(.g (.slice none 0 0)),(.g (.slice none 0 0)),(.g (.int .i64 (1))),
 (.sl 1 2 [(.sl 1 2 [(.g (.int .i64 (0))),(.sl 1 6 [(.g (.int .i64 (2))),(.g (.string ⟨#[112]⟩)),(.g (.string ⟨#[]⟩)),(.g (.int .i64 (0))),(.g (.int .i64 (0))),
 (.g (.slice none 0 0))])]),(.g (.string ⟨#[]⟩))]),(.sl 1 3 [(.g (.string ⟨#[45,45,122]⟩)),(.sl 1 5 [(.g (.int .i64 (1))),(.g (.int .i64 (5))),(.g (.string ⟨#[]⟩)),
 (.g (.int .i64 (6))),(.g (.slice none 0 0))]),(.g (.bool false))]),(.g (.slice none 0 0)),(.g (.int .i64 (0))),(.g (.int .i64 (0))),(.g (.slice none 0 0)),
 (.g (.slice none 0 0))])
def rtextC:AV:=(.g (.string ⟨#[112,44,113,123,120,58,49,125,64,108,97,121,101,114,10,108,59,64,109,101,100,105,97,10,40,109,105,110,45,119,105,100,116,104,58,49,112,120,41,123,46,98,58,104,111,118,101,114,123,120,58,52,125,125,113,58,104,111,118,101,114,123,120,58,118,97,114,40,45,45,122,41,125,112,123,45,45,122,58,54,125]⟩))
theorem rtextC_ev:evF Tryz.prog (fun _=>none) (orCH (tabCH (tabF 222 rtwoT)) (tabCH idxO)) pol18 100000 300 40 [rargC] [] .e 0=some (.ret rtextC,.e,0):=by kernel_rfl
theorem rtextC_pure:Pure Tryz.prog (fun _=>none) 40 [rargC] (.ret rtextC):=Q2u prOk (Q4k rtwoT_ok Q2w) rtextC_ev rfl
def rpol:FuncId→Bool:=fun f=>pol18 f&&!(Nat.beq f 148||Nat.beq f 248||Nat.beq f 146||Nat.beq f 345||Nat.beq f 117)
def rsafe0:AV:=(.agg [(.sl 1 1 [(.g (.string ⟨#[98]⟩))]),(.g (.slice none 0 0))])
def rpages0:AV:=(.sl 2 1 [(.sl 2 5 [(.g (.string ⟨#[]⟩)),(.g (.slice none 0 0)),(.g (.string ⟨#[]⟩)),(.g (.int .i64 (-1))),(.sl 1 1 [(.g (.int .i64 (1)))]),(.g (.string ⟨#[112]⟩)),
 (.g (.slice none 0 0)),(.g (.string ⟨#[]⟩)),(.g (.int .i64 (0))),(.g (.slice none 0 0))]),(.sl 2 5 [(.g (.string ⟨#[]⟩)),(.g (.slice none 0 0)),(.g (.string ⟨#[]⟩)),
 (.g (.int .i64 (-1))),(.sl 1 1 [(.g (.int .i64 (1)))]),(.g (.string ⟨#[113]⟩)),(.sl 1 2 [(.g (.string ⟨#[99,108,97,115,115]⟩)),(.g (.string ⟨#[97]⟩))]),
 (.g (.string ⟨#[]⟩)),(.g (.int .i64 (0))),(.g (.slice none 0 0))])])
theorem ran0:Pure Tryz.prog (fun _=>none) 30 [rsafe0,(.agg [(.sl 1 2 [(.g (.int .i64 (0))),(.sl 1 6 [(.g (.int .i64 (2))),(.g (.string ⟨#[112]⟩)),(.g (.string ⟨#[]⟩)),(.g (.int .i64 (0))),(.g (.int .i64 (0))),
 (.g (.slice none 0 0))])]),(.g (.string ⟨#[]⟩))]),rpages0] (.ret (.g (.int .i64 (2)))):=Q2u prOk Q2w (pol:=rpol) (K:=100000) (n:=300) (by kernel_rfl) rfl
theorem ran1:Pure Tryz.prog (fun _=>none) 30 [rsafe0,(.agg [(.sl 1 2 [(.g (.int .i64 (0))),(.sl 1 6 [(.g (.int .i64 (2))),(.g (.string ⟨#[113]⟩)),(.g (.string ⟨#[]⟩)),(.g (.int .i64 (0))),(.g (.int .i64 (0))),
 (.g (.slice none 0 0))])]),(.g (.string ⟨#[]⟩))]),rpages0] (.ret (.g (.int .i64 (2)))):=Q2u prOk Q2w (pol:=rpol) (K:=100000) (n:=300) (by kernel_rfl) rfl
theorem ran2:Pure Tryz.prog (fun _=>none) 30 [rsafe0,(.agg [(.sl 1 2 [(.g (.int .i64 (0))),(.sl 1 6 [(.g (.int .i64 (2))),(.g (.string ⟨#[114]⟩)),(.g (.string ⟨#[]⟩)),(.g (.int .i64 (0))),(.g (.int .i64 (0))),
 (.g (.slice none 0 0))])]),(.g (.string ⟨#[]⟩))]),rpages0] (.ret (.g (.int .i64 (0)))):=Q2u prOk Q2w (pol:=rpol) (K:=100000) (n:=300) (by kernel_rfl) rfl
theorem ran3:Pure Tryz.prog (fun _=>none) 30 [rsafe0,(.agg [(.sl 1 2 [(.g (.int .i64 (0))),(.sl 2 6 [(.g (.int .i64 (4))),(.g (.string ⟨#[98]⟩)),(.g (.string ⟨#[]⟩)),(.g (.int .i64 (0))),(.g (.int .i64 (0))),
 (.g (.slice none 0 0)),(.g (.int .i64 (7))),(.g (.string ⟨#[104,111,118,101,114]⟩)),(.g (.string ⟨#[]⟩)),(.g (.int .i64 (0))),(.g (.int .i64 (0))),
 (.g (.slice none 0 0))])]),(.g (.string ⟨#[]⟩))]),rpages0] (.ret (.g (.int .i64 (1)))):=Q2u prOk Q2w (pol:=rpol) (K:=100000) (n:=300) (by kernel_rfl) rfl
theorem ran4:Pure Tryz.prog (fun _=>none) 30 [rsafe0,(.agg [(.sl 2 2 [(.g (.int .i64 (0))),(.sl 1 6 [(.g (.int .i64 (2))),(.g (.string ⟨#[113]⟩)),(.g (.string ⟨#[]⟩)),(.g (.int .i64 (0))),(.g (.int .i64 (0))),
 (.g (.slice none 0 0))]),(.g (.int .i64 (1))),(.sl 1 6 [(.g (.int .i64 (4))),(.g (.string ⟨#[97]⟩)),(.g (.string ⟨#[]⟩)),(.g (.int .i64 (0))),(.g (.int .i64 (0))),
 (.g (.slice none 0 0))])]),(.g (.string ⟨#[]⟩))]),rpages0] (.ret (.g (.int .i64 (0)))):=Q2u prOk Q2w (pol:=rpol) (K:=100000) (n:=300) (by kernel_rfl) rfl
theorem ran5:Pure Tryz.prog (fun _=>none) 30 [rsafe0,(.agg [(.sl 1 2 [(.g (.int .i64 (0))),(.sl 2 6 [(.g (.int .i64 (2))),(.g (.string ⟨#[113]⟩)),(.g (.string ⟨#[]⟩)),(.g (.int .i64 (0))),(.g (.int .i64 (0))),
 (.g (.slice none 0 0)),(.g (.int .i64 (7))),(.g (.string ⟨#[104,111,118,101,114]⟩)),(.g (.string ⟨#[]⟩)),(.g (.int .i64 (0))),(.g (.int .i64 (0))),
 (.g (.slice none 0 0))])]),(.g (.string ⟨#[]⟩))]),rpages0] (.ret (.g (.int .i64 (1)))):=Q2u prOk Q2w (pol:=rpol) (K:=100000) (n:=300) (by kernel_rfl) rfl
def ranT:List (List AV×AV):=[([rsafe0,(.agg [(.sl 1 2 [(.g (.int .i64 (0))),(.sl 1 6 [(.g (.int .i64 (2))),(.g (.string ⟨#[112]⟩)),(.g (.string ⟨#[]⟩)),(.g (.int .i64 (0))),(.g (.int .i64 (0))),
 (.g (.slice none 0 0))])]),(.g (.string ⟨#[]⟩))]),rpages0],(.g (.int .i64 (2)))),
 ([rsafe0,(.agg [(.sl 1 2 [(.g (.int .i64 (0))),(.sl 1 6 [(.g (.int .i64 (2))),(.g (.string ⟨#[113]⟩)),(.g (.string ⟨#[]⟩)),(.g (.int .i64 (0))),(.g (.int .i64 (0))),
 (.g (.slice none 0 0))])]),(.g (.string ⟨#[]⟩))]),rpages0],(.g (.int .i64 (2)))),
 ([rsafe0,(.agg [(.sl 1 2 [(.g (.int .i64 (0))),(.sl 1 6 [(.g (.int .i64 (2))),(.g (.string ⟨#[114]⟩)),(.g (.string ⟨#[]⟩)),(.g (.int .i64 (0))),(.g (.int .i64 (0))),
 (.g (.slice none 0 0))])]),(.g (.string ⟨#[]⟩))]),rpages0],(.g (.int .i64 (0)))),
 ([rsafe0,(.agg [(.sl 1 2 [(.g (.int .i64 (0))),(.sl 2 6 [(.g (.int .i64 (4))),(.g (.string ⟨#[98]⟩)),(.g (.string ⟨#[]⟩)),(.g (.int .i64 (0))),(.g (.int .i64 (0))),
 (.g (.slice none 0 0)),(.g (.int .i64 (7))),(.g (.string ⟨#[104,111,118,101,114]⟩)),(.g (.string ⟨#[]⟩)),(.g (.int .i64 (0))),(.g (.int .i64 (0))),
 (.g (.slice none 0 0))])]),(.g (.string ⟨#[]⟩))]),rpages0],(.g (.int .i64 (1)))),
 ([rsafe0,(.agg [(.sl 2 2 [(.g (.int .i64 (0))),(.sl 1 6 [(.g (.int .i64 (2))),(.g (.string ⟨#[113]⟩)),(.g (.string ⟨#[]⟩)),(.g (.int .i64 (0))),(.g (.int .i64 (0))),
 (.g (.slice none 0 0))]),(.g (.int .i64 (1))),(.sl 1 6 [(.g (.int .i64 (4))),(.g (.string ⟨#[97]⟩)),(.g (.string ⟨#[]⟩)),(.g (.int .i64 (0))),(.g (.int .i64 (0))),
 (.g (.slice none 0 0))])]),(.g (.string ⟨#[]⟩))]),rpages0],(.g (.int .i64 (0)))),
 ([rsafe0,(.agg [(.sl 1 2 [(.g (.int .i64 (0))),(.sl 2 6 [(.g (.int .i64 (2))),(.g (.string ⟨#[113]⟩)),(.g (.string ⟨#[]⟩)),(.g (.int .i64 (0))),(.g (.int .i64 (0))),
 (.g (.slice none 0 0)),(.g (.int .i64 (7))),(.g (.string ⟨#[104,111,118,101,114]⟩)),(.g (.string ⟨#[]⟩)),(.g (.int .i64 (0))),(.g (.int .i64 (0))),
 (.g (.slice none 0 0))])]),(.g (.string ⟨#[]⟩))]),rpages0],(.g (.int .i64 (1))))]
theorem ranT_all:∀ e∈ranT,Pure Tryz.prog (fun _=>none) 30 e.1 (.ret e.2)∧∃ k:Int,e.2=.g (.int .i64 k):=by
 unfold ranT;simp only [List.forall_mem_cons];exact ⟨⟨ran0,_,rfl⟩,⟨ran1,_,rfl⟩,⟨ran2,_,rfl⟩,⟨ran3,_,rfl⟩,⟨ran4,_,rfl⟩,⟨ran5,_,rfl⟩,by simp⟩
def rO:FuncId→List AV→Option AV:=tabF 30 ranT
theorem rO_ok {GT:GTab}:ChOk Tryz.prog GT (shutCH (fun f=>Nat.beq f 30) 1000 rO):=by
 refine shutCH_ok fun f args a _ h=>?_;unfold rO tabF at h
 split at h
 ·rename_i hb
  obtain rfl:f=30:=Nat.eq_of_beq_eq_true hb;obtain ⟨hp,k,hk⟩:=ranT_all _ (findT_mem h);obtain rfl:a=.g (.int .i64 k):=hk;refine ⟨fun w rargs ha=>?_,_,Tryz.func30,by kernel_rfl,by kernel_rfl⟩;refine (hp.at w rargs (fun g cs h=>by cases h) ha).mono ?_;rintro e w' ⟨r,rfl,hr,hB⟩;exact ⟨r,rfl,hr,hB⟩
 ·cases h
def rOB:FuncId→List AV→Option AV:=oneO 40 rargB rtextB
theorem rOB_ok {GT:GTab}:ChOk Tryz.prog GT (shutCH (fun f=>Nat.beq f 40) 1000 rOB):=by
 refine shutCH_ok fun f args a _ h=>?_;obtain ⟨rfl,rfl,rfl⟩:=oneO_spec h;refine ⟨fun w rargs ha=>?_,_,Tryz.func40,by kernel_rfl,by kernel_rfl⟩;refine (rtextB_pure.at w rargs (fun g cs h=>by cases h) ha).mono ?_;rintro e w' ⟨r,rfl,hr,hB⟩;exact ⟨r,rfl,hr,hB⟩
def rOC:FuncId→List AV→Option AV:=oneO 40 rargC rtextC
theorem rOC_ok {GT:GTab}:ChOk Tryz.prog GT (shutCH (fun f=>Nat.beq f 40) 1000 rOC):=by
 refine shutCH_ok fun f args a _ h=>?_;obtain ⟨rfl,rfl,rfl⟩:=oneO_spec h;refine ⟨fun w rargs ha=>?_,_,Tryz.func40,by kernel_rfl,by kernel_rfl⟩;refine (rtextC_pure.at w rargs (fun g cs h=>by cases h) ha).mono ?_;rintro e w' ⟨r,rfl,hr,hB⟩;exact ⟨r,rfl,hr,hB⟩
def rch:CH:=orCH addCH (orCH (shutCH pick18 1000 known18) (orCH (shutCH (fun f=>Nat.beq f 30) 1000 rO) (orCH (tabCH (oneO 79 rargA rparse)) (orCH (shutCH (fun f=>Nat.beq f 40) 1000 rOB) (orCH (shutCH (fun f=>Nat.beq f 40) 1000 rOC) (tabCH idxO))))))
theorem rch_ok:ChOk Tryz.prog (fun _=>none) rch:=Q4k addCH_ok (Q4k known18_ok (Q4k rO_ok (Q4k (oneO_ok rparse_pure ⟨_,Tryz.func79,by kernel_rfl,by kernel_rfl⟩) (Q4k rOB_ok (Q4k rOC_ok Q2w)))))
theorem fixed19_ev:evF Tryz.prog (fun _=>none) rch rpol 100000 300 24 [] [] .e 0=some (.ret (.g (.bool true)),.e,0):=by kernel_rfl
theorem fixed19_any (w:World):Calls Tryz.prog 24 #[] w fun e w'=>e=.returned (.bool true)∧Below w.heap.size w w':=by
 have hp:Pure Tryz.prog (fun _=>none) 24 [] (.ret (.g (.bool true))):=Q2u prOk rch_ok fixed19_ev rfl;refine (hp.at w #[] (fun g cs h=>by cases h) (by rw [Ats,VRs])).mono ?_;rintro e w' ⟨r,rfl,hr,hB⟩;obtain rfl:r=.bool true:=hr;exact ⟨rfl,hB⟩
end Go.Proofs.YtabliahkhafddaaGreat
namespace Go.Proofs.YtabliahkhafddaaGreat
theorem Q0z {a b:Bool} (ha:a=true) (hb:b=true):(a&&b)=true:=by subst ha hb;rfl
theorem p_laid:laidOutB Tryz.prog=true:=by kernel_rfl
theorem p_rowed:mapsRowed Tryz.prog=true:=by kernel_rfl
theorem p_keys:Tryz.prog.plainKeys=false:=by kernel_rfl
theorem p_heard:Tryz.prog.stopsHeard=true:=by kernel_rfl
theorem p_enter:Tryz.prog.mayEnter=true:=by kernel_rfl
namespace shakeExact
theorem row_named:Tryz.prog.funcNamed Rows.shakeExactRow.func=some 7:=by kernel_rfl
theorem row_inPlace:Rows.shakeExactRow.inPlace=Tryz.prog.inPlace 7:=by kernel_rfl
theorem row_unfollowed:Rows.shakeExactRow.unfollowed=Tryz.prog.unfollowed 7:=by kernel_rfl
theorem row_recurses:Rows.shakeExactRow.recurses=Tryz.prog.recurses 7:=by kernel_rfl
theorem row_vars:Rows.shakeExactRow.named=Tryz.prog.varsNamed 7:=by kernel_rfl
theorem row_wrapper:Tryz.f7.isWrapper Tryz.prog Rows.shakeExactRow.wrapper Rows.shakeExactRow.mainSum:=by
 unfold Func.isWrapper
 first | (rw [if_pos (by decide +kernel)];kernel_rfl) | (rw [if_neg (by decide +kernel)];exact ⟨rfl,rfl⟩)
theorem closed:joinedFacts Tryz.prog 7 Tryz.f7 Rows.shakeExactSpec Rows.shakeExactRow=true:=by
 unfold joinedFacts;exact Q0z (Q0z (Q0z (Q0z (Q0z (Q0z (Q0z (Q0z (Q0z (Q0z (Q0z (Q0z (Q0z (Q0z (Q0z (Q0z (Q0z (Q0z (Q0z (Q0z (Q0z (Q0z (Q0z (Q0z (Q0z (Q0z (Q0z (Q0z (Q0z (Q0z (Q0z (by kernel_rfl) p_laid) p_rowed) (by kernel_rfl)) (by kernel_rfl)) (by kernel_rfl)) (by kernel_rfl)) (by kernel_rfl)) (by kernel_rfl)) (beq_iff_eq.2 row_inPlace)) (beq_iff_eq.2 row_unfollowed)) (beq_iff_eq.2 row_recurses)) (beq_iff_eq.2 row_vars)) (by kernel_rfl)) (by kernel_rfl)) (by kernel_rfl)) (by kernel_rfl)) (by kernel_rfl)) (by kernel_rfl)) (by kernel_rfl)) (by kernel_rfl)) (by kernel_rfl)) (beq_iff_eq.2 p_keys.symm)) (by kernel_rfl)) p_heard) p_enter) (by kernel_rfl)) (by kernel_rfl)) (by kernel_rfl)) (by kernel_rfl)) (by kernel_rfl)) (by kernel_rfl)
end shakeExact
end Go.Proofs.YtabliahkhafddaaGreat
end
