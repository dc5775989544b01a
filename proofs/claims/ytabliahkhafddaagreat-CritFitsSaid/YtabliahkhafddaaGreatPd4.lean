/- What the long text of winnowinglaw21.fixed is parsed as. -/
import Derived.Test.YtabliahkhafddaaGreatPd3
set_option linter.unusedSimpArgs false
noncomputable section
namespace Go.Proofs.YtabliahkhafddaaGreat
open Go.RowKit Go.Ev
def ctk (k:Int) (s:ByteArray) (n:Int):AV:=.agg [.g (.int .i64 k),.g (.string s),.g (.int .i64 n)]
def ctwE (t:ByteArray) (k:Int) (s:ByteArray) (n k2:Int) (s2:ByteArray) (n2:Int):List AV:=[.g (.string t),ctk k s n,ctk k2 s2 n2]
abbrev cTW (t:ByteArray) (k:Int) (s:ByteArray) (n k2:Int) (s2:ByteArray) (n2:Int) (b:Bool):Prop:=Pure Tryz.prog (fun _=>none) 222 (ctwE t k s n k2 s2 n2) (.ret (.g (.bool b)))
theorem ctwP {t s s2:ByteArray} {k n k2 n2:Int} {b:Bool} (h:evF Tryz.prog (fun _=>none) (tabCH idxO) pol18 100000 300 222 (ctwE t k s n k2 s2 n2) [] .e 0=some (.ret (.g (.bool b)),.e,0)):cTW t k s n k2 s2 n2 b:=evF_pure prOk idxO_ok h rfl
theorem ctw0:cTW ⟨#[112,123]⟩ 1 ⟨#[112]⟩ 0 7 ⟨#[123]⟩ 0 true:=ctwP (by kernel_rfl)
theorem ctw1:cTW ⟨#[123,120]⟩ 7 ⟨#[123]⟩ 0 1 ⟨#[120]⟩ 0 true:=ctwP (by kernel_rfl)
theorem ctw2:cTW ⟨#[120,58]⟩ 1 ⟨#[120]⟩ 0 7 ⟨#[58]⟩ 0 true:=ctwP (by kernel_rfl)
theorem ctw3:cTW ⟨#[58,49]⟩ 7 ⟨#[58]⟩ 0 5 ⟨#[]⟩ 1 true:=ctwP (by kernel_rfl)
theorem ctw4:cTW ⟨#[49,125]⟩ 5 ⟨#[]⟩ 1 7 ⟨#[125]⟩ 0 true:=ctwP (by kernel_rfl)
theorem ctw5:cTW ⟨#[125,64,108,97,121,101,114]⟩ 7 ⟨#[125]⟩ 0 3 ⟨#[108,97,121,101,114]⟩ 0 true:=ctwP (by kernel_rfl)
theorem ctw6:cTW ⟨#[64,108,97,121,101,114,10]⟩ 3 ⟨#[108,97,121,101,114]⟩ 0 8 ⟨#[10]⟩ 0 true:=ctwP (by kernel_rfl)
theorem ctw7:cTW ⟨#[10,108]⟩ 8 ⟨#[10]⟩ 0 1 ⟨#[108]⟩ 0 true:=ctwP (by kernel_rfl)
theorem ctw8:cTW ⟨#[108,59]⟩ 1 ⟨#[108]⟩ 0 7 ⟨#[59]⟩ 0 true:=ctwP (by kernel_rfl)
theorem ctw9:cTW ⟨#[59,100,105,118]⟩ 7 ⟨#[59]⟩ 0 1 ⟨#[100,105,118]⟩ 0 true:=ctwP (by kernel_rfl)
theorem ctw10:cTW ⟨#[100,105,118,58]⟩ 1 ⟨#[100,105,118]⟩ 0 7 ⟨#[58]⟩ 0 true:=ctwP (by kernel_rfl)
theorem ctw11:cTW ⟨#[58,104,111,118,101,114]⟩ 7 ⟨#[58]⟩ 0 1 ⟨#[104,111,118,101,114]⟩ 0 true:=ctwP (by kernel_rfl)
theorem ctw12:cTW ⟨#[104,111,118,101,114,123]⟩ 1 ⟨#[104,111,118,101,114]⟩ 0 7 ⟨#[123]⟩ 0 true:=ctwP (by kernel_rfl)
theorem ctw13:cTW ⟨#[123,121]⟩ 7 ⟨#[123]⟩ 0 1 ⟨#[121]⟩ 0 true:=ctwP (by kernel_rfl)
theorem ctw14:cTW ⟨#[121,58]⟩ 1 ⟨#[121]⟩ 0 7 ⟨#[58]⟩ 0 true:=ctwP (by kernel_rfl)
theorem ctw15:cTW ⟨#[58,118,97,114,40]⟩ 7 ⟨#[58]⟩ 0 2 ⟨#[118,97,114]⟩ 0 true:=ctwP (by kernel_rfl)
theorem ctw16:cTW ⟨#[118,97,114,40,45,45,122]⟩ 2 ⟨#[118,97,114]⟩ 0 1 ⟨#[45,45,122]⟩ 0 true:=ctwP (by kernel_rfl)
theorem ctw17:cTW ⟨#[45,45,122,41]⟩ 1 ⟨#[45,45,122]⟩ 0 7 ⟨#[41]⟩ 0 true:=ctwP (by kernel_rfl)
theorem ctw18:cTW ⟨#[41,125]⟩ 7 ⟨#[41]⟩ 0 7 ⟨#[125]⟩ 0 true:=ctwP (by kernel_rfl)
theorem ctw19:cTW ⟨#[125,42]⟩ 7 ⟨#[125]⟩ 0 7 ⟨#[42]⟩ 0 true:=ctwP (by kernel_rfl)
theorem ctw20:cTW ⟨#[42,123]⟩ 7 ⟨#[42]⟩ 0 7 ⟨#[123]⟩ 0 true:=ctwP (by kernel_rfl)
theorem ctw21:cTW ⟨#[123,45,45,122]⟩ 7 ⟨#[123]⟩ 0 1 ⟨#[45,45,122]⟩ 0 true:=ctwP (by kernel_rfl)
theorem ctw22:cTW ⟨#[45,45,122,58]⟩ 1 ⟨#[45,45,122]⟩ 0 7 ⟨#[58]⟩ 0 true:=ctwP (by kernel_rfl)
theorem ctw23:cTW ⟨#[58,52]⟩ 7 ⟨#[58]⟩ 0 5 ⟨#[]⟩ 4 true:=ctwP (by kernel_rfl)
theorem ctw24:cTW ⟨#[52,125]⟩ 5 ⟨#[]⟩ 4 7 ⟨#[125]⟩ 0 true:=ctwP (by kernel_rfl)
def ctwoT:List (List AV×AV):=[(ctwE ⟨#[112,123]⟩ 1 ⟨#[112]⟩ 0 7 ⟨#[123]⟩ 0,.g (.bool true)),(ctwE ⟨#[123,120]⟩ 7 ⟨#[123]⟩ 0 1 ⟨#[120]⟩ 0,.g (.bool true)),(ctwE ⟨#[120,58]⟩ 1 ⟨#[120]⟩ 0 7 ⟨#[58]⟩ 0,.g (.bool true)),(ctwE ⟨#[58,49]⟩ 7 ⟨#[58]⟩ 0 5 ⟨#[]⟩ 1,.g (.bool true)),(ctwE ⟨#[49,125]⟩ 5 ⟨#[]⟩ 1 7 ⟨#[125]⟩ 0,.g (.bool true)),(ctwE ⟨#[125,64,108,97,121,101,114]⟩ 7 ⟨#[125]⟩ 0 3 ⟨#[108,97,121,101,114]⟩ 0,.g (.bool true)),(ctwE ⟨#[64,108,97,121,101,114,10]⟩ 3 ⟨#[108,97,121,101,114]⟩ 0 8 ⟨#[10]⟩ 0,.g (.bool true)),(ctwE ⟨#[10,108]⟩ 8 ⟨#[10]⟩ 0 1 ⟨#[108]⟩ 0,.g (.bool true)),(ctwE ⟨#[108,59]⟩ 1 ⟨#[108]⟩ 0 7 ⟨#[59]⟩ 0,.g (.bool true)),(ctwE ⟨#[59,100,105,118]⟩ 7 ⟨#[59]⟩ 0 1 ⟨#[100,105,118]⟩ 0,.g (.bool true)),(ctwE ⟨#[100,105,118,58]⟩ 1 ⟨#[100,105,118]⟩ 0 7 ⟨#[58]⟩ 0,.g (.bool true)),(ctwE ⟨#[58,104,111,118,101,114]⟩ 7 ⟨#[58]⟩ 0 1 ⟨#[104,111,118,101,114]⟩ 0,.g (.bool true)),(ctwE ⟨#[104,111,118,101,114,123]⟩ 1 ⟨#[104,111,118,101,114]⟩ 0 7 ⟨#[123]⟩ 0,.g (.bool true)),(ctwE ⟨#[123,121]⟩ 7 ⟨#[123]⟩ 0 1 ⟨#[121]⟩ 0,.g (.bool true)),(ctwE ⟨#[121,58]⟩ 1 ⟨#[121]⟩ 0 7 ⟨#[58]⟩ 0,.g (.bool true)),(ctwE ⟨#[58,118,97,114,40]⟩ 7 ⟨#[58]⟩ 0 2 ⟨#[118,97,114]⟩ 0,.g (.bool true)),(ctwE ⟨#[118,97,114,40,45,45,122]⟩ 2 ⟨#[118,97,114]⟩ 0 1 ⟨#[45,45,122]⟩ 0,.g (.bool true)),(ctwE ⟨#[45,45,122,41]⟩ 1 ⟨#[45,45,122]⟩ 0 7 ⟨#[41]⟩ 0,.g (.bool true)),(ctwE ⟨#[41,125]⟩ 7 ⟨#[41]⟩ 0 7 ⟨#[125]⟩ 0,.g (.bool true)),(ctwE ⟨#[125,42]⟩ 7 ⟨#[125]⟩ 0 7 ⟨#[42]⟩ 0,.g (.bool true)),(ctwE ⟨#[42,123]⟩ 7 ⟨#[42]⟩ 0 7 ⟨#[123]⟩ 0,.g (.bool true)),(ctwE ⟨#[123,45,45,122]⟩ 7 ⟨#[123]⟩ 0 1 ⟨#[45,45,122]⟩ 0,.g (.bool true)),(ctwE ⟨#[45,45,122,58]⟩ 1 ⟨#[45,45,122]⟩ 0 7 ⟨#[58]⟩ 0,.g (.bool true)),(ctwE ⟨#[58,52]⟩ 7 ⟨#[58]⟩ 0 5 ⟨#[]⟩ 4,.g (.bool true)),(ctwE ⟨#[52,125]⟩ 5 ⟨#[]⟩ 4 7 ⟨#[125]⟩ 0,.g (.bool true))]
theorem ctwoT_all:∀ e∈ctwoT,Pure Tryz.prog (fun _=>none) 222 e.1 (.ret e.2):=by
 unfold ctwoT;simp only [List.forall_mem_cons];exact ⟨ctw0,ctw1,ctw2,ctw3,ctw4,ctw5,ctw6,ctw7,ctw8,ctw9,ctw10,ctw11,ctw12,ctw13,ctw14,ctw15,ctw16,ctw17,ctw18,ctw19,ctw20,ctw21,ctw22,ctw23,ctw24,by simp⟩
theorem ctwoT_ok:ChOk Tryz.prog (fun _=>none) (tabCH (tabF 222 ctwoT)):=tabF_ok ctwoT_all ⟨_,Tryz.func222,by kernel_rfl,by kernel_rfl⟩
def cargB:AV:=(.sl 4 8 [(.g (.int .i64 (1))),(.sl 1 2 [(.sl 1 2 [(.g (.int .i64 (0))),(.sl 1 6 [(.g (.int .i64 (2))),(.g (.string ⟨#[112]⟩)),(.g (.string ⟨#[]⟩)),
 (.g (.int .i64 (0))),(.g (.int .i64 (0))),(.g (.slice none 0 0))])]),(.g (.string ⟨#[]⟩))]),(.sl 1 3 [(.g (.string ⟨#[120]⟩)),(.sl 1 5 [(.g (.int .i64 (1))),
 (.g (.int .i64 (5))),(.g (.string ⟨#[]⟩)),(.g (.int .i64 (1))),(.g (.slice none 0 0))]),(.g (.bool false))]),(.g (.slice none 0 0)),(.g (.int .i64 (0))),
 (.g (.int .i64 (0))),(.g (.slice none 0 0)),(.g (.slice none 0 0)),(.g (.int .i64 (4))),(.g (.slice none 0 0)),(.g (.slice none 0 0)),(.sl 1 1 [(.g (.string ⟨#[108]⟩))]),
 (.g (.int .i64 (0))),(.g (.int .i64 (0))),(.g (.slice none 0 0)),(.g (.slice none 0 0)),(.g (.int .i64 (1))),(.sl 1 2 [(.sl 1 2 [(.g (.int .i64 (0))),
 (.sl 2 6 [(.g (.int .i64 (2))),(.g (.string ⟨#[100,105,118]⟩)),(.g (.string ⟨#[]⟩)),(.g (.int .i64 (0))),(.g (.int .i64 (0))),(.g (.slice none 0 0)),
 (.g (.int .i64 (7))),(.g (.string ⟨#[104,111,118,101,114]⟩)),(.g (.string ⟨#[]⟩)),(.g (.int .i64 (0))),(.g (.int .i64 (0))),(.g (.slice none 0 0))])]),
 (.g (.string ⟨#[]⟩))]),(.sl 1 3 [(.g (.string ⟨#[121]⟩)),(.sl 1 5 [(.g (.int .i64 (5))),(.g (.int .i64 (2))),(.g (.string ⟨#[118,97,114]⟩)),(.g (.int .i64 (0))),
 (.sl 1 5 [(.g (.int .i64 (1))),(.g (.int .i64 (1))),(.g (.string ⟨#[45,45,122]⟩)),(.g (.int .i64 (0))),(.g (.slice none 0 0))])]),(.g (.bool false))]),
 (.g (.slice none 0 0)),(.g (.int .i64 (0))),(.g (.int .i64 (0))),(.g (.slice none 0 0)),(.g (.slice none 0 0)),(.g (.int .i64 (1))),(.sl 1 2 [(.sl 1 2 [(.g (.int .i64 (0))),
 (.sl 1 6 [(.g (.int .i64 (1))),(.g (.string ⟨#[]⟩)),(.g (.string ⟨#[]⟩)),(.g (.int .i64 (0))),(.g (.int .i64 (0))),(.g (.slice none 0 0))])]),(.g (.string ⟨#[]⟩))]),
 (.sl 1 3 [(.g (.string ⟨#[45,45,122]⟩)),(.sl 1 5 [(.g (.int .i64 (1))),(.g (.int .i64 (5))),(.g (.string ⟨#[]⟩)),(.g (.int .i64 (4))),(.g (.slice none 0 0))]),
 (.g (.bool false))]),(.g (.slice none 0 0)),(.g (.int .i64 (0))),(.g (.int .i64 (0))),(.g (.slice none 0 0)),(.g (.slice none 0 0))])
def ctextB:AV:=(.g (.string ⟨#[112,123,120,58,49,125,64,108,97,121,101,114,10,108,59,100,105,118,58,104,111,118,101,114,123,121,58,118,97,114,40,45,45,122,41,125,42,123,45,45,122,58,52,125]⟩))
theorem ctextB_ev:evF Tryz.prog (fun _=>none) (orCH (tabCH (tabF 222 ctwoT)) (tabCH idxO)) pol18 100000 300 40 [cargB] [] .e 0=some (.ret ctextB,.e,0):=by kernel_rfl
theorem ctextB_pure:Pure Tryz.prog (fun _=>none) 40 [cargB] (.ret ctextB):=evF_pure prOk (orCH_ok ctwoT_ok idxO_ok) ctextB_ev rfl
def cS:ByteArray:=⟨#[112,44,113,123,120,58,49,125,64,108,97,121,101,114,32,108,123,113,123,120,58,50,125,125,100,105,118,58,104,111,118,101,
 114,123,121,58,118,97,114,40,45,45,122,41,125,113,123,45,45,122,58,51,125,42,123,45,45,122,58,52,59,45,45,119,58,53,125,
 113,32,43,32,112,123,120,58,54,125,64,107,101,121,102,114,97,109,101,115,32,107,123,49,125]⟩
def ctok (k:Int) (s:ByteArray) (n q:Int):AV:=.tup [.agg [.g (.int .i64 k),.g (.string s),.g (.int .i64 n)],.g (.int .i64 q)]
abbrev cNX (p k:Int) (s:ByteArray) (n q:Int):Prop:=Pure Tryz.prog (fun _=>none) 283 [.g (.string cS),.g (.int .i64 p)] (.ret (ctok k s n q))
theorem cnxP {p k n q:Int} {s:ByteArray} (h:evF Tryz.prog (fun _=>none) (tabCH idxO) pol18 100000 300 283 [.g (.string cS),.g (.int .i64 p)] [] .e 0=some (.ret (ctok k s n q),.e,0)):cNX p k s n q:=evF_pureK (Ks:=100) prOk idxO_ok h rfl
theorem cnx0:cNX 0 1 ⟨#[112]⟩ 0 1:=cnxP (by kernel_rfl)
theorem cnx1:cNX 1 7 ⟨#[44]⟩ 0 2:=cnxP (by kernel_rfl)
theorem cnx2:cNX 2 1 ⟨#[113]⟩ 0 3:=cnxP (by kernel_rfl)
theorem cnx3:cNX 3 7 ⟨#[123]⟩ 0 4:=cnxP (by kernel_rfl)
theorem cnx4:cNX 4 1 ⟨#[120]⟩ 0 5:=cnxP (by kernel_rfl)
theorem cnx5:cNX 5 7 ⟨#[58]⟩ 0 6:=cnxP (by kernel_rfl)
theorem cnx6:cNX 6 5 ⟨#[]⟩ 1 7:=cnxP (by kernel_rfl)
theorem cnx7:cNX 7 7 ⟨#[125]⟩ 0 8:=cnxP (by kernel_rfl)
theorem cnx8:cNX 8 3 ⟨#[108,97,121,101,114]⟩ 0 14:=cnxP (by kernel_rfl)
theorem cnx9:cNX 14 8 ⟨#[10]⟩ 0 15:=cnxP (by kernel_rfl)
theorem cnx10:cNX 15 1 ⟨#[108]⟩ 0 16:=cnxP (by kernel_rfl)
theorem cnx11:cNX 16 7 ⟨#[123]⟩ 0 17:=cnxP (by kernel_rfl)
theorem cnx12:cNX 17 1 ⟨#[113]⟩ 0 18:=cnxP (by kernel_rfl)
theorem cnx13:cNX 18 7 ⟨#[123]⟩ 0 19:=cnxP (by kernel_rfl)
theorem cnx14:cNX 19 1 ⟨#[120]⟩ 0 20:=cnxP (by kernel_rfl)
theorem cnx15:cNX 20 7 ⟨#[58]⟩ 0 21:=cnxP (by kernel_rfl)
theorem cnx16:cNX 21 5 ⟨#[]⟩ 2 22:=cnxP (by kernel_rfl)
theorem cnx17:cNX 22 7 ⟨#[125]⟩ 0 23:=cnxP (by kernel_rfl)
theorem cnx18:cNX 23 7 ⟨#[125]⟩ 0 24:=cnxP (by kernel_rfl)
theorem cnx19:cNX 24 1 ⟨#[100,105,118]⟩ 0 27:=cnxP (by kernel_rfl)
theorem cnx20:cNX 27 7 ⟨#[58]⟩ 0 28:=cnxP (by kernel_rfl)
theorem cnx21:cNX 28 1 ⟨#[104,111,118,101,114]⟩ 0 33:=cnxP (by kernel_rfl)
theorem cnx22:cNX 33 7 ⟨#[123]⟩ 0 34:=cnxP (by kernel_rfl)
theorem cnx23:cNX 34 1 ⟨#[121]⟩ 0 35:=cnxP (by kernel_rfl)
theorem cnx24:cNX 35 7 ⟨#[58]⟩ 0 36:=cnxP (by kernel_rfl)
theorem cnx25:cNX 36 2 ⟨#[118,97,114]⟩ 0 40:=cnxP (by kernel_rfl)
theorem cnx26:cNX 40 1 ⟨#[45,45,122]⟩ 0 43:=cnxP (by kernel_rfl)
theorem cnx27:cNX 43 7 ⟨#[41]⟩ 0 44:=cnxP (by kernel_rfl)
theorem cnx28:cNX 44 7 ⟨#[125]⟩ 0 45:=cnxP (by kernel_rfl)
theorem cnx29:cNX 45 1 ⟨#[113]⟩ 0 46:=cnxP (by kernel_rfl)
theorem cnx30:cNX 46 7 ⟨#[123]⟩ 0 47:=cnxP (by kernel_rfl)
theorem cnx31:cNX 47 1 ⟨#[45,45,122]⟩ 0 50:=cnxP (by kernel_rfl)
theorem cnx32:cNX 50 7 ⟨#[58]⟩ 0 51:=cnxP (by kernel_rfl)
theorem cnx33:cNX 51 5 ⟨#[]⟩ 3 52:=cnxP (by kernel_rfl)
theorem cnx34:cNX 52 7 ⟨#[125]⟩ 0 53:=cnxP (by kernel_rfl)
theorem cnx35:cNX 53 7 ⟨#[42]⟩ 0 54:=cnxP (by kernel_rfl)
theorem cnx36:cNX 54 7 ⟨#[123]⟩ 0 55:=cnxP (by kernel_rfl)
theorem cnx37:cNX 55 1 ⟨#[45,45,122]⟩ 0 58:=cnxP (by kernel_rfl)
theorem cnx38:cNX 58 7 ⟨#[58]⟩ 0 59:=cnxP (by kernel_rfl)
theorem cnx39:cNX 59 5 ⟨#[]⟩ 4 60:=cnxP (by kernel_rfl)
theorem cnx40:cNX 60 7 ⟨#[59]⟩ 0 61:=cnxP (by kernel_rfl)
theorem cnx41:cNX 61 1 ⟨#[45,45,119]⟩ 0 64:=cnxP (by kernel_rfl)
theorem cnx42:cNX 64 7 ⟨#[58]⟩ 0 65:=cnxP (by kernel_rfl)
theorem cnx43:cNX 65 5 ⟨#[]⟩ 5 66:=cnxP (by kernel_rfl)
theorem cnx44:cNX 66 7 ⟨#[125]⟩ 0 67:=cnxP (by kernel_rfl)
theorem cnx45:cNX 67 1 ⟨#[113]⟩ 0 68:=cnxP (by kernel_rfl)
theorem cnx46:cNX 68 8 ⟨#[10]⟩ 0 69:=cnxP (by kernel_rfl)
theorem cnx47:cNX 69 7 ⟨#[43]⟩ 0 70:=cnxP (by kernel_rfl)
theorem cnx48:cNX 70 8 ⟨#[10]⟩ 0 71:=cnxP (by kernel_rfl)
theorem cnx49:cNX 71 1 ⟨#[112]⟩ 0 72:=cnxP (by kernel_rfl)
theorem cnx50:cNX 72 7 ⟨#[123]⟩ 0 73:=cnxP (by kernel_rfl)
theorem cnx51:cNX 73 1 ⟨#[120]⟩ 0 74:=cnxP (by kernel_rfl)
theorem cnx52:cNX 74 7 ⟨#[58]⟩ 0 75:=cnxP (by kernel_rfl)
theorem cnx53:cNX 75 5 ⟨#[]⟩ 6 76:=cnxP (by kernel_rfl)
theorem cnx54:cNX 76 7 ⟨#[125]⟩ 0 77:=cnxP (by kernel_rfl)
theorem cnx55:cNX 77 3 ⟨#[107,101,121,102,114,97,109,101,115]⟩ 0 87:=cnxP (by kernel_rfl)
theorem cnx56:cNX 87 8 ⟨#[10]⟩ 0 88:=cnxP (by kernel_rfl)
theorem cnx57:cNX 88 1 ⟨#[107]⟩ 0 89:=cnxP (by kernel_rfl)
theorem cnx58:cNX 89 7 ⟨#[123]⟩ 0 90:=cnxP (by kernel_rfl)
theorem cnx59:cNX 90 5 ⟨#[]⟩ 1 91:=cnxP (by kernel_rfl)
theorem cnx60:cNX 91 7 ⟨#[125]⟩ 0 92:=cnxP (by kernel_rfl)
def cnextT:List (Int×AV):=[(0,ctok 1 ⟨#[112]⟩ 0 1),(1,ctok 7 ⟨#[44]⟩ 0 2),(2,ctok 1 ⟨#[113]⟩ 0 3),(3,ctok 7 ⟨#[123]⟩ 0 4),(4,ctok 1 ⟨#[120]⟩ 0 5),(5,ctok 7 ⟨#[58]⟩ 0 6),(6,ctok 5 ⟨#[]⟩ 1 7),(7,ctok 7 ⟨#[125]⟩ 0 8),(8,ctok 3 ⟨#[108,97,121,101,114]⟩ 0 14),(14,ctok 8 ⟨#[10]⟩ 0 15),(15,ctok 1 ⟨#[108]⟩ 0 16),(16,ctok 7 ⟨#[123]⟩ 0 17),(17,ctok 1 ⟨#[113]⟩ 0 18),(18,ctok 7 ⟨#[123]⟩ 0 19),(19,ctok 1 ⟨#[120]⟩ 0 20),(20,ctok 7 ⟨#[58]⟩ 0 21),(21,ctok 5 ⟨#[]⟩ 2 22),(22,ctok 7 ⟨#[125]⟩ 0 23),(23,ctok 7 ⟨#[125]⟩ 0 24),(24,ctok 1 ⟨#[100,105,118]⟩ 0 27),(27,ctok 7 ⟨#[58]⟩ 0 28),(28,ctok 1 ⟨#[104,111,118,101,114]⟩ 0 33),(33,ctok 7 ⟨#[123]⟩ 0 34),(34,ctok 1 ⟨#[121]⟩ 0 35),(35,ctok 7 ⟨#[58]⟩ 0 36),(36,ctok 2 ⟨#[118,97,114]⟩ 0 40),(40,ctok 1 ⟨#[45,45,122]⟩ 0 43),(43,ctok 7 ⟨#[41]⟩ 0 44),(44,ctok 7 ⟨#[125]⟩ 0 45),(45,ctok 1 ⟨#[113]⟩ 0 46),(46,ctok 7 ⟨#[123]⟩ 0 47),(47,ctok 1 ⟨#[45,45,122]⟩ 0 50),(50,ctok 7 ⟨#[58]⟩ 0 51),(51,ctok 5 ⟨#[]⟩ 3 52),(52,ctok 7 ⟨#[125]⟩ 0 53),(53,ctok 7 ⟨#[42]⟩ 0 54),(54,ctok 7 ⟨#[123]⟩ 0 55),(55,ctok 1 ⟨#[45,45,122]⟩ 0 58),(58,ctok 7 ⟨#[58]⟩ 0 59),(59,ctok 5 ⟨#[]⟩ 4 60),(60,ctok 7 ⟨#[59]⟩ 0 61),(61,ctok 1 ⟨#[45,45,119]⟩ 0 64),(64,ctok 7 ⟨#[58]⟩ 0 65),(65,ctok 5 ⟨#[]⟩ 5 66),(66,ctok 7 ⟨#[125]⟩ 0 67),(67,ctok 1 ⟨#[113]⟩ 0 68),(68,ctok 8 ⟨#[10]⟩ 0 69),(69,ctok 7 ⟨#[43]⟩ 0 70),(70,ctok 8 ⟨#[10]⟩ 0 71),(71,ctok 1 ⟨#[112]⟩ 0 72),(72,ctok 7 ⟨#[123]⟩ 0 73),(73,ctok 1 ⟨#[120]⟩ 0 74),(74,ctok 7 ⟨#[58]⟩ 0 75),(75,ctok 5 ⟨#[]⟩ 6 76),(76,ctok 7 ⟨#[125]⟩ 0 77),(77,ctok 3 ⟨#[107,101,121,102,114,97,109,101,115]⟩ 0 87),(87,ctok 8 ⟨#[10]⟩ 0 88),(88,ctok 1 ⟨#[107]⟩ 0 89),(89,ctok 7 ⟨#[123]⟩ 0 90),(90,ctok 5 ⟨#[]⟩ 1 91),(91,ctok 7 ⟨#[125]⟩ 0 92)]
theorem cnextT_all:∀ e∈cnextT,Pure Tryz.prog (fun _=>none) 283 [.g (.string cS),.g (.int .i64 e.1)] (.ret e.2):=by
 unfold cnextT;simp only [List.forall_mem_cons];exact ⟨cnx0,cnx1,cnx2,cnx3,cnx4,cnx5,cnx6,cnx7,cnx8,cnx9,cnx10,cnx11,cnx12,cnx13,cnx14,cnx15,cnx16,cnx17,cnx18,cnx19,cnx20,cnx21,cnx22,cnx23,cnx24,cnx25,cnx26,cnx27,cnx28,cnx29,cnx30,cnx31,cnx32,cnx33,cnx34,cnx35,cnx36,cnx37,cnx38,cnx39,cnx40,cnx41,cnx42,cnx43,cnx44,cnx45,cnx46,cnx47,cnx48,cnx49,cnx50,cnx51,cnx52,cnx53,cnx54,cnx55,cnx56,cnx57,cnx58,cnx59,cnx60,by simp⟩
theorem cnextT_ok:ChOk Tryz.prog (fun _=>none) (tabCH (tabI 283 cS cnextT)):=tabI_ok cnextT_all ⟨_,Tryz.func283,by kernel_rfl,by kernel_rfl⟩
def cargA:AV:=.g (.string cS)
def citems:AV:=(.sl 7 8 [(.g (.int .i64 (1))),(.sl 2 2 [(.sl 1 2 [(.g (.int .i64 (0))),(.sl 1 6 [(.g (.int .i64 (2))),(.g (.string ⟨#[112]⟩)),(.g (.string ⟨#[]⟩)),
 (.g (.int .i64 (0))),(.g (.int .i64 (0))),(.g (.slice none 0 0))])]),(.g (.string ⟨#[]⟩)),(.sl 1 2 [(.g (.int .i64 (0))),(.sl 1 6 [(.g (.int .i64 (2))),
 (.g (.string ⟨#[113]⟩)),(.g (.string ⟨#[]⟩)),(.g (.int .i64 (0))),(.g (.int .i64 (0))),(.g (.slice none 0 0))])]),(.g (.string ⟨#[]⟩))]),(.sl 1 3 [(.g (.string ⟨#[120]⟩)),
 (.sl 1 5 [(.g (.int .i64 (1))),(.g (.int .i64 (5))),(.g (.string ⟨#[]⟩)),(.g (.int .i64 (1))),(.g (.slice none 0 0))]),(.g (.bool false))]),(.g (.slice none 0 0)),
 (.g (.int .i64 (0))),(.g (.int .i64 (0))),(.g (.slice none 0 0)),(.g (.slice none 0 0)),(.g (.int .i64 (3))),(.g (.slice none 0 0)),(.g (.slice none 0 0)),
 (.sl 1 1 [(.g (.string ⟨#[108]⟩))]),(.g (.int .i64 (0))),(.g (.int .i64 (0))),(.g (.slice none 0 0)),(.sl 1 8 [(.g (.int .i64 (1))),(.sl 1 2 [(.sl 1 2 [(.g (.int .i64 (0))),
 (.sl 1 6 [(.g (.int .i64 (2))),(.g (.string ⟨#[113]⟩)),(.g (.string ⟨#[]⟩)),(.g (.int .i64 (0))),(.g (.int .i64 (0))),(.g (.slice none 0 0))])]),(.g (.string ⟨#[]⟩))]),
 (.sl 1 3 [(.g (.string ⟨#[120]⟩)),(.sl 1 5 [(.g (.int .i64 (1))),(.g (.int .i64 (5))),(.g (.string ⟨#[]⟩)),(.g (.int .i64 (2))),(.g (.slice none 0 0))]),
 (.g (.bool false))]),(.g (.slice none 0 0)),(.g (.int .i64 (0))),(.g (.int .i64 (0))),(.g (.slice none 0 0)),(.g (.slice none 0 0))]),(.g (.int .i64 (1))),
 (.sl 1 2 [(.sl 1 2 [(.g (.int .i64 (0))),(.sl 2 6 [(.g (.int .i64 (2))),(.g (.string ⟨#[100,105,118]⟩)),(.g (.string ⟨#[]⟩)),(.g (.int .i64 (0))),
 (.g (.int .i64 (0))),(.g (.slice none 0 0)),(.g (.int .i64 (7))),(.g (.string ⟨#[104,111,118,101,114]⟩)),(.g (.string ⟨#[]⟩)),(.g (.int .i64 (0))),
 (.g (.int .i64 (0))),(.g (.slice none 0 0))])]),(.g (.string ⟨#[]⟩))]),(.sl 1 3 [(.g (.string ⟨#[121]⟩)),(.sl 1 5 [(.g (.int .i64 (5))),(.g (.int .i64 (2))),
 (.g (.string ⟨#[118,97,114]⟩)),(.g (.int .i64 (0))),(.sl 1 5 [(.g (.int .i64 (1))),(.g (.int .i64 (1))),(.g (.string ⟨#[45,45,122]⟩)),(.g (.int .i64 (0))),
 (.g (.slice none 0 0))])]),(.g (.bool false))]),(.g (.slice none 0 0)),(.g (.int .i64 (0))),(.g (.int .i64 (0))),(.g (.slice none 0 0)),(.g (.slice none 0 0)),
 (.g (.int .i64 (1))),(.sl 1 2 [(.sl 1 2 [(.g (.int .i64 (0))),(.sl 1 6 [(.g (.int .i64 (2))),(.g (.string ⟨#[113]⟩)),(.g (.string ⟨#[]⟩)),(.g (.int .i64 (0))),
 (.g (.int .i64 (0))),(.g (.slice none 0 0))])]),(.g (.string ⟨#[]⟩))]),(.sl 1 3 [(.g (.string ⟨#[45,45,122]⟩)),(.sl 1 5 [(.g (.int .i64 (1))),(.g (.int .i64 (5))),
 (.g (.string ⟨#[]⟩)),(.g (.int .i64 (3))),(.g (.slice none 0 0))]),(.g (.bool false))]),(.g (.slice none 0 0)),(.g (.int .i64 (0))),(.g (.int .i64 (0))),
 (.g (.slice none 0 0)),(.g (.slice none 0 0)),(.g (.int .i64 (1))),(.sl 1 2 [(.sl 1 2 [(.g (.int .i64 (0))),(.sl 1 6 [(.g (.int .i64 (1))),(.g (.string ⟨#[]⟩)),
 (.g (.string ⟨#[]⟩)),(.g (.int .i64 (0))),(.g (.int .i64 (0))),(.g (.slice none 0 0))])]),(.g (.string ⟨#[]⟩))]),(.sl 2 3 [(.g (.string ⟨#[45,45,122]⟩)),
 (.sl 1 5 [(.g (.int .i64 (1))),(.g (.int .i64 (5))),(.g (.string ⟨#[]⟩)),(.g (.int .i64 (4))),(.g (.slice none 0 0))]),(.g (.bool false)),(.g (.string ⟨#[45,
 45,119]⟩)),(.sl 1 5 [(.g (.int .i64 (1))),(.g (.int .i64 (5))),(.g (.string ⟨#[]⟩)),(.g (.int .i64 (5))),(.g (.slice none 0 0))]),(.g (.bool false))]),
 (.g (.slice none 0 0)),(.g (.int .i64 (0))),(.g (.int .i64 (0))),(.g (.slice none 0 0)),(.g (.slice none 0 0)),(.g (.int .i64 (1))),(.sl 1 2 [(.sl 2 2 [(.g (.int .i64 (0))),
 (.sl 1 6 [(.g (.int .i64 (2))),(.g (.string ⟨#[113]⟩)),(.g (.string ⟨#[]⟩)),(.g (.int .i64 (0))),(.g (.int .i64 (0))),(.g (.slice none 0 0))]),(.g (.int .i64 (3))),
 (.sl 1 6 [(.g (.int .i64 (2))),(.g (.string ⟨#[112]⟩)),(.g (.string ⟨#[]⟩)),(.g (.int .i64 (0))),(.g (.int .i64 (0))),(.g (.slice none 0 0))])]),(.g (.string ⟨#[]⟩))]),
 (.sl 1 3 [(.g (.string ⟨#[120]⟩)),(.sl 1 5 [(.g (.int .i64 (1))),(.g (.int .i64 (5))),(.g (.string ⟨#[]⟩)),(.g (.int .i64 (6))),(.g (.slice none 0 0))]),
 (.g (.bool false))]),(.g (.slice none 0 0)),(.g (.int .i64 (0))),(.g (.int .i64 (0))),(.g (.slice none 0 0)),(.g (.slice none 0 0)),(.g (.int .i64 (5))),
 (.g (.slice none 0 0)),(.g (.slice none 0 0)),(.sl 1 1 [(.g (.string ⟨#[107]⟩))]),(.g (.int .i64 (0))),(.g (.int .i64 (0))),(.sl 1 5 [(.g (.int .i64 (1))),
 (.g (.int .i64 (5))),(.g (.string ⟨#[]⟩)),(.g (.int .i64 (1))),(.g (.slice none 0 0))]),(.g (.slice none 0 0))])
def cparse:AV:=(.tup [citems,(.g (.int .i64 (0)))])
def cchA:CH:=orCH (tabCH (tabI 283 cS cnextT)) (tabCH idxO)
theorem cparse_ev:evF Tryz.prog (fun _=>none) cchA pol18 100000 300 79 [cargA] [] .e 0=some (.ret cparse,.e,0):=by kernel_rfl
theorem cparse_seal:sealV .e 1000 cparse=some cparse:=by kernel_rfl
theorem cparse_pure:Pure Tryz.prog (fun _=>none) 79 [cargA] (.ret cparse):=evF_pureK prOk (orCH_ok cnextT_ok idxO_ok) cparse_ev cparse_seal
end Go.Proofs.YtabliahkhafddaaGreat
end
