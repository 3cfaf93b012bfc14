/- TxnNothing: the walk. No condition. -/
import Derived.Test.YtalanookmohdeaaGreatDoorM10
import Derived.Test.YtalanookmohdeaaGreatDoorM9
import Derived.Test.YtalanookmohdeaaGreatDoorM8
import Derived.Test.YtalanookmohdeaaGreatDoorM7
namespace Go.Proofs.YtalanookmohdeaaGreatDoor
open Go.Sx
def Iu (k:Int) (nk ns:Nat) (y0:Bool) (v th rw nu er:Value) (more:Heap):Heap:= [(0,.cells (tG 0 k .nilFunc true y0 (.slice none 0 0) (.chan (some 2)) (.chan (some 3)) (.bool true) v th rw nu er (.chan none)) 104),(1,.cells (kz k) 167),(2,.bag 9 nk),(3,.bag 32 ns)]++more
def Gn (k:Int) (nk ns:Nat) (wv:Value) (m4:Heap) (y0:Bool) (z1:ByteArray):Heap:= [(0,.cells [.int .i64 (k),.pointer (some ⟨1,0,none⟩),.func (.func 150) ⟨[]⟩ ⟨[.pointer (some ⟨5,0,none⟩),.pointer (some ⟨6,0,none⟩)]⟩,.bool true,.bool y0,.int .i64 0,wv,.chan (some 2),.chan (some 3),.bool true,.string ({ data:= #[]}),.bool false,.slice none 0 0,.int .i64 0,.nilIface,.chan none] 104),(1,.cells [.int .i64 (k),.slice none 0 0,.chan none,.chan none,.chan none,.chan none,.chan none,.chan none,.chan none,.chan none,.chan none,.nilFunc,.chan none,.chan none,.chan none,.chan none,.chan none,.chan none,.chan none,.chan none,.chan none,.chan none,.chan none,.chan none,.chan none,.chan none,.chan none,.chan none,.chan none,.chan none] 167),(2,.bag 9 nk),(3,.bag 32 ns),(5,.cells [.pointer (some ⟨0,0,none⟩)] 58),(6,.cells [.func (.func 126) ⟨[]⟩ ⟨[.pointer (some ⟨7,0,none⟩),.pointer (some ⟨8,0,none⟩)]⟩] 248),(7,.cells [.string z1] 9),(8,.cells [.pointer (some ⟨0,0,none⟩)] 58)]++m4
abbrev lP:List (Nat×Bool):= [(30,false),(31,false),(32,false),(33,false),(34,false)]
abbrev KW:List (Nat×Bool):= [(30,false),(31,false),(32,false),(33,false),(34,false),(35,false),(36,false),(37,false),(38,false),(39,false),(40,false),(41,false),(42,false),(43,false),(44,false),(45,false)]
abbrev kS (k:Int) (y:Bool) (nk ns:Nat) (Wr:aG):Heap:=bd k nk ns Wr y cN cN cN cN cN []
abbrev KL:List (Nat×Bool):= [(30,false),(31,false),(32,false),(33,false),(34,false),(35,false),(36,false),(37,false),(38,false),(39,false),(40,false)]
abbrev KE:List (Nat×Bool):= [(30,false),(31,false),(32,false),(33,false),(34,false),(35,false),(36,false),(37,false),(38,false),(39,false)]
abbrev xk:List (Nat×Bool):= [(30,false),(31,false),(35,false),(36,false)]
abbrev j9 (k:Int) (y:Bool) (nk ns:Nat) (Wr:aG):Heap:=aB 30 30 (kS k y nk ns Wr)
abbrev zL (limit:Int) (unb rev:Bool) (low high:ByteArray):List Value:= [pT 30,.agg ⟨[.string low,.string high,.bool unb]⟩,iI limit,.bool rev]
abbrev TA:List (Nat×Bool):= [(30,false),(31,false),(32,false),(33,false),(34,false),(35,false),(36,false),(37,false),(38,false),(39,false),(40,false),(41,false),(42,false),(43,false),(44,false)]
abbrev wK:List Nat:= [31,9000,9001,9002,35,36]
abbrev PR:List (Nat×Bool):= [(30,false),(31,false),(32,false),(33,false),(34,false),(35,false),(36,false),(37,false),(38,false),(39,false),(40,false),(41,false),(42,false),(43,false)]
abbrev DY:List Nat:= [31,32,33,34,35,36,37,38,39,40,41,42,43,44,45]
abbrev Pe:List (Nat×Bool):= [(30,false),(31,false),(32,false),(68,false),(34,false),(69,false),(70,false),(60,false),(66,false),(61,false),(62,false),(63,false),(65,false)]
abbrev Pp:List (Nat×Bool):= [(30,false),(31,false),(32,false),(33,false),(34,false),(35,false),(36,false),(37,false),(38,false),(39,false),(40,false),(41,false),(42,false)]
abbrev Pf:List (Nat×Bool):= [(30,false),(31,false),(32,false),(33,false),(34,false),(35,false),(36,false),(37,false),(38,false),(39,false),(40,false),(41,false)]
abbrev qj (k:Int) (y:Bool):Heap:=aB 30 30 (jP k y cN)
abbrev tK:List (Nat×Bool):= [(30,false),(31,false)]
abbrev E9:List Nat:= [31,32,33,34,35,36,37,38,39,40]
abbrev Ov:List (Nat×Bool):= [(30,false),(31,false),(32,false),(33,false),(34,false),(35,false),(36,false),(37,false),(38,false)]
abbrev D0:List (Nat×Bool):= [(30,false),(31,false),(35,false)]
abbrev E8:List Nat:= [31,32,33,34,35,36,37,38,39]
abbrev OU:List (Nat×Bool):= [(30,false),(31,false),(35,false),(36,false),(37,false),(38,false),(39,false),(40,false)]
abbrev Qi:List (Nat×Bool):= [(30,false),(31,false),(32,false),(33,false),(34,false),(35,false),(36,false),(37,false)]
abbrev cy:=fun h0 h1 h2 h3 h4 h5=>cg Tryz.prog 30 30 29 200 h0 [] h1 h2 h3 h4 [] h5
section
set_option maxRecDepth 100000
set_option linter.unusedSectionVars false
variable {k limit x2 x4 x6:Int}{y rd unb rev y0 y1 y3 y5:Bool}{key low high value z1 z2:ByteArray}{nk ns:Nat}{Wr:aG}
variable (k0:(decide ((low.data.toList.length:Int) > 16))=true)(k1:(decide ((low.data.toList.length:Int) > 16))=false)(k2:(decide ((high.data.toList.length:Int) > 16))=true)(k3:(decide ((high.data.toList.length:Int) > 16))=false)(k4:(unb)=true)(k5:(!cH high { data:= #[]})=true)(k6:(!cH high { data:= #[]})=false)(k7:(!unb)=false)(k8:(unb)=false)(k9:(!unb)=true)(k10:(low.data.toList.length.ble 4294967295)=true)(k11:(decide (de low high≥0))=true)(k12:(decide (de low high≥0))=false)(k13:(bz (ns+1) 40)=true)(k14:(y)=true)(k15:(y)=false)(k16:(decide ((key.data.toList.length:Int)≥1))=false)(k17:(decide ((key.data.toList.length:Int)≥1))=true)(k18:(!decide ((key.data.toList.length:Int)≤16))=true)(k19:(!decide ((key.data.toList.length:Int)≤16))=false)(k20:(decide ((value.data.toList.length:Int) > 16))=true)(k21:(bz (nk+1) 16)=true)
theorem Ld:cy [31,9000,9001,9002,60,61] (qj k y) 14 [pT 30,.bool rd] (.nilIface) (qQ k (y) (rd)):=
 ak mixed ae _ [(30,false),(31,false),(60,false),(61,false)] (d:= []) (nn:=600) (c2:=62) (fun _=>by kernel_rfl) rfl rfl rfl vN vN rfl
theorem Ny:cy [31,9000,9001,9002,60] (qj k y) 111 [pT 30] (.nilIface) (pF k (y)):=
 ak mixed ae _ [(30,false),(31,false),(60,false)] (d:= []) (nn:=600) (c2:=61) (fun _=>by kernel_rfl) rfl rfl rfl vN vN rfl
theorem Ly:cy [31] (qj k y) 110 [pT 30] (.iface 72 (iI 13)) (jP k y cN):=
 ak mixed ae _ tK (d:= []) (nn:=600) (c2:=61) (fun _=>by kernel_rfl) rfl rfl rfl vN vN rfl
theorem LR:cy [31] (qj k y) 107 [pT 30,.string key] (.iface 72 (iI 13)) (jP k y cN):=
 ak mixed ae _ tK (d:= []) (nn:=600) (c2:=62) (fun _=>by kernel_rfl) rfl rfl rfl vN vN rfl
theorem LW:cy [31] (qj k y) 109 (zL limit unb rev low high) (.iface 72 (iI 13)) (jP k y cN):=
 ak mixed ae _ tK (d:= []) (nn:=600) (c2:=64) (fun _=>by kernel_rfl) rfl rfl rfl vN vN rfl
theorem Mk:cy [31] (qj k y) 16 [pT 30,.agg ⟨[.string key,.string value]⟩] (.iface 72 (iI 13)) (jP k y cN):=
 ak mixed ae _ tK (d:= []) (nn:=600) (c2:=62) (fun _=>by kernel_rfl) rfl rfl rfl vN vN rfl
theorem MW:cy [31] (qj k y) 108 [pT 30,.string key] (.iface 72 (iI 13)) (jP k y cN):=
 ak mixed ae _ tK (d:= []) (nn:=600) (c2:=61) (fun _=>by kernel_rfl) rfl rfl rfl vN vN rfl
theorem Jj:cy [31] (qj k y) 40 [pT 30] (.bool false) (jP k y cN):=
 ak mixed ae _ tK (d:= []) (nn:=600) (c2:=60) (fun _=>by kernel_rfl) rfl rfl rfl vN vN rfl
theorem HW:cy [31] (qj k y) 19 [pT 30] (.bool false) (jP k y cN):=
 ak mixed ae _ tK (d:= []) (nn:=600) (c2:=60) (fun _=>by kernel_rfl) rfl rfl rfl vN vN rfl
theorem Lf:cy [31,32,33,34] (j9 k y nk ns Wr) 14 [pT 30,.bool rd] (.iface 72 (iI 13)) (kS k y nk ns Wr):=
 ak mixed ae _ lP (d:= []) (nn:=600) (c2:=62) (fun _=>by kernel_rfl) rfl rfl rfl vN vN rfl
theorem NG:cy [31,32,33,34] (j9 k y nk ns Wr) 111 [pT 30] (.iface 72 (iI 13)) (kS k y nk ns Wr):=
 ak mixed ae _ lP (d:= []) (nn:=600) (c2:=61) (fun _=>by kernel_rfl) rfl rfl rfl vN vN rfl
theorem MG:cy [31,32,33,34,60] (j9 k y nk ns Wr) 110 [pT 30] (.nilIface) (ka k (nk) (ns) Wr (y)):=
 ak mixed ae _ [(30,false),(31,false),(32,false),(33,false),(34,false),(60,false)] (d:= []) (nn:=600) (c2:=61) (fun _=>by kernel_rfl) rfl rfl rfl vN vN rfl
include k17 k18 in
theorem Nc:cy [31,32,33,34] (j9 k y nk ns Wr) 107 [pT 30,.string key] (.iface 72 (iI 1)) (kS k y nk ns Wr):=
 ak mixed ae _ lP (d:=aT [14,15,16,17,18] []) (nn:=600) (c2:=62) (Lg:= []) (fun _=>by kernel_rfl) rfl rfl rfl af (vB k18 (ax k17 vN)) rfl
include k16 in
theorem Li:cy [31,32,33,34] (j9 k y nk ns Wr) 107 [pT 30,.string key] (.iface 72 (iI 1)) (kS k y nk ns Wr):=
 ak mixed ae _ lP (d:=aF [14,15,16,17] []) (nn:=600) (c2:=62) (Lg:= []) (fun _=>by kernel_rfl) rfl rfl rfl af (ax k16 vN) rfl
include k0 in
theorem Mh:cy [31,32,33,34] (j9 k y nk ns Wr) 109 (zL limit unb rev low high) (.iface 72 (iI 1)) (kS k y nk ns Wr):=
 ak mixed ae _ lP (d:=aT [22,23,24,25,26] []) (nn:=600) (c2:=66) (Lg:= []) (fun _=>by kernel_rfl) rfl rfl rfl af (a7 k0 vN) rfl
include k1 k2 in
theorem Nz:cy [31,32,33,34] (j9 k y nk ns Wr) 109 (zL limit unb rev low high) (.iface 72 (iI 1)) (kS k y nk ns Wr):=
 ak mixed ae _ lP (d:=aT [28,29,30,31,32] (aF [22,23,25,26,27] [])) (nn:=600) (c2:=66) (Lg:= []) (fun _=>by kernel_rfl) rfl rfl rfl af (a7 k2 (a7 k1 vN)) rfl
include k1 k3 k4 k5 in
theorem MH:cy [31,32,33,34] (j9 k y nk ns Wr) 109 (zL limit unb rev low high) (.iface 72 (iI 1)) (kS k y nk ns Wr):=
 ak mixed ae _ lP (d:=aT [32,33,35,37,39,40,41,42,43,44] (aF [22,23,25,26,27,28,29,31,36,38] [])) (nn:=600) (c2:=66) (Lg:= []) (fun _=>by kernel_rfl) rfl rfl rfl af (kB k5 (vB k3 (vB k4 (vB k3 (aX k4 (aX k3 (a7 k1 vN))))))) rfl
include k1 k3 k4 k6 k7 k13 in
theorem LH:cy [31,32,68,34,69,70,60,66,61,62,63,65] (j9 k y nk ns Wr) 109 (zL limit unb rev low high) (.nilIface) (jf k (nk) ((ns+(nat_lit 0+1))) Wr (y) (low) (high) (unb) (limit) (rev)):=
 ak mixed ae _ Pe (d:=aT [32,33,35,37,62] (aF [22,23,25,26,27,28,29,31,36,38,39,40,42,43,44,45,46,47,48,49,50,51,52] [])) (nn:=600) (c2:=71) (Lg:= []) (fun _=>by kernel_rfl) rfl rfl rfl af (vC k13 (vB k6 (vB k7 (vB k6 (kB k7 (ax k6 (vB k3 (vB k4 (vB k3 (aX k4 (aX k3 (a7 k1 vN)))))))))))) rfl
include k1 k3 k8 k9 k10 k11 in
theorem MF:cy [31,32,33,34] (j9 k y nk ns Wr) 109 (zL limit unb rev low high) (.iface 72 (iI 1)) (kS k y nk ns Wr):=
 ak mixed ae _ lP (d:=aT [43,44,46,47,49,50,51,53,55] (aF [22,23,25,26,27,28,29,31,32,33,34,35,36,37] [])) (nn:=600) (c2:=66) (Lg:= []) (fun _=>by kernel_rfl) rfl rfl rfl af (vB k11 (cZ k9 (vC k10 (a7 k9 (vB k3 (vB k8 (vB k3 (aX k8 (aX k3 (a7 k1 vN)))))))))) rfl
include k1 k3 k8 k9 k10 k12 k13 in
theorem MS:cy [31,32,68,34,69,70,60,66,61,62,63,65] (j9 k y nk ns Wr) 109 (zL limit unb rev low high) (.nilIface) (jf k (nk) ((ns+(nat_lit 0+1))) Wr (y) (low) (high) (unb) (limit) (rev)):=
 ak mixed ae _ Pe (d:=aT [43,44,46,47,49,50,51,53,64] (aF [22,23,25,26,27,28,29,31,32,33,34,35,36,37,55] [])) (nn:=600) (c2:=71) (Lg:= []) (fun _=>by kernel_rfl) rfl rfl rfl af (vC k13 (vB k12 (cZ k9 (vC k10 (a7 k9 (vB k3 (vB k8 (vB k3 (aX k8 (aX k3 (a7 k1 vN))))))))))) rfl
include k14 in
theorem LL:cy [31,32,33,34] (j9 k y nk ns Wr) 16 [pT 30,.agg ⟨[.string key,.string value]⟩] (.iface 72 (iI 15)) (kS k y nk ns Wr):=
 ak mixed ae _ lP (d:=aT [15] []) (nn:=600) (c2:=62) (Lg:= []) (fun _=>by kernel_rfl) rfl rfl rfl af (vB k14 vN) rfl
include k15 k17 k18 in
theorem MD:cy [31,32,33,34] (j9 k y nk ns Wr) 16 [pT 30,.agg ⟨[.string key,.string value]⟩] (.iface 72 (iI 1)) (kS k y nk ns Wr):=
 ak mixed ae _ lP (d:=aT [23,24,25,26,27,28,29,30,31] (aF [15] [])) (nn:=600) (c2:=64) (Lg:= []) (fun _=>by kernel_rfl) rfl rfl rfl af (a7 k18 (ax k17 (vB k15 vN))) rfl
include k15 k17 k19 k20 in
theorem L4:cy [31,32,33,34] (j9 k y nk ns Wr) 16 [pT 30,.agg ⟨[.string key,.string value]⟩] (.iface 72 (iI 1)) (kS k y nk ns Wr):=
 ak mixed ae _ lP (d:=aT [23,24,25,26,33,34,35,36,37] (aF [15,27,28,30,31,32] [])) (nn:=600) (c2:=64) (Lg:= []) (fun _=>by kernel_rfl) rfl rfl rfl af (a7 k20 (a7 k19 (ax k17 (vB k15 vN)))) rfl
include k15 k16 in
theorem Me:cy [31,32,33,34] (j9 k y nk ns Wr) 16 [pT 30,.agg ⟨[.string key,.string value]⟩] (.iface 72 (iI 1)) (kS k y nk ns Wr):=
 ak mixed ae _ lP (d:=aF [15,23,24,25,26] []) (nn:=600) (c2:=64) (Lg:= []) (fun _=>by kernel_rfl) rfl rfl rfl af (ax k16 (vB k15 vN)) rfl
include k14 in
theorem Lw:cy [31,32,33,34] (j9 k y nk ns Wr) 108 [pT 30,.string key] (.iface 72 (iI 15)) (kS k y nk ns Wr):=
 ak mixed ae _ lP (d:=aT [13] []) (nn:=600) (c2:=61) (Lg:= []) (fun _=>by kernel_rfl) rfl rfl rfl af (vB k14 vN) rfl
include k15 k17 k18 in
theorem Mm:cy [31,32,33,34] (j9 k y nk ns Wr) 108 [pT 30,.string key] (.iface 72 (iI 1)) (kS k y nk ns Wr):=
 ak mixed ae _ lP (d:=aT [21,22,23,24,25,26,27,28,29] (aF [13] [])) (nn:=600) (c2:=63) (Lg:= []) (fun _=>by kernel_rfl) rfl rfl rfl af (a7 k18 (ax k17 (vB k15 vN))) rfl
include k15 k16 in
theorem M8:cy [31,32,33,34] (j9 k y nk ns Wr) 108 [pT 30,.string key] (.iface 72 (iI 1)) (kS k y nk ns Wr):=
 ak mixed ae _ lP (d:=aF [13,21,22,23,24] []) (nn:=600) (c2:=63) (Lg:= []) (fun _=>by kernel_rfl) rfl rfl rfl af (ax k16 (vB k15 vN)) rfl
theorem Hu:cy [31,32,33,34] (j9 k y nk ns Wr) 40 [pT 30] (.bool false) (kS k y nk ns Wr):=
 ak mixed ae _ lP (d:= []) (nn:=600) (c2:=60) (fun _=>by kernel_rfl) rfl rfl rfl vN vN rfl
theorem I4:cy [31,32,33,34] (j9 k y nk ns Wr) 19 [pT 30] (.bool true) (kS k y nk ns Wr):=
 ak mixed ae _ lP (d:= []) (nn:=600) (c2:=60) (fun _=>by kernel_rfl) rfl rfl rfl vN vN rfl
include k17 k19 k21 in
theorem H6:cy [31,66,33,9000,67,68,61,60] (aB 30 30 (Iu k nk ns y cN cN cN cN cN [])) 107 [pT 30,.string key] (.nilIface) (Gn k ((nk+(nat_lit 0+1))) (ns) sN [] (y) (key)):=
 ak mixed ae _ [(30,false),(31,false),(66,false),(33,false),(67,false),(68,false),(61,false),(60,false)] (d:=aT [14,15,16,17,36] (aF [18] [])) (nn:=600) (c2:=69) (Lg:= []) (fun _=>by kernel_rfl) rfl rfl rfl af (vC k21 (vB k19 (ax k17 vN))) rfl
theorem H9:cy wK (aB 30 30 (qQ k y0 y1)) 40 [pT 30] (.bool true) (qQ k y0 y1):=
 ak mixed ae _ xk (d:= []) (nn:=600) (c2:=60) (fun _=>by kernel_rfl) rfl rfl rfl vN vN rfl
theorem Ju:cy wK (aB 30 30 (qQ k y0 y1)) 19 [pT 30] (.bool false) (qQ k y0 y1):=
 ak mixed ae _ xk (d:= []) (nn:=600) (c2:=60) (fun _=>by kernel_rfl) rfl rfl rfl vN vN rfl
theorem HU:cy [31,9000,9001,9002,35,36,37,38,39] (aB 30 30 (pO k y0 y1)) 40 [pT 30] (.bool true) (pO k y0 y1):=
 ak mixed ae _ [(30,false),(31,false),(35,false),(36,false),(37,false),(38,false),(39,false)] (d:= []) (nn:=600) (c2:=60) (fun _=>by kernel_rfl) rfl rfl rfl vN vN rfl
theorem Hj:cy [31,9000,9001,9002,35,36,37,38,39] (aB 30 30 (pO k y0 y1)) 19 [pT 30] (.bool false) (pO k y0 y1):=
 ak mixed ae _ [(30,false),(31,false),(35,false),(36,false),(37,false),(38,false),(39,false)] (d:= []) (nn:=600) (c2:=60) (fun _=>by kernel_rfl) rfl rfl rfl vN vN rfl
theorem Jx:cy wK (aB 30 30 (oy k y0 y1)) 40 [pT 30] (.bool true) (oy k y0 y1):=
 ak mixed ae _ xk (d:= []) (nn:=600) (c2:=60) (fun _=>by kernel_rfl) rfl rfl rfl vN vN rfl
theorem Kd:cy wK (aB 30 30 (oy k y0 y1)) 19 [pT 30] (.bool false) (oy k y0 y1):=
 ak mixed ae _ xk (d:= []) (nn:=600) (c2:=60) (fun _=>by kernel_rfl) rfl rfl rfl vN vN rfl
theorem IC:cy [31,9000,9001,9002,35,36,37,38,39,40] (aB 30 30 (oI k y0 y1)) 40 [pT 30] (.bool true) (oI k y0 y1):=
 ak mixed ae _ OU (d:= []) (nn:=600) (c2:=60) (fun _=>by kernel_rfl) rfl rfl rfl vN vN rfl
theorem Iw:cy [31,9000,9001,9002,35,36,37,38,39,40] (aB 30 30 (oI k y0 y1)) 19 [pT 30] (.bool false) (oI k y0 y1):=
 ak mixed ae _ OU (d:= []) (nn:=600) (c2:=60) (fun _=>by kernel_rfl) rfl rfl rfl vN vN rfl
theorem Jf:cy [31,32,33,34,35] (aB 30 30 (ka k nk ns Wr y0)) 40 [pT 30] (.bool true) (ka k nk ns Wr y0):=
 ak mixed ae _ [(30,false),(31,false),(32,false),(33,false),(34,false),(35,false)] (d:= []) (nn:=600) (c2:=60) (fun _=>by kernel_rfl) rfl rfl rfl vN vN rfl
theorem J8:cy [31,32,33,34,35] (aB 30 30 (ka k nk ns Wr y0)) 19 [pT 30] (.bool true) (ka k nk ns Wr y0):=
 ak mixed ae _ [(30,false),(31,false),(32,false),(33,false),(34,false),(35,false)] (d:= []) (nn:=600) (c2:=60) (fun _=>by kernel_rfl) rfl rfl rfl vN vN rfl
theorem H4:cy [31,9000,9001,9002,35] (aB 30 30 (pF k y0)) 40 [pT 30] (.bool true) (pF k y0):=
 ak mixed ae _ D0 (d:= []) (nn:=600) (c2:=60) (fun _=>by kernel_rfl) rfl rfl rfl vN vN rfl
theorem H8:cy [31,9000,9001,9002,35] (aB 30 30 (pF k y0)) 19 [pT 30] (.bool false) (pF k y0):=
 ak mixed ae _ D0 (d:= []) (nn:=600) (c2:=60) (fun _=>by kernel_rfl) rfl rfl rfl vN vN rfl
theorem Ib:cy [31,9000,9001,9002,35] (aB 30 30 (rh k y0)) 40 [pT 30] (.bool true) (rh k y0):=
 ak mixed ae _ D0 (d:= []) (nn:=600) (c2:=60) (fun _=>by kernel_rfl) rfl rfl rfl vN vN rfl
theorem Hm:cy [31,9000,9001,9002,35] (aB 30 30 (rh k y0)) 19 [pT 30] (.bool false) (rh k y0):=
 ak mixed ae _ D0 (d:= []) (nn:=600) (c2:=60) (fun _=>by kernel_rfl) rfl rfl rfl vN vN rfl
theorem HF:cy wK (aB 30 30 (ri k y0)) 40 [pT 30] (.bool true) (ri k y0):=
 ak mixed ae _ xk (d:= []) (nn:=600) (c2:=60) (fun _=>by kernel_rfl) rfl rfl rfl vN vN rfl
theorem IU:cy wK (aB 30 30 (ri k y0)) 19 [pT 30] (.bool false) (ri k y0):=
 ak mixed ae _ xk (d:= []) (nn:=600) (c2:=60) (fun _=>by kernel_rfl) rfl rfl rfl vN vN rfl
theorem IJ:cy wK (aB 30 30 (pU k y0)) 40 [pT 30] (.bool true) (pU k y0):=
 ak mixed ae _ xk (d:= []) (nn:=600) (c2:=60) (fun _=>by kernel_rfl) rfl rfl rfl vN vN rfl
theorem Jb:cy wK (aB 30 30 (pU k y0)) 19 [pT 30] (.bool false) (pU k y0):=
 ak mixed ae _ xk (d:= []) (nn:=600) (c2:=60) (fun _=>by kernel_rfl) rfl rfl rfl vN vN rfl
theorem J0:cy [31,32,33,34,35,36,37,38] (aB 30 30 (kT k nk ns Wr y0 z1)) 40 [pT 30] (.bool true) (kT k nk ns Wr y0 z1):=
 ak mixed ae _ Ov (d:= []) (nn:=600) (c2:=60) (fun _=>by kernel_rfl) rfl rfl rfl vN vN rfl
theorem ID:cy [31,32,33,34,35,36,37,38] (aB 30 30 (kT k nk ns Wr y0 z1)) 19 [pT 30] (.bool true) (kT k nk ns Wr y0 z1):=
 ak mixed ae _ Ov (d:= []) (nn:=600) (c2:=60) (fun _=>by kernel_rfl) rfl rfl rfl vN vN rfl
theorem IX:cy [31,32,33,34,35,36,37] (aB 30 30 (kf k nk ns Wr y0 z1)) 40 [pT 30] (.bool true) (kf k nk ns Wr y0 z1):=
 ak mixed ae _ Qi (d:= []) (nn:=600) (c2:=60) (fun _=>by kernel_rfl) rfl rfl rfl vN vN rfl
theorem Ir:cy [31,32,33,34,35,36,37] (aB 30 30 (kf k nk ns Wr y0 z1)) 19 [pT 30] (.bool true) (kf k nk ns Wr y0 z1):=
 ak mixed ae _ Qi (d:= []) (nn:=600) (c2:=60) (fun _=>by kernel_rfl) rfl rfl rfl vN vN rfl
theorem IH:cy E8 (aB 30 30 (kV k nk ns Wr y0 z1 x2)) 40 [pT 30] (.bool true) (kV k nk ns Wr y0 z1 x2):=
 ak mixed ae _ KE (d:= []) (nn:=600) (c2:=60) (fun _=>by kernel_rfl) rfl rfl rfl vN vN rfl
theorem Jt:cy E8 (aB 30 30 (kV k nk ns Wr y0 z1 x2)) 19 [pT 30] (.bool true) (kV k nk ns Wr y0 z1 x2):=
 ak mixed ae _ KE (d:= []) (nn:=600) (c2:=60) (fun _=>by kernel_rfl) rfl rfl rfl vN vN rfl
theorem JG:cy E9 (aB 30 30 (kN k nk ns Wr y0 z1)) 40 [pT 30] (.bool true) (kN k nk ns Wr y0 z1):=
 ak mixed ae _ KL (d:= []) (nn:=600) (c2:=60) (fun _=>by kernel_rfl) rfl rfl rfl vN vN rfl
theorem I8:cy E9 (aB 30 30 (kN k nk ns Wr y0 z1)) 19 [pT 30] (.bool true) (kN k nk ns Wr y0 z1):=
 ak mixed ae _ KL (d:= []) (nn:=600) (c2:=60) (fun _=>by kernel_rfl) rfl rfl rfl vN vN rfl
theorem IW:cy E9 (aB 30 30 (kU k nk ns Wr y0 z1)) 40 [pT 30] (.bool true) (kU k nk ns Wr y0 z1):=
 ak mixed ae _ KL (d:= []) (nn:=600) (c2:=60) (fun _=>by kernel_rfl) rfl rfl rfl vN vN rfl
theorem HJ:cy E9 (aB 30 30 (kU k nk ns Wr y0 z1)) 19 [pT 30] (.bool true) (kU k nk ns Wr y0 z1):=
 ak mixed ae _ KL (d:= []) (nn:=600) (c2:=60) (fun _=>by kernel_rfl) rfl rfl rfl vN vN rfl
theorem Ig:cy E8 (aB 30 30 (kR k nk ns Wr y0 z1 z2)) 40 [pT 30] (.bool true) (kR k nk ns Wr y0 z1 z2):=
 ak mixed ae _ KE (d:= []) (nn:=600) (c2:=60) (fun _=>by kernel_rfl) rfl rfl rfl vN vN rfl
theorem H0:cy E8 (aB 30 30 (kR k nk ns Wr y0 z1 z2)) 19 [pT 30] (.bool true) (kR k nk ns Wr y0 z1 z2):=
 ak mixed ae _ KE (d:= []) (nn:=600) (c2:=60) (fun _=>by kernel_rfl) rfl rfl rfl vN vN rfl
theorem JX:cy [31,32,33,34,35,36,37,38,39,40,41,42] (aB 30 30 (jf k nk ns Wr y0 z1 z2 y3 x4 y5)) 40 [pT 30] (.bool true) (jf k nk ns Wr y0 z1 z2 y3 x4 y5):=
 ak mixed ae _ Pp (d:= []) (nn:=600) (c2:=60) (fun _=>by kernel_rfl) rfl rfl rfl vN vN rfl
theorem Ia:cy [31,32,33,34,35,36,37,38,39,40,41,42] (aB 30 30 (jf k nk ns Wr y0 z1 z2 y3 x4 y5)) 19 [pT 30] (.bool true) (jf k nk ns Wr y0 z1 z2 y3 x4 y5):=
 ak mixed ae _ Pp (d:= []) (nn:=600) (c2:=60) (fun _=>by kernel_rfl) rfl rfl rfl vN vN rfl
theorem IA:cy [31,32,33,34,35,36,37,38,39,40,41] (aB 30 30 (i7 k nk ns Wr y0 z1 z2 y3 x4 y5)) 40 [pT 30] (.bool true) (i7 k nk ns Wr y0 z1 z2 y3 x4 y5):=
 ak mixed ae _ Pf (d:= []) (nn:=600) (c2:=60) (fun _=>by kernel_rfl) rfl rfl rfl vN vN rfl
theorem HR:cy [31,32,33,34,35,36,37,38,39,40,41] (aB 30 30 (i7 k nk ns Wr y0 z1 z2 y3 x4 y5)) 19 [pT 30] (.bool true) (i7 k nk ns Wr y0 z1 z2 y3 x4 y5):=
 ak mixed ae _ Pf (d:= []) (nn:=600) (c2:=60) (fun _=>by kernel_rfl) rfl rfl rfl vN vN rfl
theorem Hs:cy [31,32,33,34,35,36,37,38,39,40,41,42,43,44] (aB 30 30 (jE k nk ns Wr y0 z1 z2 y3 x4 y5 x6)) 40 [pT 30] (.bool true) (jE k nk ns Wr y0 z1 z2 y3 x4 y5 x6):=
 ak mixed ae _ TA (d:= []) (nn:=600) (c2:=60) (fun _=>by kernel_rfl) rfl rfl rfl vN vN rfl
theorem JA:cy [31,32,33,34,35,36,37,38,39,40,41,42,43,44] (aB 30 30 (jE k nk ns Wr y0 z1 z2 y3 x4 y5 x6)) 19 [pT 30] (.bool true) (jE k nk ns Wr y0 z1 z2 y3 x4 y5 x6):=
 ak mixed ae _ TA (d:= []) (nn:=600) (c2:=60) (fun _=>by kernel_rfl) rfl rfl rfl vN vN rfl
theorem J6:cy DY (aB 30 30 (kO k nk ns Wr y0 z1 z2 y3 x4 y5)) 40 [pT 30] (.bool true) (kO k nk ns Wr y0 z1 z2 y3 x4 y5):=
 ak mixed ae _ KW (d:= []) (nn:=600) (c2:=60) (fun _=>by kernel_rfl) rfl rfl rfl vN vN rfl
theorem IT:cy DY (aB 30 30 (kO k nk ns Wr y0 z1 z2 y3 x4 y5)) 19 [pT 30] (.bool true) (kO k nk ns Wr y0 z1 z2 y3 x4 y5):=
 ak mixed ae _ KW (d:= []) (nn:=600) (c2:=60) (fun _=>by kernel_rfl) rfl rfl rfl vN vN rfl
theorem Hl:cy DY (aB 30 30 (kM k nk ns Wr y0 z1 z2 y3 x4 y5)) 40 [pT 30] (.bool true) (kM k nk ns Wr y0 z1 z2 y3 x4 y5):=
 ak mixed ae _ KW (d:= []) (nn:=600) (c2:=60) (fun _=>by kernel_rfl) rfl rfl rfl vN vN rfl
theorem JQ:cy DY (aB 30 30 (kM k nk ns Wr y0 z1 z2 y3 x4 y5)) 19 [pT 30] (.bool true) (kM k nk ns Wr y0 z1 z2 y3 x4 y5):=
 ak mixed ae _ KW (d:= []) (nn:=600) (c2:=60) (fun _=>by kernel_rfl) rfl rfl rfl vN vN rfl
theorem H3:cy [31,32,33,34,35,36,37,38,39,40,41,42,43] (aB 30 30 (kQ k nk ns Wr y0 z1 z2 y3 x4 y5)) 40 [pT 30] (.bool true) (kQ k nk ns Wr y0 z1 z2 y3 x4 y5):=
 ak mixed ae _ PR (d:= []) (nn:=600) (c2:=60) (fun _=>by kernel_rfl) rfl rfl rfl vN vN rfl
theorem HC:cy [31,32,33,34,35,36,37,38,39,40,41,42,43] (aB 30 30 (kQ k nk ns Wr y0 z1 z2 y3 x4 y5)) 19 [pT 30] (.bool true) (kQ k nk ns Wr y0 z1 z2 y3 x4 y5):=
 ak mixed ae _ PR (d:= []) (nn:=600) (c2:=60) (fun _=>by kernel_rfl) rfl rfl rfl vN vN rfl
end
section
open Go.Sx
theorem rD {l:List Value}{nm:Nat→Option Nat} (h:∃ws,l=ah ws):aj l (l.map (ao nm 9)):=by
 obtain⟨ws,rfl⟩:=h;exact bm
def gu (k:Int) (nk ns:Nat) (wv:Value) (y0:Bool) (v th rw nu er:Value):Heap:= [(0,.cells (tG 0 k .nilFunc true y0 wv (.chan (some 2)) (.chan (some 3)) (.bool true) v th rw nu er (.chan none)) 104),(1,.cells (kz k) 167),(2,.bag 9 nk),(3,.bag 32 ns)]
abbrev oE (ws:List Wt):Nat×Chunk:=(34,.cells (ah ws) 112)
abbrev CA (k:Int) (nk ns:Nat) (y:Bool) (ws:List Wt):Heap:=aB 30 30 (gu k nk ns (sL 4 ws.length) y cN cN cN cN cN)++ [(oE ws)]
abbrev P5:List (Nat×Bool):= [(30,false),(31,false),(32,false),(33,false),(34,true)]
abbrev TF (b:Bool) (ws:List Wt) (w:Wt):bj:= [(22,.loop [] [34,62] 65 [(oE ws),(62,.cells [sL 34 ws.length] 99)] .normal [.tuple ⟨[.agg ⟨[.string w.1,.string w.2.1,.bool w.2.2]⟩,.bool b]⟩])]
section
set_option maxRecDepth 100000
set_option linter.unusedSectionVars false
variable {k:Int}{nk ns p:Nat}{y b:Bool}{ws:List Wt}{w:Wt}{key value:ByteArray}
variable (k0:(y)=false)(k1:(decide ((key.data.toList.length:Int)≥1))=true)(k2:(!decide ((key.data.toList.length:Int)≤16))=false)(k3:(decide ((value.data.toList.length:Int) > 16))=false)(k4:(b)=false)(k5:(bz (nk+1) 16)=true)(k6:(b)=true)(k7:ab Tryz.prog 63 [(oE ws),(62,.cells [sL 34 ws.length] 99)] 65 [(oE ws),(62,.cells [sL 34 ws.length] 99)] (.call 123 [.string key,sL 62 1]) (.val (.tuple ⟨[.agg ⟨[.string w.1,.string w.2.1,.bool w.2.2]⟩,.bool b]⟩)))(k8:(decide (0≤(p:Int)∧(p:Int) < (ws.length:Int)))=true)(k9:(cK (0+p*3+3) (ah ws))=true)(k10:ab Tryz.prog 64 [(oE ws)] 66 [(oE ws)] (.call 68 [sL 34 ws.length,.string key,.func (.func 69) ⟨[]⟩ ⟨[]⟩]) (.val (.tuple ⟨[iI p,.bool b]⟩)))(k11:∃ws2,aH (ah ws) (0+p*3) (eO (key,value,false))=ah ws2)(k12:ab Tryz.prog 67 [(oE ws),(66,.cells (eO (key,value,false)) 112)] 68 [(67,.cells (ah (dR ws p (key,value,false))) 112)] (.call 71 [sL 34 ws.length,iI p,sL 66 1]) (.val (sL 67 (ws.length+1))))(k13:ab Tryz.prog 63 [(oE ws)] 65 [(oE ws)] (.call 68 [sL 34 ws.length,.string key,.func (.func 69) ⟨[]⟩ ⟨[]⟩]) (.val (.tuple ⟨[iI p,.bool b]⟩)))(k14:∃ws2,aH (ah ws) (0+p*3) (eO (key,⟨#[]⟩,true))=ah ws2)(k15:ab Tryz.prog 66 [(oE ws),(65,.cells (eO (key,⟨#[]⟩,true)) 112)] 67 [(66,.cells (ah (dR ws p (key,⟨#[]⟩,true))) 112)] (.call 71 [sL 34 ws.length,iI p,sL 65 1]) (.val (sL 66 (ws.length+1))))
include k1 k2 k6 k7 in
theorem y7 {p:Nat}:cg Tryz.prog 30 30 29 400 [31,32,33,34] [] (CA k nk ns y ws) 107 [pT 30,.string key] (.nilIface) [] (gu k nk ns (sL 4 ws.length) y (.string w.2.1) (.bool (!w.2.2)) sN (iI 0) .nilIface++ [(4,.cells (ah ws) 112)]):=
 ak mixed (aA.aE [123]) [31,32,33,34] P5 (C:=(aE Tryz.prog eM [123])) (d:=aT [14,15,16,17,24] (aF [18] (TF b ws w))) (nn:=600) (c2:=69) (Lg:= [.p (aj (ah ws) ((ah ws).map (ao (back [30,31,32,33,34]) 9)))]) (fun _=>by kernel_rfl) rfl rfl rfl (ag bm af) (vB k6 (vP k7 (vB k2 (ax k1 vN)))) rfl
include k1 k2 k4 k5 k7 in
theorem GZ {p:Nat}:cg Tryz.prog 30 30 29 400 [31,67,33,34,68,69,61,60] [] (CA k nk ns y ws) 107 [pT 30,.string key] (.nilIface) [] (Gn k ((nk+(nat_lit 0+1))) (ns) (sL 4 ws.length) [(4,.cells (ah ws) 112)] (y) (key)):=
 ak mixed (aA.aE [123]) [31,67,33,34,68,69,61,60] [(30,false),(31,false),(67,false),(33,false),(68,false),(69,false),(61,false),(60,false),(34,true)] (C:=(aE Tryz.prog eM [123])) (d:=aT [14,15,16,17,30] (aF [18,24] (TF b ws w))) (nn:=600) (c2:=70) (Lg:= [.p (aj (ah ws) ((ah ws).map (ao (back [30,31,67,33,34,68,69,61,60]) 9)))]) (fun _=>by kernel_rfl) rfl rfl rfl (ag bm af) (vC k5 (vB k4 (vP k7 (vB k2 (ax k1 vN))))) rfl
include k0 k1 k2 k3 k6 k8 k9 k10 k11 in
theorem Eg {w:Wt}:cg Tryz.prog 30 30 29 400 [31,32,33,34] [] (CA k nk ns y ws) 16 [pT 30,.agg ⟨[.string key,.string value]⟩] (.nilIface) [] (gu k nk ns (sL 4 ws.length) y cN cN cN cN cN++ [(4,.cells (aH (ah ws) (0+p*3) (eO (key,value,false))) 112)]):=
 ak mixed (aA.aE [68,71]) [31,32,33,34] P5 (C:=(aE Tryz.prog eM [68,71])) (d:=aT [23,24,25,26,66,69,70] (aF [15,27,28,30,31,32,33,34,36,40,42] [(65,.loop [] [34] 66 [(oE ws)] .normal [.tuple ⟨[iI p,.bool b]⟩])])) (nn:=600) (c2:=66) (Lg:= [.p (aj (aH (ah ws) (0+p*3) (eO (key,value,false))) ((aH (ah ws) (0+p*3) (eO (key,value,false))).map (ao (back [30,31,32,33,34]) 9)))]) (fun _=>by kernel_rfl) rfl rfl rfl (ag (rD k11) af) (vC k9 (vC k8 (vB k6 (vP k10 (a7 k3 (a7 k2 (ax k1 (vB k0 vN)))))))) rfl
include k0 k1 k2 k3 k4 k10 k12 in
theorem ET {w:Wt}:cg Tryz.prog 30 30 29 400 [31,32,33,67] [] (CA k nk ns y ws) 16 [pT 30,.agg ⟨[.string key,.string value]⟩] (.nilIface) [] (gu k nk ns (sL 4 (ws.length+1)) y cN cN cN cN cN++ [(4,.cells (ah (dR ws p (key,value,false))) 112)]):=
 ak mixed (aA.aE [68,71]) [31,32,33,67] [(30,false),(31,false),(32,false),(33,false),(67,true)] (C:=(aE Tryz.prog eM [68,71])) (d:=aT [23,24,25,26] (aF [15,27,28,30,31,32,33,34,36,40,42,66] [(65,.loop [] [34] 66 [(oE ws)] .normal [.tuple ⟨[iI p,.bool b]⟩]),(69,.loop [] [34,66] 68 [(67,.cells (ah (dR ws p (key,value,false))) 112)] .normal [sL 67 (ws.length+1)])])) (nn:=600) (c2:=68) (Lg:= [.p (aj (ah (dR ws p (key,value,false))) ((ah (dR ws p (key,value,false))).map (ao (back [30,31,32,33,67]) 9)))]) (fun _=>by kernel_rfl) rfl rfl rfl (ag bm af) (vP k12 (vB k4 (vP k10 (a7 k3 (a7 k2 (ax k1 (vB k0 vN))))))) rfl
include k0 k1 k2 k3 in
theorem D3:cg Tryz.prog 30 30 29 400 [31,32,33,65] [] (aB 30 30 (Iu k nk ns y cN cN cN cN cN [])) 16 [pT 30,.agg ⟨[.string key,.string value]⟩] (.nilIface) [] (gu k nk ns (sL 4 1) y cN cN cN cN cN++ [(4,.cells (ah [(key,value,false)]) 112)]):=
 ak mixed aA _ [(30,false),(31,false),(32,false),(33,false),(65,false)] (C:=eM) (d:=aT [23,24,25,26] (aF [15,27,28,30,31,32,33,34,36,40,42] [])) (nn:=600) (c2:=66) (Lg:= []) (fun _=>by kernel_rfl) rfl rfl rfl (af) (a7 k3 (a7 k2 (ax k1 (vB k0 vN)))) rfl
include k0 k1 k2 k6 k8 k9 k13 k14 in
theorem Ao {w:Wt}:cg Tryz.prog 30 30 29 400 [31,32,33,34] [] (CA k nk ns y ws) 108 [pT 30,.string key] (.nilIface) [] (gu k nk ns (sL 4 ws.length) y cN cN cN cN cN++ [(4,.cells (aH (ah ws) (0+p*3) (eO (key,⟨#[]⟩,true))) 112)]):=
 ak mixed (aA.aE [68,71]) [31,32,33,34] P5 (C:=(aE Tryz.prog eM [68,71])) (d:=aT [21,22,23,24,65,68,69] (aF [13,25,26,28,29,30] [(64,.loop [] [34] 65 [(oE ws)] .normal [.tuple ⟨[iI p,.bool b]⟩])])) (nn:=600) (c2:=65) (Lg:= [.p (aj (aH (ah ws) (0+p*3) (eO (key,⟨#[]⟩,true))) ((aH (ah ws) (0+p*3) (eO (key,⟨#[]⟩,true))).map (ao (back [30,31,32,33,34]) 9)))]) (fun _=>by kernel_rfl) rfl rfl rfl (ag (rD k14) af) (vC k9 (vC k8 (vB k6 (vP k13 (a7 k2 (ax k1 (vB k0 vN))))))) rfl
include k0 k1 k2 k4 k13 k15 in
theorem AJ {w:Wt}:cg Tryz.prog 30 30 29 400 [31,32,33,66] [] (CA k nk ns y ws) 108 [pT 30,.string key] (.nilIface) [] (gu k nk ns (sL 4 (ws.length+1)) y cN cN cN cN cN++ [(4,.cells (ah (dR ws p (key,⟨#[]⟩,true))) 112)]):=
 ak mixed (aA.aE [68,71]) [31,32,33,66] [(30,false),(31,false),(32,false),(33,false),(66,true)] (C:=(aE Tryz.prog eM [68,71])) (d:=aT [21,22,23,24] (aF [13,25,26,28,29,30,65] [(64,.loop [] [34] 65 [(oE ws)] .normal [.tuple ⟨[iI p,.bool b]⟩]),(68,.loop [] [34,65] 67 [(66,.cells (ah (dR ws p (key,⟨#[]⟩,true))) 112)] .normal [sL 66 (ws.length+1)])])) (nn:=600) (c2:=67) (Lg:= [.p (aj (ah (dR ws p (key,⟨#[]⟩,true))) ((ah (dR ws p (key,⟨#[]⟩,true))).map (ao (back [30,31,32,33,66]) 9)))]) (fun _=>by kernel_rfl) rfl rfl rfl (ag bm af) (vP k15 (vB k4 (vP k13 (a7 k2 (ax k1 (vB k0 vN)))))) rfl
include k0 k1 k2 in
theorem BX:cg Tryz.prog 30 30 29 400 [31,32,33,64] [] (aB 30 30 (Iu k nk ns y cN cN cN cN cN [])) 108 [pT 30,.string key] (.nilIface) [] (gu k nk ns (sL 4 1) y cN cN cN cN cN++ [(4,.cells (ah [(key,⟨#[]⟩,true)]) 112)]):=
 ak mixed aA _ [(30,false),(31,false),(32,false),(33,false),(64,false)] (C:=eM) (d:=aT [21,22,23,24] (aF [13,25,26,28,29,30] [])) (nn:=600) (c2:=65) (Lg:= []) (fun _=>by kernel_rfl) rfl rfl rfl (af) (a7 k2 (ax k1 (vB k0 vN))) rfl
end
end
section
open Go.Sx
def l7 (k:Int) (nk ns:Nat) (wv:Value) (m4:Heap) (y0:Bool) (z1:ByteArray) (z2:ByteArray) (y3:Bool) (x4:Int) (y5:Bool):Heap:= [(0,.cells [.int .i64 (k),.pointer (some ⟨1,0,none⟩),.func (.func 131) ⟨[]⟩ ⟨[.pointer (some ⟨5,0,none⟩),.pointer (some ⟨6,0,none⟩),.pointer (some ⟨7,0,none⟩),.pointer (some ⟨8,0,none⟩),.pointer (some ⟨9,0,none⟩),.pointer (some ⟨10,0,none⟩)]⟩,.bool true,.bool y0,.int .i64 0,wv,.chan (some 2),.chan (some 3),.bool true,.string ({ data:= #[]}),.bool false,.slice none 0 0,.int .i64 0,.nilIface,.slice none 0 0] 104),(1,.cells [.int .i64 (k),.slice none 0 0,.chan none,.chan none,.chan none,.chan none,.bool false,.chan none,.chan none,.pointer (some ⟨11,0,none⟩),.pointer (some ⟨11,0,none⟩),.func (.func 213) ⟨[]⟩ ⟨[.pointer (some ⟨12,0,none⟩)]⟩,.bool false,.int .i64 0,.int .i64 0,.int .i64 0,.string ({ data:= #[]}),.string ({ data:= #[]}),.bool false,.int .i64 0,.slice none 0 0,.bool false,.int .i64 0,.int .i64 0,.string ({ data:= #[]}),.chan none,.chan none,.chan none,.chan none,.chan none] 167),(2,.bag 9 nk),(3,.bag 32 ns),(5,.cells [.pointer (some ⟨13,0,none⟩)] 249),(6,.cells [.pointer (some ⟨0,0,none⟩)] 58),(7,.cells [.slice none 0 0] 102),(8,.cells [.string z1,.string z2,.bool y3] 32),(9,.cells [.int .i64 x4] 3),(10,.cells [.bool y5] 4),(11,.cells [.string z1,.string z2,.bool y3,.bool false,.slice none 0 0,.string ({ data:= #[]}),.string ({ data:= #[]}),.bool false,.bool true,.nilIface] 304),(12,.cells [.pointer (some ⟨1,0,none⟩)] 97),(13,.cells [.pointer (some ⟨1,0,none⟩),.string z1,.string z2,.bool y3,.int .i64 0,.bool false,.bool true,.bool false,.nilIface,.slice none 0 0,.slice none 0 0] 277)]++m4
abbrev xg (i0:Nat) (v0:Int):Value:= .tuple ⟨[.nilFunc,iI (.ofNat i0),iI v0]⟩
abbrev tq (ws:List Wt):Nat×Chunk:=(34,.cells (ah ws) 112)
abbrev Aj (ws:List Wt):Nat×Chunk:=(73,.cells [sL 34 ws.length] 99)
section
set_option maxRecDepth 100000
set_option linter.unusedSectionVars false
variable {s q nk ns i0:Nat}{c d e g now count holder k x4 v0:Int}{ins mks:List (Value×Value)}{ws:List Wt}{os os2:List Rt}{y0 y3 y5:Bool}{z1 z2:ByteArray}
variable (k0:(decide (k≥0))=true)(k1:(!decide (k < c))=false)(k2:dv IntKind.i64 k ins 0=some (some (i0,Value.int IntKind.i64 v0)))(k3:ab Tryz.prog 73 [] 73 [] (.call 134 [sN,sN]) (.val sN))(k4:ab Tryz.prog 74 [(tq ws),(Aj ws)] 132 [(tq ws),(Aj ws)] (.call 134 [sN,sL 73 1]) (.val sN))(k5:ab Tryz.prog 74 [(tq ws),(Aj ws)] 132 [(tq ws),(Aj ws),(74,.cells (aa os) 64)] (.call 134 [sN,sL 73 1]) (.val (sL 74 os.length)))(k6:ab Tryz.prog 132 [(74,.cells (aa os) 64)] 161 [] (.call 91 [sL 74 os.length,.agg ⟨[.string z1,.string z2,.bool y3]⟩,iI x4,.bool y5]) (.val sN))(k7:ab Tryz.prog 132 [(74,.cells (aa os) 64)] 161 [(132,.cells (aa os2) 64)] (.call 91 [sL 74 os.length,.agg ⟨[.string z1,.string z2,.bool y3]⟩,iI x4,.bool y5]) (.val (sL 132 os2.length)))
include k0 k1 k2 in
theorem Od {ws:List Wt}{os:List Rt}{os2:List Rt}:cg Tryz.prog 30 30 29 400 [31,32,33] (aD s q c d e g now count holder ins mks) (aB 30 30 (l7 k nk ns sN [] y0 z1 z2 y3 x4 y5)) 15 [pT 30,dc] (.bool true) (aD s q c d e g ((now)) ((IntKind.i64.wrap (count+1))) ((holder)) (ins.eraseIdx i0) mks) (gu k nk ns sN y0 (.string ({ data:= #[]})) (.bool false) sN (iI 0) (.nilIface)):=
 ak mixed aA _ [(30,false),(31,false),(32,false),(33,false)] (C:=eM) (d:=aT [40,41,42,43,44,46,47] (aF [48] [(50,.cell (xg i0 v0)),(53,.cell (xg i0 v0))])) (nn:=600) (c2:=80) (Lg:= []) (fun _=>by kernel_rfl) rfl rfl rfl (af) (vP k2 (vP k2 (vB k1 (kE k0 vN)))) rfl
include k0 k1 k2 k3 k4 in
theorem Oy {os2:List Rt}{os:List Rt}:cg Tryz.prog 30 30 29 400 [31,32,33,34] (aD s q c d e g now count holder ins mks) (aB 30 30 (l7 k nk ns (sL 4 ws.length) [] y0 z1 z2 y3 x4 y5)++ [(tq ws)]) 15 [pT 30,dc] (.bool true) (aD s q c d e g ((now)) ((IntKind.i64.wrap (count+1))) ((holder)) (ins.eraseIdx i0) mks) (gu k nk ns (sL 4 ws.length) y0 (.string ({ data:= #[]})) (.bool false) sN (iI 0) (.nilIface)++ [(4,.cells (ah ws) 112)]):=
 ak mixed (aA.aE [134]) [31,32,33,34] [(30,false),(31,false),(32,false),(33,false),(34,true)] (C:=(aE Tryz.prog eM [134])) (d:=aT [40,41,42,43,44,46,47] (aF [48] [(50,.cell (xg i0 v0)),(53,.cell (xg i0 v0)),(161,.loop [] [] 73 [] .normal [sN]),(164,.loop [] [34,73] 132 [(tq ws),(Aj ws)] .normal [sN])])) (nn:=600) (c2:=136) (Lg:= [.p (aj (ah ws) ((ah ws).map (ao (back [30,31,32,33,34]) 9)))]) (fun _=>by kernel_rfl) rfl rfl rfl (ag bm (af)) (vP k4 (vP k3 (vP k2 (vP k2 (vB k1 (kE k0 vN)))))) rfl
include k0 k1 k2 k3 k5 k6 in
theorem Om {os2:List Rt}:cg Tryz.prog 30 30 29 400 [31,32,33,34] (aD s q c d e g now count holder ins mks) (aB 30 30 (l7 k nk ns (sL 4 ws.length) [] y0 z1 z2 y3 x4 y5)++ [(tq ws)]) 15 [pT 30,dc] (.bool true) (aD s q c d e g ((now)) ((IntKind.i64.wrap (count+1))) ((holder)) (ins.eraseIdx i0) mks) (gu k nk ns (sL 4 ws.length) y0 (.string ({ data:= #[]})) (.bool false) sN (iI 0) (.nilIface)++ [(4,.cells (ah ws) 112)]):=
 ak mixed (aA.aE [134,91]) [31,32,33,34] [(30,false),(31,false),(32,false),(33,false),(34,true)] (C:=(aE Tryz.prog eM [134,91])) (d:=aT [40,41,42,43,44,46,47] (aF [48] [(50,.cell (xg i0 v0)),(53,.cell (xg i0 v0)),(161,.loop [] [] 73 [] .normal [sN]),(164,.loop [] [34,73] 132 [(tq ws),(Aj ws),(74,.cells (aa os) 64)] .normal [sL 74 os.length]),(169,.loop [] [74] 161 [] .normal [sN])])) (nn:=600) (c2:=162) (Lg:= [.p (aj (ah ws) ((ah ws).map (ao (back [30,31,32,33,34]) 9)))]) (fun _=>by kernel_rfl) rfl rfl rfl (ag bm (af)) (vP k6 (vP k5 (vP k3 (vP k2 (vP k2 (vB k1 (kE k0 vN))))))) rfl
include k0 k1 k2 k3 k5 k7 in
theorem P0:cg Tryz.prog 30 30 29 400 [31,32,33,34,132] (aD s q c d e g now count holder ins mks) (aB 30 30 (l7 k nk ns (sL 4 ws.length) [] y0 z1 z2 y3 x4 y5)++ [(tq ws)]) 15 [pT 30,dc] (.bool true) (aD s q c d e g ((now)) ((IntKind.i64.wrap (count+1))) ((holder)) (ins.eraseIdx i0) mks) (gu k nk ns (sL 4 ws.length) y0 (.string ({ data:= #[]})) (.bool false) (sL 5 os2.length) (iI 0) (.nilIface)++([(5,.cells (aa os2) 64)]++ [(4,.cells (ah ws) 112)])):=
 ak mixed (aA.aE [134,91]) [31,32,33,34,132] [(30,false),(31,false),(32,false),(33,false),(132,true),(34,true)] (C:=(aE Tryz.prog eM [134,91])) (d:=aT [40,41,42,43,44,46,47] (aF [48] [(50,.cell (xg i0 v0)),(53,.cell (xg i0 v0)),(161,.loop [] [] 73 [] .normal [sN]),(164,.loop [] [34,73] 132 [(tq ws),(Aj ws),(74,.cells (aa os) 64)] .normal [sL 74 os.length]),(169,.loop [] [74] 161 [(132,.cells (aa os2) 64)] .normal [sL 132 os2.length])])) (nn:=600) (c2:=162) (Lg:= [.p (aj (aa os2) ((aa os2).map (ao (back [30,31,32,33,34,132]) 9))),.p (aj (ah ws) ((ah ws).map (ao (back [30,31,32,33,34,132]) 9)))]) (fun _=>by kernel_rfl) rfl rfl rfl (ag aV (ag bm (af))) (vP k7 (vP k5 (vP k3 (vP k2 (vP k2 (vB k1 (kE k0 vN))))))) rfl
end
end
section
open Go.Sx
def GW (ws:List Wt) (n:Nat) (l:List Value):Prop:=ws≠ []∧l=ah ws∧n=ws.length
theorem Ci (ws:List Wt):Self (GW ws):=fun n l ⟨_,e,_⟩=>by
 subst e
 exact⟨fun r=>mS ws,fun r l' h=>lN h⟩
def nE (ws:List Wt) (wv:Value):aG:=D9 Tryz.prog 112 (GW ws) wv
def bu (b:Nat) (X:Heap):aG:=gW Tryz.prog b fun _ h=>h=X
def aL (b nb:Nat) (ws:List Wt) (X:Nat→Nat→aG→Heap):aG:=gW Tryz.prog b fun r h=>∃nk ns wv,nk≤nb∧ns≤nb∧r.val 4=some wv∧(ws= [] ↔ wv= .slice none 0 0)∧h=X nk ns (nE ws wv)
def fM (X:Nat→Nat→Value→Heap→Heap) (nk ns:Nat):List Wt→Heap
 | []=>X nk ns (.slice none 0 0) []
 |w::ws=>X nk ns (.slice (some ⟨4,0,none⟩) (ws.length+1) 0) [(4,.cells (ah (w::ws)) 112)]
def rM (b nb:Nat) (ws:List Wt) (X:Nat→Nat→Value→Heap→Heap):aG:=gW Tryz.prog b fun _ h=>∃nk ns,nk≤nb∧ns≤nb∧h=fM X nk ns ws
theorem nD {b kk:Nat}{rest:List Value} (hrest:∀(r:Env) (us:List Value),aw r rest us→aw r rest us):∀(r:Env) (us:List Value),r.blk 30=some b→aw r (.pointer (some ⟨b,0,some kk⟩)::rest) us→aw r (.pointer (some ⟨30,0,none⟩)::rest) us:=fun r us hb h=>by
 cases h with
 |cons h t=>
  cases h
  exact .cons (.ptr hb) (hrest r _ t)
section
variable {S S1:Heap}{f:FuncId}{v:Value}{rest:List Value}{b nb kk k c1:Nat}{L:List aG}
theorem bM {X X':Heap}{l:List Nat} (hk:L[k]? =some (bu b X)) (hS:a8 30 S=true) (hS2:cY 29 (aY S)=false) (hS3:cY 29 (aY S1)=false) (hX:a8 30 X=true) (hr:∃x t,X.get 0=some (.cells x t)) (hc:60≤c1)
  (hm:cg Tryz.prog 30 30 29 c1 l S (aB 30 30 X) f (.pointer (some ⟨30,0,none⟩)::rest) v S1 X'):
  ab Tryz.prog 30 (S++ [(29,.sem (ad L))]) c1 (S1++ [(29,.sem (ad (L.set k (bu b X'))))]) (.call f (.pointer (some ⟨b,0,some kk⟩)::rest)) (.val v):=
 iL (I:=Unit) (Q:=fun _ _=>True) (hp:=fun _=>X) (K:=30) hk (fun _ _ h=>h) (by decide) hS hS2 hS3 (fun _ h e=>⟨(),e,trivial⟩) (fun _=>hX) (fun _=>hr) (by decide) hc (nD fun _ _ h=>h) (fun _ _ h=>h)
  fun _=>⟨X',l,hm,fun _ _ _ _=>rfl⟩
theorem aK {X X':Nat→Nat→aG→Heap}{nk' ns':Nat→Nat}{nb':Nat}{ws:List Wt}{l:List Nat} (hk:L[k]? =some (aL b nb ws X)) (hS:a8 30 S=true) (hS2:cY 29 (aY S)=false) (hS3:cY 29 (aY S1)=false)
  (hX:∀nk ns Wr,a8 30 (X nk ns Wr)=true) (hr:∀nk ns Wr,∃x t,(X nk ns Wr).get 0=some (.cells x t)) (hc:60≤c1) (hl:l[3]? =some 34) (hnk:∀n,n≤nb→nk' n≤nb') (hns:∀n,n≤nb→ns' n≤nb')
  (hm:∀nk ns Wr,nk≤nb→ns≤nb→cg Tryz.prog 30 30 29 c1 l S (aB 30 30 (X nk ns Wr)) f (.pointer (some ⟨30,0,none⟩)::rest) v S1 (X' (nk' nk) (ns' ns) Wr)):
  ab Tryz.prog 30 (S++ [(29,.sem (ad L))]) c1 (S1++ [(29,.sem (ad (L.set k (aL b nb' ws X'))))]) (.call f (.pointer (some ⟨b,0,some kk⟩)::rest)) (.val v):=
 iL (I:= {i:Nat×Nat×Value // i.1≤nb∧i.2.1≤nb∧(ws= [] ↔ i.2.2= .slice none 0 0)}) (Q:=fun i r=>r.val 4=some i.1.2.2) (hp:=fun i=>X i.1.1 i.1.2.1 (nE ws i.1.2.2)) (K:=30)
  hk (fun _ _ h=>h) (by decide) hS hS2 hS3
  (fun r h ⟨nk,ns,wv,h1,h2,h3,h5,h4⟩=>⟨⟨(nk,ns,wv),h1,h2,h5⟩,h4,h3⟩) (fun _=>hX _ _ _) (fun _=>hr _ _ _) (by decide) hc (nD fun _ _ h=>h) (fun _ _ h=>h)
  fun i=>⟨X' (nk' i.1.1) (ns' i.1.2.1) (nE ws i.1.2.2),l,hm _ _ _ i.2.1 i.2.2.1,fun r0 r2 hQ hv=>⟨nk' i.1.1,ns' i.1.2.1,i.1.2.2,hnk _ i.2.1,hns _ i.2.2.1,by
   have:=hv 4 _ (by decide) hQ
   show(match (30::l)[4]? with|some m=>r2.val m|none=>none)=_
   have e:(30::l)[4]? =some 34:=by rw [List.getElem?_cons_succ];exact hl
   rw [e];exact this,i.2.2.2,rfl⟩⟩
theorem Ck {X:Nat→Nat→aG→Heap}{X':Heap}{ws:List Wt}{l:List Nat} (hk:L[k]? =some (aL b nb ws X)) (hS:a8 30 S=true) (hS2:cY 29 (aY S)=false) (hS3:cY 29 (aY S1)=false)
  (hX:∀nk ns Wr,a8 30 (X nk ns Wr)=true) (hr:∀nk ns Wr,∃x t,(X nk ns Wr).get 0=some (.cells x t)) (hc:60≤c1)
  (hm:∀nk ns Wr,nk≤nb→ns≤nb→cg Tryz.prog 30 30 29 c1 l S (aB 30 30 (X nk ns Wr)) f (.pointer (some ⟨30,0,none⟩)::rest) v S1 X'):
  ab Tryz.prog 30 (S++ [(29,.sem (ad L))]) c1 (S1++ [(29,.sem (ad (L.set k (bu b X'))))]) (.call f (.pointer (some ⟨b,0,some kk⟩)::rest)) (.val v):=
 iL (I:= {i:Nat×Nat×Value // i.1≤nb∧i.2.1≤nb}) (Q:=fun i r=>r.val 4=some i.1.2.2) (hp:=fun i=>X i.1.1 i.1.2.1 (nE ws i.1.2.2)) (K:=30)
  hk (fun _ _ h=>h) (by decide) hS hS2 hS3 (fun r h ⟨nk,ns,wv,h1,h2,h3,h5,h4⟩=>⟨⟨(nk,ns,wv),h1,h2⟩,h4,h3⟩) (fun _=>hX _ _ _) (fun _=>hr _ _ _) (by decide) hc (nD fun _ _ h=>h) (fun _ _ h=>h)
  fun i=>⟨X',l,hm _ _ _ i.2.1 i.2.2,fun _ _ _ _=>rfl⟩
theorem gh {X X':Nat→Nat→Value→Heap→Heap}{nk' ns':Nat→Nat}{nb':Nat}{ws ws':List Wt}{l:List Nat}{R0 R1:aG} (hk:L[k]? =some R0) (hR0:∀w T,R0.holds w T→(rM b nb ws X).holds w T) (hR1:∀w T,(rM b nb' ws' X').holds w T→R1.holds w T)
  (hS:a8 30 S=true) (hS2:cY 29 (aY S)=false) (hS3:cY 29 (aY S1)=false)
  (hX:∀nk ns,a8 30 (fM X nk ns ws)=true) (hr:∀nk ns,∃x t,(fM X nk ns ws).get 0=some (.cells x t)) (hc:60≤c1) (hnk:∀n,n≤nb→nk' n≤nb') (hns:∀n,n≤nb→ns' n≤nb')
  (hm:∀nk ns,nk≤nb→ns≤nb→cg Tryz.prog 30 30 29 c1 l S (aB 30 30 (fM X nk ns ws)) f (.pointer (some ⟨30,0,none⟩)::rest) v S1 (fM X' (nk' nk) (ns' ns) ws')):
  ab Tryz.prog 30 (S++ [(29,.sem (ad L))]) c1 (S1++ [(29,.sem (ad (L.set k R1)))]) (.call f (.pointer (some ⟨b,0,some kk⟩)::rest)) (.val v):=
 iL (I:= {i:Nat×Nat // i.1≤nb∧i.2≤nb}) (Q:=fun _ _=>True) (hp:=fun i=>fM X i.1.1 i.1.2 ws) (K:=30)
  hk hR0 (by decide) hS hS2 hS3 (fun r h ⟨nk,ns,h1,h2,h4⟩=>⟨⟨(nk,ns),h1,h2⟩,h4,trivial⟩) (fun _=>hX _ _) (fun _=>hr _ _) (by decide) hc (nD fun _ _ h=>h) hR1
  fun i=>⟨fM X' (nk' i.1.1) (ns' i.1.2) ws',l,hm _ _ i.2.1 i.2.2,fun _ _ _ _=>⟨_,_,hnk _ i.2.1,hns _ i.2.2,rfl⟩⟩
end
theorem qt {P:Program}{r:Env}{ow:Nat→Option Nat}{H H':Heap}{w:World} (h:∀m,H'.get m=H.get m) (hs:Sat P r ow H w):Sat P r ow H' w:=hs.less fun n x e=>by rw [←h];exact e
theorem Dk {b nb:Nat}{ws:List Wt}{X:Nat→Nat→aG→Heap}{XW:Nat→Nat→Value→Heap→Heap}{l0 l1:List Value}{t:TypeId}{rest:Nat→Nat→Heap} (hc:∀nk ns,Ctx 4 (XW nk ns) l0 l1 t (rest nk ns))
  (he:∀nk ns Wr m,Heap.get (XW nk ns (.chan (some 4)) [(4,.sem Wr)]) m=(X nk ns Wr).get m):∀w T,(aL b nb ws X).holds w T→(rM b nb ws XW).holds w T:=by
 rintro w T ⟨r,ow,h,⟨nk,ns,wv,h1,h2,h3,h4,rfl⟩,hb,hs,hT⟩
 have hs':=qt (he nk ns (nE ws wv)) hs
 rcases Ix (hc nk ns) (Ci ws) h3 hs' with g|⟨k,l,r2,ow2,⟨g1,g2,g3⟩,g4,g5,g6⟩
 · cases ws with
   |nil=>exact⟨r,ow,_,⟨nk,ns,h1,h2,rfl⟩,hb,g,hT⟩
   |cons x ws=>
    have hn:wv≠ .slice none 0 0:=fun e=>by have:=h4.2 e;cases this
    have hch:=hs'.chunk 4 _ ((hc nk ns).mem _ _)
    rcases hch with e|⟨b4,n,c,l,cs,e,g1,g2,g3,g4,g5,g6,g7⟩
    · exact absurd e hn
    ·
      obtain⟨b0,cs0,a1,a2,a3,a4,a5,a6⟩:=hs'.chunk 0 _ ((hc nk ns).root _ _)
      obtain⟨b0',cs0',f1,f2,f3,f4,f5,f6⟩:=g.chunk 0 _ ((hc nk ns).root _ _)
      rw [a1] at f1;cases f1
      rw [a3] at f3;cases f3
      obtain⟨u0,u,u1,p1,p2,p3,p4⟩:=gi a4
      obtain⟨v0,v,v1,q1,q2,q3,q4⟩:=gi f4
      have len:(l0++Value.slice none 0 0::l1).length=(l0++Value.chan (some 4)::l1).length:=by simp
      rw [len,p1] at q1
      have hl0:u0.length=v0.length:=by rw [←p2.length,q2.length]
      obtain⟨_,z⟩:=List.append_inj q1 hl0
      cases z
      cases p3 with
      |opq h=>
       rw [h3] at h;cases h
       cases q3
       exact absurd rfl hn
 · subst g2;subst g3
   cases ws with
   |nil=>exact absurd rfl g1
   |cons x ws=>exact⟨r2,ow2,_,⟨nk,ns,h1,h2,rfl⟩,by rw [g4];exact hb,g6,fun b h=>hT b (g5 b h)⟩
theorem jO {b nb:Nat}{ws:List Wt}{X:Nat→Nat→aG→Heap}{XW:Nat→Nat→Value→Heap→Heap}{l0 l1:List Value}{t:TypeId}{rest:Nat→Nat→Heap} (hc:∀nk ns,Ctx 4 (XW nk ns) l0 l1 t (rest nk ns)) (he:∀nk ns Wr m,Heap.get (XW nk ns (.chan (some 4)) [(4,.sem Wr)]) m=(X nk ns Wr).get m):∀w T,(rM b nb ws XW).holds w T→(aL b nb ws X).holds w T:=by
 rintro w T ⟨r,ow,h,⟨nk,ns,h1,h2,rfl⟩,hb,hs,hT⟩
 cases ws with
 |nil=>
  obtain⟨r2,ow2,g1,g2,g3,_,g4⟩:=sM (hc nk ns) (z:= .sem (nE [] (.slice none 0 0))) (fun r ow _=> .inl rfl) hs
  exact⟨r2,ow2,_,⟨nk,ns,_,h1,h2,g3,by simp,rfl⟩,by rw [g1];exact hb,qt (fun m=>(he nk ns _ m).symm) g4,fun b h=>hT b (g2 b h)⟩
 |cons x ws=>
  obtain⟨wv,r2,ow2,g1,g2,g3,_,g4⟩:=Lj (hc nk ns) (Ci (x::ws)) (k:=ws.length+1) (l:=ah (x::ws)) ⟨by simp,rfl,rfl⟩ hs
  have hne:wv≠ .slice none 0 0:=fun e=>by
   subst e
   obtain⟨b0,cs0,a1,a2,a3,a4,a5,a6⟩:=hs.chunk 0 _ ((hc nk ns).root _ _)
   obtain⟨b0',cs0',f1,f2,f3,f4,f5,f6⟩:=g4.chunk 0 _ ((hc nk ns).root _ _)
   rw [g1,a1] at f1;cases f1
   rw [a3] at f3;cases f3
   obtain⟨u0,u,u1,p1,p2,p3,p4⟩:=gi a4
   obtain⟨v0,v,v1,q1,q2,q3,q4⟩:=gi f4
   have len:(l0++Value.chan (some 4)::l1).length=(l0++Value.slice (some ⟨4,0,none⟩) (ws.length+1) 0::l1).length:=by simp
   rw [len,p1] at q1
   have hl0:u0.length=v0.length:=by rw [←p2.length,q2.length]
   obtain⟨_,z⟩:=List.append_inj q1 hl0
   cases z
   cases q3 with
   |opq h=>rw [g3] at h;cases h;cases p3
  exact⟨r2,ow2,_,⟨nk,ns,_,h1,h2,g3,⟨(fun h=>by cases h),(fun h=>absurd h hne)⟩,rfl⟩,by rw [g1];exact hb,qt (fun m=>(he nk ns _ m).symm) g4,fun b h=>hT b (g2 b h)⟩
end
section
open Go.Sx
abbrev G3 (k:Int) (y0:Bool):Heap:=DR k y0 (.string ({ data:= #[]})) (.bool false) sN (iI 0) (.nilIface) []
abbrev Ab:List (Nat×Bool):= [(30,false),(31,false)]
abbrev oV:=fun(s q:Nat) (c d e g now count holder:Int) (ins mks:List (Value×Value)) h0 h1 h2 h3 h4 h5=>cg Tryz.prog 30 30 29 200 h0 (aD s q c d e g now count holder ins mks) (aB 30 30 h1) 15 [pT 30,dc] (.bool h2) (aD s q c d e g ((now)) ((count)) ((h3)) ins h4) h5
section
set_option maxRecDepth 100000
set_option linter.unusedSectionVars false
variable {s q i0 nk ns:Nat}{c d e g now count holder k v0:Int}{ins mks:List (Value×Value)}{y0 y1:Bool}{Wr:aG}
variable (k0:(decide (k≥0))=true)(k1:(!decide (k < c))=false)(k2:dv IntKind.i64 k mks 0=some none)(k3:dv IntKind.i64 k mks 0=some (some (i0,Value.int IntKind.i64 v0)))(k4:(decide (holder≥0))=true)(k5:(decide (holder≥0))=false)(k6:(holder !=k)=true)(k7:(holder !=k)=false)
theorem HQ:oV s q c d e g now count holder ins mks [31,9000,9001,9002,64,62,63,35,36] (qQ k y0 y1) false holder mks (pO k (y0) (y1)):=
 ak mixed ae _ [(30,false),(31,false),(64,false),(62,false),(63,false),(35,false),(36,false)] (d:= []) (nn:=600) (c2:=65) (fun _=>by kernel_rfl) rfl rfl rfl vN vN rfl
include k0 k1 k2 in
theorem HK:oV s q c d e g now count holder ins mks [31,9000,9001,9002,38,39] (pO k y0 y1) false holder (mks++ [(iI k,iI 0)]) (oy k (y0) (y1)):=
 ak mixed ae _ [(30,false),(31,false),(38,false),(39,false)] (d:=aT [18,19,20,21,22,24,25] (aF [26] [(29,.cell (.tuple ⟨[.nilFunc]⟩))])) (nn:=600) (c2:=62) (Lg:= []) (fun _=>by kernel_rfl) rfl rfl rfl af (vP k2 (vB k1 (kE k0 vN))) rfl
include k0 k1 k3 in
theorem Ii:oV s q c d e g now count holder ins mks [31,9000,9001,9002,38,39] (pO k y0 y1) false holder (nK mks i0 (iI 0)) (oy k (y0) (y1)):=
 ak mixed ae _ [(30,false),(31,false),(38,false),(39,false)] (d:=aT [18,19,20,21,22,24,25] (aF [26] [(29,.cell (.tuple ⟨[.nilFunc,iI (.ofNat i0),iI v0]⟩))])) (nn:=600) (c2:=62) (Lg:= []) (fun _=>by kernel_rfl) rfl rfl rfl af (vP k3 (vB k1 (kE k0 vN))) rfl
theorem HV:oV s q c d e g now count holder ins mks [31,9000,9001,9002,65,63,64,35,36,62] (oy k y0 y1) false holder mks (oI k (y0) (y1)):=
 ak mixed ae _ [(30,false),(31,false),(65,false),(63,false),(64,false),(35,false),(36,false),(62,false)] (d:= []) (nn:=600) (c2:=66) (fun _=>by kernel_rfl) rfl rfl rfl vN vN rfl
include k0 k1 k2 in
theorem JU:oV s q c d e g now count holder ins mks [31] (oI k y0 y1) true holder (mks++ [(iI k,iI 0)]) (KB k y1 (.string ({data:= #[]})) (.bool false) sN (iI 0) (.nilIface)):=
 ak mixed ae _ Ab (d:=aT [18,19,20,21,22,24,25] (aF [26] [(29,.cell (.tuple ⟨[.nilFunc]⟩))])) (nn:=600) (c2:=63) (Lg:= []) (fun _=>by kernel_rfl) rfl rfl rfl af (vP k2 (vB k1 (kE k0 vN))) rfl
include k0 k1 k3 in
theorem IY:oV s q c d e g now count holder ins mks [31] (oI k y0 y1) true holder (nK mks i0 (iI 0)) (KB k y1 (.string ({data:= #[]})) (.bool false) sN (iI 0) (.nilIface)):=
 ak mixed ae _ Ab (d:=aT [18,19,20,21,22,24,25] (aF [26] [(29,.cell (.tuple ⟨[.nilFunc,iI (.ofNat i0),iI v0]⟩))])) (nn:=600) (c2:=63) (Lg:= []) (fun _=>by kernel_rfl) rfl rfl rfl af (vP k3 (vB k1 (kE k0 vN))) rfl
include k0 k1 k2 in
theorem IB:oV s q c d e g now count holder ins mks [31] (ka k nk ns Wr y0) true holder mks (G3 k y0):=
 ak mixed ae _ Ab (d:=aT [25,26,27,28,29,31,32] (aF [33] [(36,.cell (.tuple ⟨[.nilFunc]⟩))])) (nn:=600) (c2:=69) (Lg:= []) (fun _=>by kernel_rfl) rfl rfl rfl af (vP k2 (vB k1 (kE k0 vN))) rfl
include k0 k1 k3 in
theorem Im:oV s q c d e g now count holder ins mks [31] (ka k nk ns Wr y0) true holder (mks.eraseIdx i0) (G3 k y0):=
 ak mixed ae _ Ab (d:=aT [25,26,27,28,29,31,32] (aF [33] [(36,.cell (.tuple ⟨[.nilFunc,iI (.ofNat i0),iI v0]⟩))])) (nn:=600) (c2:=69) (Lg:= []) (fun _=>by kernel_rfl) rfl rfl rfl af (vP k3 (vB k1 (kE k0 vN))) rfl
include k0 k1 k4 in
theorem Hk:oV s q c d e g now count holder ins mks [31] (pF k y0) true holder mks (G3 k y0):=
 ak mixed ae _ Ab (d:=aT [16,17,18,19,20,22,23,26] (aF [24] [])) (nn:=600) (c2:=63) (Lg:= []) (fun _=>by kernel_rfl) rfl rfl rfl af (vB k4 (vB k1 (kE k0 vN))) rfl
include k0 k1 k5 in
theorem Hf:oV s q c d e g now count holder ins mks [31,9000,9001,9002,35] (pF k y0) false k mks (rh k (y0)):=
 ak mixed ae _ [(30,false),(31,false),(35,false)] (d:=aT [16,17,18,19,20,22,23] (aF [24,26] [])) (nn:=600) (c2:=62) (Lg:= []) (fun _=>by kernel_rfl) rfl rfl rfl af (vB k5 (vB k1 (kE k0 vN))) rfl
theorem H2:oV s q c d e g now count holder ins mks [31,9000,9001,9002,62,35] (rh k y0) false holder mks (ri k (y0)):=
 ak mixed ae _ [(30,false),(31,false),(62,false),(35,false)] (d:= []) (nn:=600) (c2:=63) (fun _=>by kernel_rfl) rfl rfl rfl vN vN rfl
theorem Hp:oV s q c d e g now count holder ins mks [31,9000,9001,9002,62,63] (ri k y0) false holder mks (pU k (y0)):=
 ak mixed ae _ [(30,false),(31,false),(62,false),(63,false)] (d:= []) (nn:=600) (c2:=64) (fun _=>by kernel_rfl) rfl rfl rfl vN vN rfl
include k0 k1 k6 in
theorem Ik:oV s q c d e g now count holder ins mks [31] (pU k y0) true holder mks (G3 k y0):=
 ak mixed ae _ Ab (d:=aT [16,17,18,19,20,22,23,26] (aF [24] [])) (nn:=600) (c2:=63) (Lg:= []) (fun _=>by kernel_rfl) rfl rfl rfl af (vB k6 (vB k1 (kE k0 vN))) rfl
include k0 k1 k7 in
theorem JT:oV s q c d e g now count holder ins mks [31] (pU k y0) true (-0-1) mks (G3 k y0):=
 ak mixed ae _ Ab (d:=aT [16,17,18,19,20,22,23] (aF [24,26] [])) (nn:=600) (c2:=63) (Lg:= []) (fun _=>by kernel_rfl) rfl rfl rfl af (vB k7 (vB k1 (kE k0 vN))) rfl
end
end
section
open Go.Sx
theorem pQ {p:Value→Bool}{a b:List Value} (ha:cL p a=true) (hb:cL p b=true):cL p (a++b)=true:=by
 induction a with
 |nil=>exact hb
 |cons x a ih=>simp only [cL,Bool.and_eq_true,List.cons_append] at ha ⊢;exact⟨ha.1,ih ha.2⟩
def kg (n:Nat):Heap→Bool
 | []=>true
 |(m,x)::h=> !(Nat.beq m 0) && !(Nat.beq m n) && x.cD n (n+1) && kg n h
theorem fW {n m:Nat}{x:Chunk}:∀ {h:Heap},kg n h=true→h.get m=some x→m≠0∧m≠n∧x.cD n (n+1)=true
 | [],_,e=>by simp [Heap.get] at e
 |(k,y)::h,hb,e=>by
  simp only [kg,Bool.and_eq_true,Bool.not_eq_true',cj,decide_eq_false_iff_not] at hb
  rw [aQ] at e
  split at e
  · rename_i q;subst q;cases e;exact⟨hb.1.1.1,hb.1.1.2,hb.1.2⟩
  · exact fW hb.2 e
theorem ll {k:Int}{nk ns:Nat}{y:Bool}{v th rw nu er:Value} (hres:cL (cD 9 4 5) [v,th,rw,nu,er]=true) {more:Heap} (hm:kg 4 more=true):
  Ctx 4 (fun wv m4=>gu k nk ns wv y v th rw nu er++(more++m4)) [.int .i64 k,.pointer (some ⟨1,0,none⟩),.nilFunc,.bool true,.bool y,.int .i64 0] ([.chan (some 2),.chan (some 3),.bool true]++ [v,th,rw,nu,er]++ [.chan none]) 104 ([(1,.cells (kz k) 167),(2,.bag 9 nk),(3,.bag 32 ns)]++more):=
 ⟨fun wv m4 m=>by rw [List.append_assoc];rfl,by decide,fun m x h=>fW (n:=4) (h:= [(1,.cells (kz k) 167),(2,.bag 9 nk),(3,.bag 32 ns)]++more) (by show(kg 4 ((1,.cells (kz k) 167)::(2,.bag 9 nk)::(3,.bag 32 ns)::more))=true;simp only [kg,hm];rfl) h,rfl,pQ (pQ rfl hres) rfl⟩
theorem oo {k:Int}{y:Bool}{v th rw nu er:Value}{more:Heap} (hm:kg 4 more=true) (nk ns:Nat) (Wr:aG) (m:Nat):
  Heap.get (gu k nk ns (.chan (some 4)) y v th rw nu er++(more++ [(4,.sem Wr)])) m=(bd k nk ns Wr y v th rw nu er more).get m:=by
 show Heap.get (_::_::_::_::(more++ [(4,Chunk.sem Wr)])) m=Heap.get (_::_::_::_::(4,Chunk.sem Wr)::more) m
 simp only [aQ]
 split
 · rfl
 split
 · rfl
 split
 · rfl
 split
 · rfl
 rw [Heap.get_append]
 by_cases q:4=m
 · subst q
   cases e:Heap.get more 4 with
   |none=>simp [aQ]
   |some x=>exact absurd rfl (fW hm e).2.1
 · cases e:Heap.get more m with
   |none=>simp [aQ,q,Heap.get]
   |some x=>simp [q]
theorem begun {b:Nat}{k:Int}{y:Bool}:∀w T,(gW Tryz.prog b fun _ h=>h=KB k y (.string ⟨#[]⟩) (.bool false) (.slice none 0 0) (.int .i64 0) .nilIface).holds w T→
  (aL b 0 [] fun nk ns Wr=>bd k nk ns Wr y (.string ⟨#[]⟩) (.bool false) (.slice none 0 0) (.int .i64 0) .nilIface []).holds w T:=by
 rintro w T ⟨r,ow,h,rfl,hb,hs,hT⟩
 let R:List Value:= [.bool true,.string ⟨#[]⟩,.bool false,.slice none 0 0,.int .i64 0,.nilIface,.chan none]
 let l0:List Value:= [.int .i64 k,.pointer (some ⟨1,0,none⟩),.nilFunc,.bool true,.bool y,.int .i64 0]
 have c4:Ctx 4 (fun wv m4=> [(0,.cells (l0++wv::([.slice none 0 0,.slice none 0 0]++R)) 104),(1,.cells (kz k) 167)]++m4) l0 ([.slice none 0 0,.slice none 0 0]++R) 104 [(1,.cells (kz k) 167)]:=
  ⟨fun _ _ _=>rfl,by decide,fun m x h=>fW (n:=4) (h:= [(1,.cells (kz k) 167)]) rfl h,rfl,rfl⟩
 obtain⟨r1,ow1,a1,a2,a3,a4,a5⟩:=sM c4 (z:= .sem (nE [] (.slice none 0 0))) (fun r ow _=> .inl rfl) hs
 have c2:Ctx 2 (fun wv m4=> [(0,.cells ((l0++ [.chan (some 4)])++wv::([.slice none 0 0]++R)) 104),(1,.cells (kz k) 167),(4,.sem (nE [] (.slice none 0 0)))]++m4) (l0++ [.chan (some 4)]) ([.slice none 0 0]++R) 104 [(1,.cells (kz k) 167),(4,.sem (nE [] (.slice none 0 0)))]:=
  ⟨fun _ _ _=>rfl,by decide,fun m x h=>fW (n:=2) (h:= [(1,.cells (kz k) 167),(4,.sem (nE [] (.slice none 0 0)))]) rfl h,rfl,rfl⟩
 obtain⟨r2,ow2,b1,b2,b3,b4,b5⟩:=sM c2 (z:= .bag 9 0) (fun r ow h=>⟨none,0,0,h,Nat.le_refl _,.inl ⟨rfl,rfl,rfl⟩⟩) a5
 have c3:Ctx 3 (fun wv m4=> [(0,.cells ((l0++ [.chan (some 4),.chan (some 2)])++wv::R) 104),(1,.cells (kz k) 167),(4,.sem (nE [] (.slice none 0 0))),(2,.bag 9 0)]++m4) (l0++ [.chan (some 4),.chan (some 2)]) R 104 [(1,.cells (kz k) 167),(4,.sem (nE [] (.slice none 0 0))),(2,.bag 9 0)]:=
  ⟨fun _ _ _=>rfl,by decide,fun m x h=>fW (n:=3) (h:= [(1,.cells (kz k) 167),(4,.sem (nE [] (.slice none 0 0))),(2,.bag 9 0)]) rfl h,rfl,rfl⟩
 obtain⟨r3,ow3,d1,d2,d3,d4,d5⟩:=sM c3 (z:= .bag 32 0) (fun r ow h=>⟨none,0,0,h,Nat.le_refl _,.inl ⟨rfl,rfl,rfl⟩⟩) b5
 refine⟨r3,ow3,_,⟨0,0,.slice none 0 0,Nat.le_refl _,Nat.le_refl _,?_,by simp,rfl⟩,by rw [d1,b1,a1];exact hb,qt (fun m=> ?_) d5,fun b h=>hT b (a2 b (b2 b (d2 b h)))⟩
 · rw [d4 4 (by decide),b4 4 (by decide)];exact a3
 · show Heap.get (_::_::(2,Chunk.bag 9 0)::(3,Chunk.bag 32 0)::(4,Chunk.sem (nE [] (.slice none 0 0))):: []) m=Heap.get (_::_::(4,Chunk.sem (nE [] (.slice none 0 0)))::(2,Chunk.bag 9 0)::(3,Chunk.bag 32 0):: []) m
   simp only [aQ]
   split
   · rfl
   split
   · rfl
   by_cases q2:2=m
   · subst q2;rfl
   by_cases q3:3=m
   · subst q3;rfl
   simp [q2,q3]
end
section
open Go Go.Sx
theorem tY:Tryz.prog.cellsOf 112=3:=by kernel_rfl
theorem SC {r:Env}{a b c:Value}{us:List Value} (h:aw r [a,b,c] us):∃x y z,us= [x,y,z]∧Rel r a x∧Rel r b y∧Rel r c z:=by
 cases h with
 |cons h1 h=>cases h with
  |cons h2 h=>cases h with
   |cons h3 h=>
    cases h
    exact⟨_,_,_,rfl,h1,h2,h3⟩
theorem J9 {ws:List Wt}{x:Wt}{i:Nat} (hi:i < ws.length) (hl:ws.length < 100000):ab Tryz.prog 2 (yE ws x) 3 [(2,.cells (ah (dR ws i x)) 112)] (.call 71 [.slice (some ⟨0,0,none⟩) ws.length 0,.int .i64 i,.slice (some ⟨1,0,none⟩) 1 0]) (.val (.slice (some ⟨2,0,none⟩) (ws.length+1) 0)):=by
 refine⟨by decide,fun r ow w hs hf us hus=> ?_⟩
 obtain⟨b,cur,a1,a2,a3,a4,a5,a6⟩:=hs.chunk 0 _ rfl
 obtain⟨vb,vcur,v1,v2,v3,v4,v5,v6⟩:=hs.chunk 1 _ rfl
 rw [tY] at a6 v6
 have hcw:=lN a4
 have hvw:vcur.toList.take 3=eO x:=lN (ws:= [x]) v4
 rw [fy] at hcw a5
 have hne:vb≠b:=fun e=>by subst e;rw [a2] at v2;cases v2
 have hf2:=hf 2 (Nat.le_refl _) (by decide)
 obtain⟨us⟩:=us
 obtain⟨s1,sm,s2,hu,u1,u2,u3⟩:=SC hus
 have hu:us= [s1,sm,s2]:=hu
 subst hu
 cases u2
 have h1:∃c,s1= .slice (some ⟨b,0,none⟩) ws.length c∧ws.length≤c∧c=r.cap 0:=by
  cases u1 with
  |slice h ho hle hz h2=>
   rw [a1] at h;cases h
   obtain⟨_,rfl,q⟩:=hz rfl
   exact⟨_,rfl,hle,q⟩
 have h2:∃c,s2= .slice (some ⟨vb,0,none⟩) 1 c:=by
  cases u3 with
  |slice h ho hle hz h2=>
   rw [v1] at h;cases h
   obtain⟨_,rfl,q⟩:=hz rfl
   exact⟨_,rfl⟩
 obtain⟨c,rfl,hnc,hcap⟩:=h1
 obtain⟨vc,rfl⟩:=h2
 have hsz:cur.size=c*3:=by rw [a6,hcap]
 have htake:cur.toList.take (i*3)=ah (ws.take i):=by
  rw [←tB,←hcw,List.take_take,Nat.min_eq_left (by omega),Nat.mul_comm]
 have hdrop:(cur.toList.take (ws.length*3)).drop (i*3)=ah (ws.drop i):=by
  rw [Nat.mul_comm ws.length 3,hcw,Nat.mul_comm i 3,py]
 have h1c:∀v,v∈ah (ws.drop i)→(∀xs,v≠ .agg xs)∧(∀xs,v≠ .tuple xs):=fun v hv=>pB hv
 have h1v:∀v,v∈eO x→(∀xs,v≠ .agg xs)∧(∀xs,v≠ .tuple xs):=fun v hv=>pB (ws:= [x]) hv
 have hlen:(ah (dR ws i x)).length=3*(ws.length+1):=by rw [fy,dR];simp;omega
 by_cases hroom:ws.length+1≤c
 · refine Calls.mono (FR b vb ws.length c i vc hi hroom (by omega) hne cur vcur (ah (ws.drop i)) (eO x) w a3 v3 hsz hdrop.symm hvw.symm rfl h1c h1v) fun e w' ⟨he,hw⟩=> ?_
   have hle:=Env.gg (n:=2) (b:=b) (k:=c) hf2.1
   refine⟨r.bind 2 b c,own ow b 2,_,he,⟨hle,⟨fun m cc hm=> ?_,fun k m hk=> ?_,fun k m hk=> ?_⟩,⟨hw.os,hw.tape,hw.output,Nat.le_of_eq hw.size.symm,fun k hk ho=> ?_⟩,fI.bind,Nat.le_succ _,lg⟩,.slice (by simp [Env.bind]) (.inl rfl) hroom (fun _=>⟨rfl,rfl,by simp [Env.bind]⟩) (fun e=>by cases e)⟩
   · change Heap.get [(2,_)] m=some cc at hm
     rw [aQ] at hm
     split at hm
     · rename_i q;subst q;cases hm
       refine⟨b,_,by simp [Env.bind],by simp [own],hw.at_,?_,?_,?_⟩
       · have:=laid (l:=cur.toList) (w:=x) hi (by simp;omega) htake true
         simp only [if_true] at this
         rw [this]
         exact mS _
       · rw [hlen];simp only [List.size_toArray,Sx.cJ];simp;omega
       · rw [tY];simp only [List.size_toArray,Sx.cJ];simp [Env.bind];omega
     · simp [Heap.get] at hm
   · rw [hw.size]
     unfold own at hk
     split at hk
     · rename_i q;subst q;exact hs.bound _ _ a2
     · exact hs.bound _ _ hk
   · unfold own at hk
     split at hk
     · cases hk;exact .inl (by simp [Env.bind])
     · exact hle.known (hs.known k m hk)
   · have hkb:k≠b:=fun e3=>by subst e3;rw [a2] at ho;cases ho
     exact⟨by simp [own,hkb,ho],hw.other k hkb⟩
 · refine Calls.mono (Ka b vb ws.length c i vc hi hnc (by omega) (by omega) cur vcur (ah (ws.drop i)) (eO x) w a3 v3 hsz hdrop.symm hvw.symm rfl h1c h1v) fun e w' ⟨G,ROW,g1,g2,g3,he,o1,o2,o3,o4,o5,o6⟩=> ?_
   have hle:=Env.gg (n:=2) (b:=w.heap.size) (k:=G) hf2.1
   refine⟨r.bind 2 w.heap.size G,own ow w.heap.size 2,_,he,⟨hle,⟨fun m cc hm=> ?_,fun k m hk=> ?_,fun k m hk=> ?_⟩,⟨o1,o2,o3,by omega,fun k hk ho=> ?_⟩,fI.bind,Nat.le_succ _,lg⟩,.slice (by simp [Env.bind]) (.inl rfl) g1 (fun _=>⟨rfl,rfl,by simp [Env.bind]⟩) (fun e=>by cases e)⟩
   · change Heap.get [(2,_)] m=some cc at hm
     rw [aQ] at hm
     split at hm
     · rename_i q;subst q;cases hm
       refine⟨w.heap.size,_,by simp [Env.bind],by simp [own],o5,?_,?_,?_⟩
       · have:=laid (l:=ROW.toList) (w:=x) hi (by simp;omega) (by rw [g3];exact htake) false
         simp only [Bool.false_eq_true,if_false] at this
         rw [this]
         exact mS _
       · rw [hlen];simp only [List.size_toArray,Sx.cJ];simp;omega
       · rw [tY];simp only [List.size_toArray,Sx.cJ];simp [Env.bind];omega
     · simp [Heap.get] at hm
   · rw [o4]
     unfold own at hk
     split at hk
     · rename_i q;subst q;omega
     · exact Nat.lt_succ_of_lt (hs.bound _ _ hk)
   · unfold own at hk
     split at hk
     · cases hk;exact .inl (by simp [Env.bind])
     · exact hle.known (hs.known k m hk)
   · have hkb:k≠w.heap.size:=by omega
     exact⟨by simp [own,hkb,ho],o6 k hk⟩
end
end Go.Proofs.YtalanookmohdeaaGreatDoor
