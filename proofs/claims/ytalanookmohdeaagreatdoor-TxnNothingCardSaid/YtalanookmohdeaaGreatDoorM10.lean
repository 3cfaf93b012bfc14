/- TxnNothing: the walk. No condition. -/
import Derived.Shelf.Spec.SlicesInsert
import Derived.Lib.AppendZerosOnto
import Derived.Laws.NewBlocks
import Derived.Test.YtalanookmohdeaaGreatDoorM9
import Derived.Test.YtalanookmohdeaaGreatDoorM8
import Derived.Test.YtalanookmohdeaaGreatDoorM6
namespace Go.Proofs.YtalanookmohdeaaGreatDoor
open Go Go.Sx
noncomputable def fZ:Code:=bD [1,1,0,0,0] (bA 47)
def lF (j:Nat) (ck:Int) (rd:Bool):List Value:= [.int .i64 (j:Nat),.int .i64 ck,.int .i64 0,.int .i64 0,.bool rd,.bool false,.bool false,.slice none 0 0,.int .i64 0,.int .i64 0]
abbrev D1 (ck:Int) (nc nt:Nat):Nat×Chunk:=(40,.cells [pT 12,pT 24,sL 45 nc,sL 41 nc,(sL 71 nt),sL 42 nc,iI ck,.bool false] 51)
abbrev kG (nc QB qc:Nat):Nat×Chunk:=(70,.cells (mq QB nc qc) 27)
abbrev r8 (ck:Int) (nc QB qc B n nt:Nat) (w0 w1:World) (S:List Nat) (NX AT CL l:List Value) (Y:aG):Heap:= [(0,.args B w0),(D1 ck nc nt),(41,.cells NX 3),(42,.cells AT 3),(45,.cells CL 58),(27,.froz S w1),(29,.sem Y),(kG nc QB qc),(71,.cells l 182),(72,.bag 188 n)]
abbrev pI (la lc AB:Nat):Value:= .tuple ⟨[Value.slice (some { block:=(AB:Nat),off:=0,spot:=some 27}) la lc]⟩
abbrev fc (nj:Nat):Value:= .tuple ⟨[Value.int IntKind.i64 (Int.ofNat nj)]⟩
abbrev wG (j b kk:Nat):List Value:=ay 201 0 [(0,pT 40),(2,iI (j:Nat)),(4,pT 70),(7,pK b kk)]
abbrev qR (kd lim:Int) (rd unb rev:Bool) (key val low high:ByteArray):Nat×eA:=(16,.cell (.tuple ⟨[Value.int IntKind.i64 kd,Value.bool rd,Value.string key,Value.string val,Value.string low,Value.string high,Value.bool unb,Value.int IntKind.i64 lim,Value.bool rev]⟩))
abbrev kl (t:Nat):Value:= .tuple ⟨[Value.int IntKind.i64 (Int.ofNat t)]⟩
abbrev zX:List (Nat×Bool):= [(0,false),(40,false),(41,true),(42,true),(45,true),(27,false),(29,false),(70,false),(71,true),(72,false)]
abbrev wa (ck:Int) (nc nt:Nat):Nat×Chunk:=(40,.cells [pT 12,pT 24,sL 45 nc,sL 41 nc,(sL 71 (nt)),sL 42 nc,iI ck,.bool false] 51)
abbrev FB (ck:Int) (nc QB qc B n nt:Nat) (w0 w1:World) (S:List Nat) (CL NX2 AT2 L2:List Value) (Y2:aG):Heap:= [(0,.args B w0),(wa ck nc nt),(41,.cells NX2 3),(42,.cells AT2 3),(45,.cells CL 58),(27,.froz S w1),(29,.sem Y2),(kG nc QB qc),(71,.cells L2 182),(72,.bag 188 (n))]
abbrev pb (Y:aG):Nat×eA:=(0,.loop [] [29] 73 [(29,.sem Y)] .normal [.bool false])
abbrev yZ (ck:Int) (nc:Nat):Nat×Chunk:=(40,.cells [pT 12,pT 24,sL 45 nc,sL 41 nc,sN,sL 42 nc,iI ck,.bool false] 51)
abbrev FF (ck:Int) (nc QB qc B n:Nat) (w0 w1:World) (S:List Nat) (NX AT CL:List Value) (Y:aG):Heap:= [(0,.args B w0),(yZ ck nc),(41,.cells NX 3),(42,.cells AT 3),(45,.cells CL 58),(27,.froz S w1),(29,.sem Y),(kG nc QB qc),(72,.bag 188 n)]
noncomputable abbrev jz:aP:=aE Tryz.prog cz [40,81,19,82,49]
abbrev mr:Value:= .tuple ⟨[Value.int IntKind.i64 (-1:Int)]⟩
abbrev Fs:List (Nat×Bool):= [(0,false),(40,false),(41,true),(42,true),(45,true),(27,false),(29,false),(70,false),(72,false)]
abbrev vS (Y2:aG) (ib:Bool):Nat×eA:=(57,.loop [] [29] 74 [(29,.sem Y2)] .normal [.bool ib])
abbrev vA (Y2:aG) (ib:Bool):Nat×eA:=(63,.loop [] [29] 74 [(29,.sem Y2)] .normal [.bool ib])
abbrev zI (Y2:aG):Nat×eA:=(53,.loop [] [29] 74 [(29,.sem Y2)] .normal [.nilIface])
abbrev vu (ei:Bool):Nat×eA:=(48,.cell (.tuple ⟨[Value.bool ei]⟩))
abbrev yD (B:Nat) (w0:World):Nat×eA:=(54,.loop [] [0] 74 [(0,.args B w0)] .normal [iI 0])
abbrev EG (Y2:aG):Nat×eA:=(47,.loop [] [29] 74 [(29,.sem Y2)] .normal [.nilIface])
abbrev O8:List (Nat×Bool):= [(0,false),(40,false),(41,true),(42,true),(45,true),(27,false),(29,false),(70,false),(75,true),(72,false)]
abbrev PJ:List (Nat×Bool):= [(0,false),(40,false),(41,true),(42,true),(45,true),(27,false),(29,false),(70,false),(71,true),(75,false)]
abbrev DX (B:Nat) (w0:World):Nat×eA:=(48,.loop [] [0] 74 [(0,.args B w0)] .normal [iI 0])
abbrev mw (la lc AB:Nat):Nat×eA:=(11,.cell (pI la lc AB))
abbrev re:=fun(j b kk:Nat) h0 h1=>Sx.bX Tryz.prog 71 73 100 h0 fZ (wG j b kk) h1 (wG j b kk)
section
set_option maxRecDepth 100000
set_option linter.unusedSectionVars false
variable {ck er kd lim:Int}{nj j b kk nc QB qc B n la lc AB nt t n2:Nat}{AA:Option Addr}{w0 w1:World}{S:List Nat}{NX AT CL NX2 AT2 L2 l l2:List Value}{Y Y2 Y3:aG}{rd unb rev ib ei pe:Bool}{key val low high:ByteArray}
variable (k0:(decide (0≤(j:Int)∧(j:Int) < (nc:Int)))=true)(k1:(decide (Int.ofNat nj≥(la:Int)))=true)(k2:(decide (Int.ofNat nj≥(la:Int)))=false)(k3:(decide ((0:Int)≤Int.ofNat nj∧Int.ofNat nj < (la:Int)))=true)(k4:(cK (0+j*1+1) NX)=true)(k5:(decide ((0:Int)≤Int.ofNat t∧Int.ofNat t < (nt:Int)))=true)(k6:(low.data.toList.length.ble 4294967295)=true)(k7:((0:Int) !=bf kd key val low high unb (decide ((-1:Int)≥0)) false)=false)(k8:(!true==(bf kd key val low high unb (decide ((-1:Int)≥0)) false==0))=false)(k9:(er !=bf kd key val low high unb (decide ((-1:Int)≥0)) false)=false)(k10:(!false==(bf kd key val low high unb (decide ((-1:Int)≥0)) false==0))=false)(k11:(!ib==decide ((-1:Int)≥0))=false)(k12:(kd==1)=true)(k13:(cK (0+j*1+1) AT)=true)(k14:(bz (nt+1) 80)=true)(k15:(er !=bf kd key val low high unb (decide (Int.ofNat t≥0)) ei)=false)(k16:(!false==(bf kd key val low high unb (decide (Int.ofNat t≥0)) ei==0))=false)(k17:((0:Int) !=bf kd key val low high unb (decide (Int.ofNat t≥0)) ei)=false)(k18:(!true==(bf kd key val low high unb (decide (Int.ofNat t≥0)) ei==0))=false)(k19:(!ib==decide (Int.ofNat t≥0))=false)(k20:(kd==1)=false)(k21:(kd==3)=false)(k22:(kd==4)=false)(k23:(kd==3)=true)(k24:(kd==4)=true)(k25:(bz (n+1) 128)=true)(k26:(cK (0+t*10+7+1) l)=true)(k27:(kd==2)=false)(k28:(kd==2)=true)(k29:(!pe)=true)(k30:(!pe)=false)(k31:List.take 1 (List.drop (0+j*1) NX)= [Value.int IntKind.i64 (Int.ofNat nj)]∧ [Value.int IntKind.i64 (Int.ofNat nj)].length=1)(k32:dz S w1 QB (0+j*1) ([Value.slice (some { block:=(AB:Nat),off:=0,spot:=some 27}) la lc])∧([Value.slice (some { block:=(AB:Nat),off:=0,spot:=some 27}) la lc]:List Value).length=1)(k33:dz S w1 AB (0+nj*9) ([Value.int IntKind.i64 kd,Value.bool rd,Value.string key,Value.string val,Value.string low,Value.string high,Value.bool unb,Value.int IntKind.i64 lim,Value.bool rev])∧([Value.int IntKind.i64 kd,Value.bool rd,Value.string key,Value.string val,Value.string low,Value.string high,Value.bool unb,Value.int IntKind.i64 lim,Value.bool rev]:List Value).length=9)(k34:List.take 1 (List.drop (0+j*1) AT)= [Value.int IntKind.i64 (Int.ofNat t)]∧ [Value.int IntKind.i64 (Int.ofNat t)].length=1)(k35:List.take 1 (List.drop (0+t*10+4) l)= [Value.bool ei]∧ [Value.bool ei].length=1)(k36:List.take 1 (List.drop (0+t*10+7) l)= [Value.chan (some 72)]∧1=1)(k37:List.take 1 (List.drop (0+j*1) AT)= [Value.int IntKind.i64 (-1:Int)]∧1=1)(k38:List.take (nt*10) (List.drop 0 l)=l∧l.length=nt*10)(k39:dz S w1 QB (0+j*1) ([Value.slice AA la lc])∧([Value.slice AA la lc]:List Value).length=1)(k40:ab Tryz.prog 73 [(29,.sem Y)] 73 [(29,.sem Y)] (.call 40 [pK b kk]) (.val (.bool false)))(k41:ab Tryz.prog 74 [(29,.sem Y)] 74 [(29,.sem Y2)] (.call 81 [pK b kk,.agg ⟨[iI kd,.bool rd,.string key,.string val,.string low,.string high,.bool unb,iI lim,.bool rev]⟩]) (.val (.nilIface)))(k42:ab Tryz.prog 74 [(0,.args B w0)] 74 [(0,.args B w0)] (.call 82 [.nilIface]) (.val (iI 0)))(k43:ab Tryz.prog 74 [(29,.sem Y)] 74 [(29,.sem Y2)] (.call 81 [pK b kk,.agg ⟨[iI kd,.bool rd,.string key,.string val,.string low,.string high,.bool unb,iI lim,.bool rev]⟩]) (.val (.iface 72 (iI er))))(k44:ab Tryz.prog 74 [(0,.args B w0)] 74 [(0,.args B w0)] (.call 82 [.iface 72 (iI er)]) (.val (iI er)))(k45:ab Tryz.prog 74 [(29,.sem Y2)] 74 [(29,.sem Y2)] (.call 19 [pK b kk]) (.val (.bool ib)))(k46:ab Tryz.prog 74 [(29,.sem Y2)] 74 [(29,.sem Y2)] (.call 40 [pK b kk]) (.val (.bool pe)))(k47:ab Tryz.prog 74 [(0,.args B w0),(D1 ck nc nt),(42,.cells AT 3),(45,.cells CL 58),(29,.sem Y2),(71,.cells l 182),(72,.bag 188 n)] 94 [(0,.args B w0),(D1 ck nc nt),(42,.cells AT 3),(45,.cells CL 58),(71,.cells l2 182),(93,.bag 188 n2),(29,.sem Y3)] (.call 49 [pT 40,iI (j:Nat),.agg ⟨[iI kd,.bool rd,.string key,.string val,.string low,.string high,.bool unb,iI lim,.bool rev]⟩]) (.val (.tuple ⟨[]⟩)))(k48:aj NX2 (List.map (ao (nameOf [(71,71),(72,93)] 71 100) 9) (Go.Sx.aH NX (0+j*1) [Go.Value.int Go.IntKind.i64 (Go.IntKind.i64.wrap (Int.ofNat nj+1))])))(k49:aj AT2 (List.map (ao (nameOf [(71,71),(72,93)] 71 100) 9) AT))(k50:aj CL (List.map (ao (nameOf [(71,71),(72,93)] 71 100) 9) (CL)))(k51:aj L2 (List.map (ao (nameOf [(71,71),(72,93)] 71 100) 9) (l2)))(k52:aj NX2 (List.map (ao (nameOf [(71,71),(72,75)] 71 100) 9) (Go.Sx.aH NX (0+j*1) [Go.Value.int Go.IntKind.i64 (Go.IntKind.i64.wrap (Int.ofNat nj+1))])))(k53:aj AT2 (List.map (ao (nameOf [(71,71),(72,75)] 71 100) 9) AT))(k54:aj CL (List.map (ao (nameOf [(71,71),(72,75)] 71 100) 9) (CL)))(k55:aj L2 (List.map (ao (nameOf [(71,71),(72,75)] 71 100) 9) ((aH l (0+t*10+7) [cS 75]))))(k56:aj NX2 (List.map (ao (nameOf [(71,71),(72,72)] 71 100) 9) (Go.Sx.aH NX (0+j*1) [Go.Value.int Go.IntKind.i64 (Go.IntKind.i64.wrap (Int.ofNat nj+1))])))(k57:aj NX2 (List.map (ao (nameOf [(71,75),(72,72)] 71 100) 9) (Go.Sx.aH NX (0+j*1) [Go.Value.int Go.IntKind.i64 (Go.IntKind.i64.wrap (Int.ofNat nj+1))])))(k58:aj AT2 (List.map (ao (nameOf [(71,75),(72,72)] 71 100) 9) (Go.Sx.aH AT (0+j*1) [Go.Value.int Go.IntKind.i64 (nt:Int)])))(k59:aj AT2 (List.map (ao (nameOf [(71,75),(72,72)] 71 100) 9) (Go.Sx.aH AT (0+j*1) [Go.Value.int Go.IntKind.i64 (0:Int)])))(k60:aj CL (List.map (ao (nameOf [(71,75),(72,72)] 71 100) 9) (CL)))(k61:aj L2 (List.map (ao (nameOf [(71,75),(72,72)] 71 100) 9) ((l++lF j ck rd))))(k62:aj L2 (List.map (ao (nameOf [(71,75),(72,72)] 71 100) 9) ([iI ((j:Int)),iI (ck),iI 0,iI 0,.bool (rd),.bool false,.bool false,sN,iI 0,iI 0])))(k63:aj NX2 (List.map (ao (nameOf [(72,72)] 71 100) 9) (Go.Sx.aH NX (0+j*1) [Go.Value.int Go.IntKind.i64 (Go.IntKind.i64.wrap (Int.ofNat nj+1))])))(k64:ab Tryz.prog 73 [(29,.sem Y)] 73 [(29,.sem Y)] (.call 40 [pK b kk]) (.val (.bool true)))(k65:aj NX2 (List.map (ao (nameOf [(71,71),(72,72)] 71 100) 9) NX))(k66:aj AT2 (List.map (ao (nameOf [(71,71),(72,72)] 71 100) 9) AT))(k67:aj CL (List.map (ao (nameOf [(71,71),(72,72)] 71 100) 9) (CL)))(k68:aj L2 (List.map (ao (nameOf [(71,71),(72,72)] 71 100) 9) (l)))(k69:aj NX2 (List.map (ao (nameOf [(72,72)] 71 100) 9) NX))(k70:aj AT2 (List.map (ao (nameOf [(72,72)] 71 100) 9) AT))(k71:aj CL (List.map (ao (nameOf [(72,72)] 71 100) 9) (CL)))
include k0 k1 k31 k39 k40 k69 k70 k71 in
theorem LG:Sx.Ends Tryz.prog 71 73 100 (FF ck nc QB qc B n w0 w1 S NX AT CL Y) fZ (wG j b kk) .ret [(0,.args B w0),(yZ ck nc),(41,.cells NX2 3),(42,.cells AT2 3),(45,.cells CL 58),(27,.froz S w1),(29,.sem Y),(kG nc QB qc),(72,.bag 188 (n))] (ay 201 0 [(0,pT 40),(2,iI (j:Nat)),(4,pT 70),(6,.bool false),(7,pK b kk)]):=
 bL mixed (ar.aE [40,81,19,82,49]) (C:=jz) [(72,72)] Fs (d:=aT [3,6,8] [(pb Y),(4,.cell (fc nj)),(7,.cell (.tuple ⟨[Value.slice AA la lc]⟩))]) (n:=600) (c2:=73) (by kernel_rfl) rfl rfl (vP k69 (vP k70 (vP k71 vN))) (vB k1 (vP k39 (vC k0 (vP k31 (vC k0 (vP k40 vN))))))
include k0 k2 k3 k4 k6 k9 k10 k11 k31 k32 k33 k37 k40 k43 k44 k45 k63 k70 k71 in
theorem QY:re j b kk (FF ck nc QB qc B n w0 w1 S NX AT CL Y) [(0,.args B w0),(yZ ck nc),(41,.cells NX2 3),(42,.cells AT2 3),(45,.cells CL 58),(27,.froz S w1),(29,.sem Y2),(kG nc QB qc),(72,.bag 188 (n))]:=
 bc mixed (ar.aE [40,81,19,82,49]) (C:=jz) [(72,72)] Fs (d:=aT [3,6,10,13,15,19,21,22,24,27,45] (aF [8,49,50,51,52,53,54,55,56,58,59,60,61] [(pb Y),(4,.cell (fc nj)),(7,.cell (pI la lc AB)),(mw la lc AB),(14,.cell (fc nj)),(qR kd lim rd unb rev key val low high),(20,.cell (fc nj)),(25,.cell mr),(28,.cell mr),(47,.loop [] [29] 74 [(29,.sem Y2)] .normal [.iface 72 (iI er)]),(48,.loop [] [0] 74 [(0,.args B w0)] .normal [iI er]),(vS Y2 ib)])) (n:=600) (c2:=74) (by kernel_rfl) rfl rfl (vP k63 (vP k70 (vP k71 vN))) (vB k11 (aX k10 (vP k45 (cZ k10 (kB k9 (vP k44 (vP k43 (vC k6 (vP k37 (vC k0 (vP k37 (vC k0 (vC k4 (vC k0 (vP k31 (vC k0 (vP k33 (vC k3 (vP k31 (vC k0 (vP k32 (vC k0 (vB k2 (vP k32 (vC k0 (vP k31 (vC k0 (vP k40 vN))))))))))))))))))))))))))))
include k0 k2 k3 k4 k6 k7 k8 k11 k12 k13 k21 k22 k27 k31 k32 k33 k37 k40 k41 k42 k45 k57 k59 k60 k62 in
theorem SY:re j b kk (FF ck nc QB qc B n w0 w1 S NX AT CL Y) [(0,.args B w0),(40,.cells [pT 12,pT 24,sL 45 nc,sL 41 nc,(sL 71 1),sL 42 nc,iI ck,.bool false] 51),(41,.cells NX2 3),(42,.cells AT2 3),(45,.cells CL 58),(27,.froz S w1),(29,.sem Y2),(kG nc QB qc),(71,.cells L2 182),(72,.bag 188 (n))]:=
 bc mixed (ar.aE [40,81,19,82,49]) (C:=jz) [(71,75),(72,72)] O8 (d:=aT [3,6,10,13,15,19,21,22,24,27,45,64,67,68] (aF [8,49,50,51,52,53,54,55,56,58,59,60,61,77,78,80,81,82,84,85,86,87] [(pb Y),(4,.cell (fc nj)),(7,.cell (pI la lc AB)),(mw la lc AB),(14,.cell (fc nj)),(qR kd lim rd unb rev key val low high),(20,.cell (fc nj)),(25,.cell mr),(28,.cell mr),(EG Y2),(DX B w0),(vS Y2 ib)])) (n:=600) (c2:=76) (by kernel_rfl) rfl rfl (vP k57 (vP k59 (vP k60 (vP k62 vN)))) (ax k27 (vB k22 (ax k21 (vC k13 (vC k0 (vB k12 (vB k11 (aX k8 (vP k45 (cZ k8 (kB k7 (vP k42 (vP k41 (vC k6 (vP k37 (vC k0 (vP k37 (vC k0 (vC k4 (vC k0 (vP k31 (vC k0 (vP k33 (vC k3 (vP k31 (vC k0 (vP k32 (vC k0 (vB k2 (vP k32 (vC k0 (vP k31 (vC k0 (vP k40 vN))))))))))))))))))))))))))))))))))
include k0 k2 k3 k4 k6 k7 k8 k11 k20 k21 k22 k27 k31 k32 k33 k37 k40 k41 k42 k45 k63 k70 k71 in
theorem R9:re j b kk (FF ck nc QB qc B n w0 w1 S NX AT CL Y) [(0,.args B w0),(yZ ck nc),(41,.cells NX2 3),(42,.cells AT2 3),(45,.cells CL 58),(27,.froz S w1),(29,.sem Y2),(kG nc QB qc),(72,.bag 188 (n))]:=
 bc mixed (ar.aE [40,81,19,82,49]) (C:=jz) [(72,72)] Fs (d:=aT [3,6,10,13,15,19,21,22,24,27,45] (aF [8,49,50,51,52,53,54,55,56,58,59,60,61,64,66,67,69,70,71,73,74,75,76] [(pb Y),(4,.cell (fc nj)),(7,.cell (pI la lc AB)),(mw la lc AB),(14,.cell (fc nj)),(qR kd lim rd unb rev key val low high),(20,.cell (fc nj)),(25,.cell mr),(28,.cell mr),(EG Y2),(DX B w0),(vS Y2 ib)])) (n:=600) (c2:=74) (by kernel_rfl) rfl rfl (vP k63 (vP k70 (vP k71 vN))) (ax k27 (vB k22 (ax k21 (vB k20 (vB k11 (aX k8 (vP k45 (cZ k8 (kB k7 (vP k42 (vP k41 (vC k6 (vP k37 (vC k0 (vP k37 (vC k0 (vC k4 (vC k0 (vP k31 (vC k0 (vP k33 (vC k3 (vP k31 (vC k0 (vP k32 (vC k0 (vB k2 (vP k32 (vC k0 (vP k31 (vC k0 (vP k40 vN))))))))))))))))))))))))))))))))
include k0 k1 k31 k39 k40 k65 k66 k67 k68 in
theorem NK:Sx.Ends Tryz.prog 71 73 100 (r8 ck nc QB qc B n nt w0 w1 S NX AT CL l Y) fZ (wG j b kk) .ret [(0,.args B w0),(wa ck nc nt),(41,.cells NX2 3),(42,.cells AT2 3),(45,.cells CL 58),(27,.froz S w1),(29,.sem Y),(kG nc QB qc),(71,.cells L2 182),(72,.bag 188 (n))] (ay 201 0 [(0,pT 40),(2,iI (j:Nat)),(4,pT 70),(6,.bool false),(7,pK b kk)]):=
 bL mixed (ar.aE [40,81,19,82,49]) (C:=jz) [(71,71),(72,72)] zX (d:=aT [3,6,8] [(pb Y),(4,.cell (fc nj)),(7,.cell (.tuple ⟨[Value.slice AA la lc]⟩))]) (n:=600) (c2:=73) (by kernel_rfl) rfl rfl (vP k65 (vP k66 (vP k67 (vP k68 vN)))) (vB k1 (vP k39 (vC k0 (vP k31 (vC k0 (vP k40 vN))))))
include k0 k2 k3 k4 k6 k9 k10 k11 k31 k32 k33 k37 k40 k43 k44 k45 k56 k66 k67 k68 in
theorem S5:re j b kk (r8 ck nc QB qc B n nt w0 w1 S NX AT CL l Y) (FB ck nc QB qc B n nt w0 w1 S CL NX2 AT2 L2 Y2):=
 bc mixed (ar.aE [40,81,19,82,49]) (C:=jz) [(71,71),(72,72)] zX (d:=aT [3,6,10,13,15,19,21,22,24,27,45] (aF [8,49,50,51,52,53,54,55,56,58,59,60,61] [(pb Y),(4,.cell (fc nj)),(7,.cell (pI la lc AB)),(mw la lc AB),(14,.cell (fc nj)),(qR kd lim rd unb rev key val low high),(20,.cell (fc nj)),(25,.cell mr),(28,.cell mr),(47,.loop [] [29] 74 [(29,.sem Y2)] .normal [.iface 72 (iI er)]),(48,.loop [] [0] 74 [(0,.args B w0)] .normal [iI er]),(vS Y2 ib)])) (n:=600) (c2:=74) (by kernel_rfl) rfl rfl (vP k56 (vP k66 (vP k67 (vP k68 vN)))) (vB k11 (aX k10 (vP k45 (cZ k10 (kB k9 (vP k44 (vP k43 (vC k6 (vP k37 (vC k0 (vP k37 (vC k0 (vC k4 (vC k0 (vP k31 (vC k0 (vP k33 (vC k3 (vP k31 (vC k0 (vP k32 (vC k0 (vB k2 (vP k32 (vC k0 (vP k31 (vC k0 (vP k40 vN))))))))))))))))))))))))))))
include k0 k2 k3 k4 k6 k7 k8 k11 k12 k13 k14 k21 k22 k27 k31 k32 k33 k37 k38 k40 k41 k42 k45 k57 k58 k60 k61 in
theorem Sk:re j b kk (r8 ck nc QB qc B n nt w0 w1 S NX AT CL l Y) [(0,.args B w0),(40,.cells [pT 12,pT 24,sL 45 nc,sL 41 nc,(sL 71 (nt+1)),sL 42 nc,iI ck,.bool false] 51),(41,.cells NX2 3),(42,.cells AT2 3),(45,.cells CL 58),(27,.froz S w1),(29,.sem Y2),(kG nc QB qc),(71,.cells L2 182),(72,.bag 188 (n))]:=
 bc mixed (ar.aE [40,81,19,82,49]) (C:=jz) [(71,75),(72,72)] O8 (d:=aT [3,6,10,13,15,19,21,22,24,27,45,64,67,68,75] (aF [8,49,50,51,52,53,54,55,56,58,59,60,61,78,79,81,82,83,85,86,87,88] [(pb Y),(4,.cell (fc nj)),(7,.cell (pI la lc AB)),(mw la lc AB),(14,.cell (fc nj)),(qR kd lim rd unb rev key val low high),(20,.cell (fc nj)),(25,.cell mr),(28,.cell mr),(EG Y2),(DX B w0),(vS Y2 ib),(74,.cell (.tuple ⟨l⟩))])) (n:=600) (c2:=76) (by kernel_rfl) rfl rfl (vP k57 (vP k58 (vP k60 (vP k61 vN)))) (ax k27 (vB k22 (ax k21 (vC k14 (vP k38 (vC k13 (vC k0 (vB k12 (vB k11 (aX k8 (vP k45 (cZ k8 (kB k7 (vP k42 (vP k41 (vC k6 (vP k37 (vC k0 (vP k37 (vC k0 (vC k4 (vC k0 (vP k31 (vC k0 (vP k33 (vC k3 (vP k31 (vC k0 (vP k32 (vC k0 (vB k2 (vP k32 (vC k0 (vP k31 (vC k0 (vP k40 vN))))))))))))))))))))))))))))))))))))
include k0 k2 k3 k4 k6 k7 k8 k11 k20 k21 k22 k27 k31 k32 k33 k37 k40 k41 k42 k45 k56 k66 k67 k68 in
theorem Rc:re j b kk (r8 ck nc QB qc B n nt w0 w1 S NX AT CL l Y) (FB ck nc QB qc B n nt w0 w1 S CL NX2 AT2 L2 Y2):=
 bc mixed (ar.aE [40,81,19,82,49]) (C:=jz) [(71,71),(72,72)] zX (d:=aT [3,6,10,13,15,19,21,22,24,27,45] (aF [8,49,50,51,52,53,54,55,56,58,59,60,61,64,66,67,69,70,71,73,74,75,76] [(pb Y),(4,.cell (fc nj)),(7,.cell (pI la lc AB)),(mw la lc AB),(14,.cell (fc nj)),(qR kd lim rd unb rev key val low high),(20,.cell (fc nj)),(25,.cell mr),(28,.cell mr),(EG Y2),(DX B w0),(vS Y2 ib)])) (n:=600) (c2:=74) (by kernel_rfl) rfl rfl (vP k56 (vP k66 (vP k67 (vP k68 vN)))) (ax k27 (vB k22 (ax k21 (vB k20 (vB k11 (aX k8 (vP k45 (cZ k8 (kB k7 (vP k42 (vP k41 (vC k6 (vP k37 (vC k0 (vP k37 (vC k0 (vC k4 (vC k0 (vP k31 (vC k0 (vP k33 (vC k3 (vP k31 (vC k0 (vP k32 (vC k0 (vB k2 (vP k32 (vC k0 (vP k31 (vC k0 (vP k40 vN))))))))))))))))))))))))))))))))
include k0 k2 k3 k4 k5 k6 k15 k16 k19 k31 k32 k33 k34 k35 k40 k43 k44 k45 k56 k66 k67 k68 in
theorem SP:re j b kk (r8 ck nc QB qc B n nt w0 w1 S NX AT CL l Y) (FB ck nc QB qc B n nt w0 w1 S CL NX2 AT2 L2 Y2):=
 bc mixed (ar.aE [40,81,19,82,49]) (C:=jz) [(71,71),(72,72)] zX (d:=aT [3,6,10,13,15,19,21,22,24,27,41,45,51] (aF [8,55,56,57,58,59,60,61,62,64,65,66,67] [(pb Y),(4,.cell (fc nj)),(7,.cell (pI la lc AB)),(mw la lc AB),(14,.cell (fc nj)),(qR kd lim rd unb rev key val low high),(20,.cell (fc nj)),(25,.cell (kl t)),(28,.cell (kl t)),(43,.cell (kl t)),(vu ei),(53,.loop [] [29] 74 [(29,.sem Y2)] .normal [.iface 72 (iI er)]),(54,.loop [] [0] 74 [(0,.args B w0)] .normal [iI er]),(vA Y2 ib)])) (n:=600) (c2:=74) (by kernel_rfl) rfl rfl (vP k56 (vP k66 (vP k67 (vP k68 vN)))) (vB k19 (aX k16 (vP k45 (cZ k16 (kB k15 (vP k44 (vP k43 (vC k6 (vP k35 (vC k5 (vP k34 (vC k0 (vP k34 (vC k0 (vP k34 (vC k0 (vC k4 (vC k0 (vP k31 (vC k0 (vP k33 (vC k3 (vP k31 (vC k0 (vP k32 (vC k0 (vB k2 (vP k32 (vC k0 (vP k31 (vC k0 (vP k40 vN))))))))))))))))))))))))))))))))
include k0 k2 k3 k4 k5 k6 k17 k18 k19 k20 k23 k25 k26 k27 k31 k32 k33 k34 k35 k36 k40 k41 k42 k45 k52 k53 k54 k55 in
theorem SS:re j b kk (r8 ck nc QB qc B n nt w0 w1 S NX AT CL l Y) [(0,.args B w0),(wa ck nc nt),(41,.cells NX2 3),(42,.cells AT2 3),(45,.cells CL 58),(27,.froz S w1),(29,.sem Y2),(kG nc QB qc),(71,.cells L2 182),(72,.bag 188 ((n+(nat_lit 0+1))))]:=
 bc mixed (ar.aE [40,81,19,82,49]) (C:=jz) [(71,71),(72,75)] PJ (d:=aT [3,6,10,13,15,19,21,22,24,27,41,45,51,72,73,74,75,79,81,87,88] (aF [8,55,56,57,58,59,60,61,62,64,65,66,67,70,90,91,92,93] [(pb Y),(4,.cell (fc nj)),(7,.cell (pI la lc AB)),(mw la lc AB),(14,.cell (fc nj)),(qR kd lim rd unb rev key val low high),(20,.cell (fc nj)),(25,.cell (kl t)),(28,.cell (kl t)),(43,.cell (kl t)),(vu ei),(zI Y2),(yD B w0),(vA Y2 ib),(80,.cell (kl t)),(82,.cell (.tuple ⟨[Value.chan (some 72)]⟩))])) (n:=600) (c2:=76) (by kernel_rfl) rfl rfl (vP k52 (vP k53 (vP k54 (vP k55 vN)))) (ax k27 (vC k26 (vC k25 (vP k36 (vC k5 (vP k34 (vC k0 (ax k23 (vB k20 (vB k19 (aX k18 (vP k45 (cZ k18 (kB k17 (vP k42 (vP k41 (vC k6 (vP k35 (vC k5 (vP k34 (vC k0 (vP k34 (vC k0 (vP k34 (vC k0 (vC k4 (vC k0 (vP k31 (vC k0 (vP k33 (vC k3 (vP k31 (vC k0 (vP k32 (vC k0 (vB k2 (vP k32 (vC k0 (vP k31 (vC k0 (vP k40 vN)))))))))))))))))))))))))))))))))))))))))
include k0 k2 k3 k4 k5 k6 k17 k18 k19 k20 k21 k24 k25 k26 k27 k31 k32 k33 k34 k35 k36 k40 k41 k42 k45 k52 k53 k54 k55 in
theorem Tt:re j b kk (r8 ck nc QB qc B n nt w0 w1 S NX AT CL l Y) [(0,.args B w0),(wa ck nc nt),(41,.cells NX2 3),(42,.cells AT2 3),(45,.cells CL 58),(27,.froz S w1),(29,.sem Y2),(kG nc QB qc),(71,.cells L2 182),(72,.bag 188 ((n+(nat_lit 0+1))))]:=
 bc mixed (ar.aE [40,81,19,82,49]) (C:=jz) [(71,71),(72,75)] PJ (d:=aT [3,6,10,13,15,19,21,22,24,27,41,45,51,77,80,82,88,89] (aF [8,55,56,57,58,59,60,61,62,64,65,66,67,70,72,73,75,76,91,92,93,94] [(pb Y),(4,.cell (fc nj)),(7,.cell (pI la lc AB)),(mw la lc AB),(14,.cell (fc nj)),(qR kd lim rd unb rev key val low high),(20,.cell (fc nj)),(25,.cell (kl t)),(28,.cell (kl t)),(43,.cell (kl t)),(vu ei),(zI Y2),(yD B w0),(vA Y2 ib),(81,.cell (kl t)),(83,.cell (.tuple ⟨[Value.chan (some 72)]⟩))])) (n:=600) (c2:=76) (by kernel_rfl) rfl rfl (vP k52 (vP k53 (vP k54 (vP k55 vN)))) (ax k27 (vC k26 (vC k25 (vP k36 (vC k5 (vP k34 (vC k0 (vB k24 (ax k21 (vB k20 (vB k19 (aX k18 (vP k45 (cZ k18 (kB k17 (vP k42 (vP k41 (vC k6 (vP k35 (vC k5 (vP k34 (vC k0 (vP k34 (vC k0 (vP k34 (vC k0 (vC k4 (vC k0 (vP k31 (vC k0 (vP k33 (vC k3 (vP k31 (vC k0 (vP k32 (vC k0 (vB k2 (vP k32 (vC k0 (vP k31 (vC k0 (vP k40 vN))))))))))))))))))))))))))))))))))))))))))
include k0 k2 k3 k4 k5 k6 k17 k18 k19 k20 k21 k22 k28 k29 k31 k32 k33 k34 k35 k40 k41 k42 k45 k46 k47 k48 k49 k50 k51 in
theorem Ie:re j b kk (r8 ck nc QB qc B n nt w0 w1 S NX AT CL l Y) [(0,.args B w0),(wa ck nc nt),(41,.cells NX2 3),(42,.cells AT2 3),(45,.cells CL 58),(27,.froz S w1),(29,.sem Y3),(kG nc QB qc),(71,.cells L2 182),(72,.bag 188 (n2))]:=
 bc mixed (ar.aE [40,81,19,82,49]) (C:=jz) [(71,71),(72,93)] [(0,false),(40,false),(41,true),(42,true),(45,true),(27,false),(29,false),(70,false),(71,true),(93,false)] (d:=aT [3,6,10,13,15,19,21,22,24,27,41,45,51,79,80,82,83,84] (aF [8,55,56,57,58,59,60,61,62,64,65,66,67,70,72,73,75,76,77] [(pb Y),(4,.cell (fc nj)),(7,.cell (pI la lc AB)),(mw la lc AB),(14,.cell (fc nj)),(qR kd lim rd unb rev key val low high),(20,.cell (fc nj)),(25,.cell (kl t)),(28,.cell (kl t)),(43,.cell (kl t)),(vu ei),(zI Y2),(yD B w0),(vA Y2 ib),(81,.loop [] [29] 74 [(29,.sem Y2)] .normal [.bool pe]),(86,.loop [] [0,40,42,45,29,71,72] 94 [(0,.args B w0),(D1 ck nc nt),(42,.cells AT 3),(45,.cells CL 58),(71,.cells l2 182),(93,.bag 188 n2),(29,.sem Y3)] .normal [.tuple ⟨[]⟩])])) (n:=600) (c2:=94) (by kernel_rfl) rfl rfl (vP k48 (vP k49 (vP k50 (vP k51 vN)))) (vP k47 (vB k29 (cZ k28 (vP k46 (cZ k28 (vB k22 (ax k21 (vB k20 (vB k19 (aX k18 (vP k45 (cZ k18 (kB k17 (vP k42 (vP k41 (vC k6 (vP k35 (vC k5 (vP k34 (vC k0 (vP k34 (vC k0 (vP k34 (vC k0 (vC k4 (vC k0 (vP k31 (vC k0 (vP k33 (vC k3 (vP k31 (vC k0 (vP k32 (vC k0 (vB k2 (vP k32 (vC k0 (vP k31 (vC k0 (vP k40 vN))))))))))))))))))))))))))))))))))))))))
include k0 k2 k3 k4 k5 k6 k17 k18 k19 k20 k21 k22 k28 k30 k31 k32 k33 k34 k35 k40 k41 k42 k45 k46 k56 k66 k67 k68 in
theorem Rs:re j b kk (r8 ck nc QB qc B n nt w0 w1 S NX AT CL l Y) (FB ck nc QB qc B n nt w0 w1 S CL NX2 AT2 L2 Y2):=
 bc mixed (ar.aE [40,81,19,82,49]) (C:=jz) [(71,71),(72,72)] zX (d:=aT [3,6,10,13,15,19,21,22,24,27,41,45,51,79,80,82,83] (aF [8,55,56,57,58,59,60,61,62,64,65,66,67,70,72,73,75,76,77,84] [(pb Y),(4,.cell (fc nj)),(7,.cell (pI la lc AB)),(mw la lc AB),(14,.cell (fc nj)),(qR kd lim rd unb rev key val low high),(20,.cell (fc nj)),(25,.cell (kl t)),(28,.cell (kl t)),(43,.cell (kl t)),(vu ei),(zI Y2),(yD B w0),(vA Y2 ib),(81,.loop [] [29] 74 [(29,.sem Y2)] .normal [.bool pe])])) (n:=600) (c2:=74) (by kernel_rfl) rfl rfl (vP k56 (vP k66 (vP k67 (vP k68 vN)))) (vB k30 (cZ k28 (vP k46 (cZ k28 (vB k22 (ax k21 (vB k20 (vB k19 (aX k18 (vP k45 (cZ k18 (kB k17 (vP k42 (vP k41 (vC k6 (vP k35 (vC k5 (vP k34 (vC k0 (vP k34 (vC k0 (vP k34 (vC k0 (vC k4 (vC k0 (vP k31 (vC k0 (vP k33 (vC k3 (vP k31 (vC k0 (vP k32 (vC k0 (vB k2 (vP k32 (vC k0 (vP k31 (vC k0 (vP k40 vN)))))))))))))))))))))))))))))))))))))))
include k0 k2 k3 k4 k5 k6 k17 k18 k19 k20 k21 k22 k27 k31 k32 k33 k34 k35 k40 k41 k42 k45 k56 k66 k67 k68 in
theorem SX:re j b kk (r8 ck nc QB qc B n nt w0 w1 S NX AT CL l Y) (FB ck nc QB qc B n nt w0 w1 S CL NX2 AT2 L2 Y2):=
 bc mixed (ar.aE [40,81,19,82,49]) (C:=jz) [(71,71),(72,72)] zX (d:=aT [3,6,10,13,15,19,21,22,24,27,41,45,51] (aF [8,55,56,57,58,59,60,61,62,64,65,66,67,70,72,73,75,76,77,79,80,81,82] [(pb Y),(4,.cell (fc nj)),(7,.cell (pI la lc AB)),(mw la lc AB),(14,.cell (fc nj)),(qR kd lim rd unb rev key val low high),(20,.cell (fc nj)),(25,.cell (kl t)),(28,.cell (kl t)),(43,.cell (kl t)),(vu ei),(zI Y2),(yD B w0),(vA Y2 ib)])) (n:=600) (c2:=74) (by kernel_rfl) rfl rfl (vP k56 (vP k66 (vP k67 (vP k68 vN)))) (ax k27 (vB k22 (ax k21 (vB k20 (vB k19 (aX k18 (vP k45 (cZ k18 (kB k17 (vP k42 (vP k41 (vC k6 (vP k35 (vC k5 (vP k34 (vC k0 (vP k34 (vC k0 (vP k34 (vC k0 (vC k4 (vC k0 (vP k31 (vC k0 (vP k33 (vC k3 (vP k31 (vC k0 (vP k32 (vC k0 (vB k2 (vP k32 (vC k0 (vP k31 (vC k0 (vP k40 vN))))))))))))))))))))))))))))))))))))
include k64 k69 k70 k71 in
theorem Nf:Sx.Ends Tryz.prog 71 73 100 (FF ck nc QB qc B n w0 w1 S NX AT CL Y) fZ (wG j b kk) (.exit 0) [(0,.args B w0),(yZ ck nc),(41,.cells NX2 3),(42,.cells AT2 3),(45,.cells CL 58),(27,.froz S w1),(29,.sem Y),(kG nc QB qc),(72,.bag 188 (n))] (wG j b kk):=
 bL mixed (ar.aE [40,81,19,82,49]) (C:=jz) [(72,72)] Fs (d:= [(0,.loop [] [29] 73 [(29,.sem Y)] .normal [.bool true])]) (n:=600) (c2:=73) (by kernel_rfl) rfl rfl (vP k69 (vP k70 (vP k71 vN))) (vP k64 vN)
include k64 k65 k66 k67 k68 in
theorem M3:Sx.Ends Tryz.prog 71 73 100 (r8 ck nc QB qc B n nt w0 w1 S NX AT CL l Y) fZ (wG j b kk) (.exit 0) [(0,.args B w0),(wa ck nc nt),(41,.cells NX2 3),(42,.cells AT2 3),(45,.cells CL 58),(27,.froz S w1),(29,.sem Y),(kG nc QB qc),(71,.cells L2 182),(72,.bag 188 (n))] (wG j b kk):=
 bL mixed (ar.aE [40,81,19,82,49]) (C:=jz) [(71,71),(72,72)] zX (d:= [(0,.loop [] [29] 73 [(29,.sem Y)] .normal [.bool true])]) (n:=600) (c2:=73) (by kernel_rfl) rfl rfl (vP k65 (vP k66 (vP k67 (vP k68 vN)))) (vP k64 vN)
end
section
open Go Go.Sx
set_option maxRecDepth 100000 in
theorem QV {ck lim:Int}{t j b kk nc nt B n:Nat}{w0:World}{at_:List Int}{cl l:List Value}{Y Y3:aG}{rd unb rev tir th:Bool}{key val low high vv:ByteArray} (h0:(decide (0≤(j:Int)∧(j:Int) < (nc:Int)))=true) (h1:(decide ((0:Int)≤Int.ofNat t∧Int.ofNat t < (nt:Int)))=true) (h2:(tir)=true) (h3:(cK (0+t*10+6+1) l)=true) (h4:(bz (n+1) 128)=true) (h5:(cK (0+t*10+7+1) (aH l (0+t*10+6) [Value.bool true]))=true) (r0:List.take 1 (List.drop (0+j*1) cl)= [Value.pointer (some { block:=b,off:=0,spot:=some kk})]∧ [Value.pointer (some { block:=b,off:=0,spot:=some kk})].length=1) (r1:List.take 1 (List.drop (0+j*1) (List.map (fun i=>Value.int IntKind.i64 i) at_))= [Value.int IntKind.i64 (Int.ofNat t)]∧ [Value.int IntKind.i64 (Int.ofNat t)].length=1) (r2:List.take 1 (List.drop (0+t*10+6) l)= [Value.bool tir]∧ [Value.bool tir].length=1) (r3:List.take 1 (List.drop (0+t*10+7) (aH l (0+t*10+6) [Value.bool true]))= [Value.chan (some 72)]∧1=1) (hd3:ab Tryz.prog 91 [(29,.sem Y)] 91 [(29,.sem Y3)] (.call 18 [pK b kk]) (.val (.tuple ⟨[.agg ⟨[.string vv,.bool th,sN,iI 0,.nilIface]⟩,.nilIface]⟩))) (hd7:ab Tryz.prog 92 [(0,.args B w0)] 92 [(0,.args B w0)] (.call 82 [.nilIface]) (.val (iI 0))):ab Tryz.prog 90 [(0,.args B w0),(40,.cells [pT 12,pT 24,sL 45 nc,sL 41 nc,(sL 71 nt),sL 42 nc,iI ck,.bool false] 51),(42,.cells (at_.map fun i=>iI i) 3),(45,.cells cl 58),(29,.sem Y),(71,.cells l 182),(72,.bag 188 n)] 94 [(0,.args B w0),(40,.cells [pT 12,pT 24,sL 45 nc,sL 41 nc,(sL 71 nt),sL 42 nc,iI ck,.bool false] 51),(42,.cells (at_.map fun i=>iI i) 3),(45,.cells cl 58),(71,.cells (aH (aH l (0+t*10+6) [.bool true]) (0+t*10+7) [cS 93]) 182),(93,.bag 188 (n+1)),(29,.sem Y3)] (.call 49 [pT 40,iI (j:Nat),.agg ⟨[iI 2,.bool rd,.string key,.string val,.string low,.string high,.bool unb,iI lim,.bool rev]⟩]) (.val (.tuple ⟨[]⟩)):=
 bh mixed (ar.aE [18,82,84]) (C:=(aE Tryz.prog cz [18,82,84])) (d:=aT [1,28,38,40,42,43,44,45,46,68,69] [(2,.cell (.tuple ⟨[Value.pointer (some { block:=b,off:=0,spot:=some kk})]⟩)),(3,.loop [] [29] 91 [(29,.sem Y3)] .normal [.tuple ⟨[.agg ⟨[.string vv,.bool th,sN,iI 0,.nilIface]⟩,.nilIface]⟩]),(7,.loop [] [0] 92 [(0,.args B w0)] .normal [iI 0]),(29,.cell (.tuple ⟨[Value.int IntKind.i64 (Int.ofNat t)]⟩)),(39,.cell (.tuple ⟨[Value.int IntKind.i64 (Int.ofNat t)]⟩)),(41,.cell (.tuple ⟨[Value.bool tir]⟩)),(56,.cell (.tuple ⟨[Value.chan (some 72)]⟩))]) (nn:=600) (by kernel_rfl) (vC h5 (vC h4 (vP r3 (vC h3 (ax h2 (vP r2 (vC h1 (vP r1 (vC h0 (vP r1 (vC h0 (vP hd7 (vP hd3 (vP r0 (vC h0 vN)))))))))))))))
set_option maxRecDepth 100000 in
theorem Se {ck lim:Int}{t j b kk nc nt B n:Nat}{w0:World}{at_:List Int}{cl l:List Value}{Y Y3:aG}{rd unb rev tir th:Bool}{key val low high vv:ByteArray} (h0:(decide (0≤(j:Int)∧(j:Int) < (nc:Int)))=true) (h1:(decide ((0:Int)≤Int.ofNat t∧Int.ofNat t < (nt:Int)))=true) (h2:(tir)=false) (h3:(cK (0+t*10+6+1) l)=true) (h4:(bz (n+1) 128)=true) (h5:(cK (0+t*10+7+1) (aH l (0+t*10+6) [Value.bool false]))=true) (r0:List.take 1 (List.drop (0+j*1) cl)= [Value.pointer (some { block:=b,off:=0,spot:=some kk})]∧ [Value.pointer (some { block:=b,off:=0,spot:=some kk})].length=1) (r1:List.take 1 (List.drop (0+j*1) (List.map (fun i=>Value.int IntKind.i64 i) at_))= [Value.int IntKind.i64 (Int.ofNat t)]∧ [Value.int IntKind.i64 (Int.ofNat t)].length=1) (r2:List.take 1 (List.drop (0+t*10+6) l)= [Value.bool tir]∧ [Value.bool tir].length=1) (r3:List.take 1 (List.drop (0+t*10+7) (aH l (0+t*10+6) [Value.bool false]))= [Value.chan (some 72)]∧1=1) (hd3:ab Tryz.prog 91 [(29,.sem Y)] 91 [(29,.sem Y3)] (.call 18 [pK b kk]) (.val (.tuple ⟨[.agg ⟨[.string vv,.bool th,sN,iI 0,.nilIface]⟩,.nilIface]⟩))) (hd7:ab Tryz.prog 92 [(0,.args B w0)] 92 [(0,.args B w0)] (.call 82 [.nilIface]) (.val (iI 0))) (hd46:ab Tryz.prog 92 [] 92 [] (.call 84 [.nilIface]) (.val (.bool false))):ab Tryz.prog 90 [(0,.args B w0),(40,.cells [pT 12,pT 24,sL 45 nc,sL 41 nc,(sL 71 nt),sL 42 nc,iI ck,.bool false] 51),(42,.cells (at_.map fun i=>iI i) 3),(45,.cells cl 58),(29,.sem Y),(71,.cells l 182),(72,.bag 188 n)] 94 [(0,.args B w0),(40,.cells [pT 12,pT 24,sL 45 nc,sL 41 nc,(sL 71 nt),sL 42 nc,iI ck,.bool false] 51),(42,.cells (at_.map fun i=>iI i) 3),(45,.cells cl 58),(71,.cells (aH (aH l (0+t*10+6) [.bool false]) (0+t*10+7) [cS 93]) 182),(93,.bag 188 (n+1)),(29,.sem Y3)] (.call 49 [pT 40,iI (j:Nat),.agg ⟨[iI 2,.bool rd,.string key,.string val,.string low,.string high,.bool unb,iI lim,.bool rev]⟩]) (.val (.tuple ⟨[]⟩)):=
 bh mixed (ar.aE [18,82,84]) (C:=(aE Tryz.prog cz [18,82,84])) (d:=aT [1,28,38,40,48,70,71] (aF [42,43,45,47] [(2,.cell (.tuple ⟨[Value.pointer (some { block:=b,off:=0,spot:=some kk})]⟩)),(3,.loop [] [29] 91 [(29,.sem Y3)] .normal [.tuple ⟨[.agg ⟨[.string vv,.bool th,sN,iI 0,.nilIface]⟩,.nilIface]⟩]),(7,.loop [] [0] 92 [(0,.args B w0)] .normal [iI 0]),(29,.cell (.tuple ⟨[Value.int IntKind.i64 (Int.ofNat t)]⟩)),(39,.cell (.tuple ⟨[Value.int IntKind.i64 (Int.ofNat t)]⟩)),(41,.cell (.tuple ⟨[Value.bool tir]⟩)),(46,.loop [] [] 92 [] .normal [.bool false]),(58,.cell (.tuple ⟨[Value.chan (some 72)]⟩))])) (nn:=600) (by kernel_rfl) (vC h5 (vC h4 (vP r3 (vC h3 (vB h2 (vP hd46 (aX h2 (vP r2 (vC h1 (vP r1 (vC h0 (vP r1 (vC h0 (vP hd7 (vP hd3 (vP r0 (vC h0 vN)))))))))))))))))
end
section
open Go Go.RowKit Go.Shelf Go.Lib
variable {P:Program}
theorem oK (w:World) (dT sT elem:TypeId) (k:Nat) (b o dLen:Nat) (a:Addr) (sLen:Nat) (cs:List Value) (cur:Array Value) (t:TypeId)
  (hu:P.underlying dT=some (.slice elem)) (hs:(P.info? elem).map (·.size)=some k) (hn:cs.length=Nat.min sLen dLen*k)
  (hsrc:∀j v,cs[j]? =some v→w.cell? (a.add j)=some v) (hg:w.heap[b]? =some (.cells cur t (0,0))) (hfit:o+cs.length≤cur.size) (h1:∀v,v∈cs→(∀xs,v≠ .agg xs)∧(∀xs,v≠ .tuple xs)):
  ∃w',(∀ty dCap sCap,(Builtin.copy_ #[dT,sT] ty #[.slice (some ⟨b,o,none⟩) dLen dCap,.slice (some a) sLen sCap]).run P w= .ok (goInt (Nat.min sLen dLen)) w')∧Sx.vR w b (.cells ⟨Sx.aH cur.toList o cs⟩ t (0,0)) w':=by
 have hl:=run_loadCells_list (P:=P) w a cs hsrc
 obtain⟨w',e1,e2⟩:=Sx.ir (P:=P) (b:=b) (off:=o) (t:=t) cs 0 cur w hg (by omega) h1
 refine⟨w',fun ty dCap sCap=> ?_,e2⟩
 cases hq:P.info? elem with
 |none=>simp [hq] at hs
 |some i=>
  have hi:i.size=k:=by simpa [hq] using hs
  simp [Builtin.copy_,run_underlying hu,Builtin.lenOf,Builtin.firstCells,sizeOf,typeInfo,hq,hi,←hn,hl,e1]
theorem sI:(Tryz.prog.info? 112).map (·.size)=some 3:=by kernel_rfl
theorem Hc:(Tryz.prog.info? 112).map (fun i=>(i.zero,i.size,i.bytes))=some (some (Value.agg #[.string ⟨#[]⟩,.string ⟨#[]⟩,.bool false]),3,40):=by kernel_rfl
theorem vH (w:World):(Go.sizeOf 112).run Tryz.prog w= .ok 3 w:=by kernel_rfl
set_option maxRecDepth 100000 in
set_option maxHeartbeats 4000000 in
theorem FR (b vb n c i vc:Nat) (hi:i < n) (hroom:n+1≤c) (hc:n≤1000000) (hvb:vb≠b) (cur vcur:Array Value) (cs vs:List Value) (w:World)
  (hb:w.heap[b]? =some (.cells cur 112 (0,0))) (hv:w.heap[vb]? =some (.cells vcur 112 (0,0))) (hsz:cur.size=c*3) (hcs:cs=(cur.toList.take (n*3)).drop (i*3)) (hvs:vs=vcur.toList.take 3) (hvl:vs.length=3)
  (h1c:∀v,v∈cs→(∀xs,v≠ .agg xs)∧(∀xs,v≠ .tuple xs)) (h1v:∀v,v∈vs→(∀xs,v≠ .agg xs)∧(∀xs,v≠ .tuple xs)):
  Calls Tryz.prog 71 #[.slice (some ⟨b,0,none⟩) n c,.int .i64 i,.slice (some ⟨vb,0,none⟩) 1 vc] w fun e w'=>
   e= .returned (.slice (some ⟨b,0,none⟩) (n+1) c)∧Sx.vR w b (.cells ⟨Sx.aH (Sx.aH cur.toList ((i+1)*3) cs) (i*3) vs⟩ 112 (0,0)) w':=by
 have u99:=run_underlying Tryz.underlying99
 have u3:=run_underlying Tryz.underlying3
 have u4:=run_underlying Tryz.underlying4
 have u112:=run_underlying Tryz.underlying112
 have z112:=vH
 have hz2:¬((i:Int)=(n:Int)):=by omega
 have hsv:w.shape? vb=some (112,vcur.size):=by simp [World.shape?,hv]
 have hsb:w.shape? b=some (112,cur.size):=by simp [World.shape?,hb]
 have hfv:∀o,w.frozen? ⟨vb,o,none⟩=false:=fun o=>by simp [World.frozen?,hv]
 have hov:∀lb cb,(callFunc 101 #[.slice (some ⟨vb,0,none⟩) 1 vc,.slice (some ⟨b,(i+1)*3,none⟩) lb cb]).run Tryz.prog w= .ok (.value (.bool false)) w:=fun lb cb=>by
  rw [run_callFunc_extern Tryz.func101 (by kernel_rfl) (by kernel_rfl) (by kernel_rfl) (e:=Extern.SlicesOverlaps.overlaps #[99,99] #[4]) (by kernel_rfl),
   Lib.run_overlaps_apart w 99 4 112 Tryz.underlying99 3 vH ⟨vb,0,none⟩ ⟨b,(i+1)*3,none⟩ 1 vc lb cb hvb 112 112 vcur.size cur.size hsv hsb (by omega) (hfv _) (hfv _)]
  rfl
 have hcl:cs.length=(n - i)*3:=by rw [hcs,List.length_drop,List.length_take,Nat.min_eq_left (by simp;omega)];omega
 have hbd:w.drew.heap[b]? =some (.cells cur 112 (0,0)):=hb
 obtain⟨w1,hcp1,p1⟩:=oK (P:=Tryz.prog) w.drew 99 99 112 3 b ((i+1)*3) (n - i) ⟨b,i*3,none⟩ (n+1 - i) cs cur 112 Tryz.underlying99 sI (by rw [hcl];simp only [Nat.min_def];split <;> omega)
  (fun j v hj=>by
   rw [Addr.add_lit]
   have hlt:j < cs.length:=(List.getElem?_eq_some_iff.1 hj).1
   rw [Sx.cell_of hbd]
   rw [hcs,List.getElem?_drop,List.getElem?_take] at hj
   split at hj
   · simpa using hj
   · cases hj) hbd (by rw [hcl,hsz];omega) h1c
 have hb1:w1.heap[b]? =some (.cells ⟨Sx.aH cur.toList ((i+1)*3) cs⟩ 112 (0,0)):=p1.at_
 have hv1:w1.heap[vb]? =some (.cells vcur 112 (0,0)):=by rw [p1.other vb hvb];exact hv
 obtain⟨w2,hcp2,p2⟩:=oK (P:=Tryz.prog) w1 99 99 112 3 b (i*3) (n+1 - i) ⟨vb,0,none⟩ 1 vs _ 112 Tryz.underlying99 sI (by rw [hvl];simp only [Nat.min_def];split <;> omega)
  (fun j v hj=>by
   rw [Addr.add_lit,Sx.cell_of hv1]
   rw [hvs,List.getElem?_take] at hj
   split at hj
   · simpa using hj
   · cases hj) hb1 (by simp [Sx.cJ,hvl,hsz];omega) h1v
 go_enter Tryz.func71,Tryz.ntmps71
 go_wp2_with (simp only [hov])
 have hlen1:n+1 - (i+1)=n - i:=by omega
 have mixedH:=mixed
 have hw1:IntKind.i64.wrap ((i:Int)+1)=(i:Int)+1:=by rw [IntKind.wrap_i64];omega
 have hq1:(0:Int)≤(i:Int)+1:=by omega
 have hin:i≤n:=by omega
 have htn:((i:Int)+1).toNat=i+1:=by omega
 have hq2:¬(c=i+1):=by omega
 have hq3:(i:Int)≤(n:Int)+1:=by omega
 have hq4:¬(c=i):=by omega
 go_region_law_o (refine step_copy_runI rfl _ _ 99 99 rfl (.slice (some ⟨b,(i+1)*3,none⟩) (n - i) (c - (i+1))) (.slice (some ⟨b,i*3,none⟩) (n+1 - i) (c - i)) (by simp [Act.eval,Act.put,hlen1]) (by simp [Act.eval,Act.put]) (hcp1 _ _ _) ?_)
 go_wp2_with (at_builtin;refine wpList_copy_runI _ rfl _ _ 99 99 rfl _ _ rfl rfl (hcp2 _ _ _) ?_)
 go_ret
 exact⟨rfl,p2.os.trans p1.os,p2.tape.trans p1.tape,p2.output.trans p1.output,p2.size.trans p1.size,p2.at_,fun k hk=>(p2.other k hk).trans (p1.other k hk)⟩
set_option maxRecDepth 100000 in
set_option maxHeartbeats 4000000 in
theorem Ka (b vb n c i vc:Nat) (hi:i < n) (hnc:n≤c) (hroom:c < n+1) (hc:c≤1000000) (cur vcur:Array Value) (cs vs:List Value) (w:World)
  (hb:w.heap[b]? =some (.cells cur 112 (0,0))) (hv:w.heap[vb]? =some (.cells vcur 112 (0,0))) (hsz:cur.size=c*3) (hcs:cs=(cur.toList.take (n*3)).drop (i*3)) (hvs:vs=vcur.toList.take 3) (hvl:vs.length=3)
  (h1c:∀v,v∈cs→(∀xs,v≠ .agg xs)∧(∀xs,v≠ .tuple xs)) (h1v:∀v,v∈vs→(∀xs,v≠ .agg xs)∧(∀xs,v≠ .tuple xs)):
  Calls Tryz.prog 71 #[.slice (some ⟨b,0,none⟩) n c,.int .i64 i,.slice (some ⟨vb,0,none⟩) 1 vc] w fun e w'=>
   ∃(G:Nat) (ROW:Array Value),n+1≤G∧ROW.size=G*3∧ROW.toList.take (i*3)=cur.toList.take (i*3)∧e= .returned (.slice (some ⟨w.heap.size,0,none⟩) (n+1) G)∧w'.os=w.os∧w'.tape=w.tape∧w'.output=w.output∧w'.heap.size=w.heap.size+1∧
    w'.heap[w.heap.size]? =some (.cells ⟨Sx.aH (Sx.aH ROW.toList (i*3) vs) ((i+1)*3) cs⟩ 112 (0,0))∧∀k,k < w.heap.size→w'.heap[k]? =w.heap[k]? :=by
 have u99:=run_underlying Tryz.underlying99
 have u3:=run_underlying Tryz.underlying3
 have u4:=run_underlying Tryz.underlying4
 have u112:=run_underlying Tryz.underlying112
 have z112:=vH
 have hz2:¬((i:Int)=(n:Int)):=by omega
 have hz3:(c:Int) < (n:Int)+1:=by omega
 obtain⟨i0,hi0,hz0,hzs,hzb⟩:=info_parts Hc
 have hkk:(n:Int)+1 - (i:Int)=((n+1 - i:Nat):Int):=by omega
 have hik:i+(n+1 - i)=n+1:=by omega
 have hold:(Builtin.firstCells i0.size i (.slice (some ⟨b,0,none⟩) i c)).run Tryz.prog w.drew= .ok (cur.toList.take (i*3)).toArray w.drew:=by
  rw [hzs]
  exact run_firstCells_some w.drew 3 i ⟨b,0,none⟩ i c (cur.toList.take (i*3)) (by rw [List.length_take];simp;omega) (fun j v hj=>by
   rw [Addr.add_lit,Sx.cell_of (show w.drew.heap[b]? =_ from hb)]
   rw [List.getElem?_take] at hj
   split at hj
   · simpa using hj
   · cases hj)
 obtain⟨G,hG⟩:∃G,G=grownCap w (n+1) c 112:=⟨_,rfl⟩
 obtain⟨ROW,hROW⟩:∃ROW:Array Value,ROW=(cur.toList.take (i*3)).toArray++Builtin.zeroCells (Value.agg #[.string ⟨#[]⟩,.string ⟨#[]⟩,.bool false]).cells (n+1 - i)++Builtin.zeroCells (Value.agg #[.string ⟨#[]⟩,.string ⟨#[]⟩,.bool false]).cells (G - (n+1)):=⟨_,rfl⟩
 have hrz:∀ty,(Builtin.append_ #[99,3] ty #[.slice (some ⟨b,0,none⟩) i c,.int .i64 ((n:Int)+1 - (i:Int))]).run Tryz.prog w= .ok (.slice (some ⟨w.heap.size,0,none⟩) (n+1) G) (w.drew.alloc (.cells ROW 112)):=fun ty=>by
  have h:=Lib.run_append_grow_zeros w 99 3 ty 112 i0 _ .i64 .i64 Tryz.underlying99 Tryz.underlying3 hi0 hz0 (some ⟨b,0,none⟩) i c (cur.toList.take (i*3)) hold (n+1 - i) (by omega) (by omega) (by omega) (by omega) (by rw [hzb];omega) (by rw [hzb,hik];exact growslice_fits hroom (by omega))
  rw [hik] at h
  rw [hkk,hROW,hG]
  exact h
 have hGn:n+1≤G:=by rw [hG];exact grownCap_ge w _ _ _
 have hG63:G≤9223372036854775807:=by
  have:=grownCap_le_maxLen w (n+1) c 112 (by unfold maxLen;omega)
  rw [←hG] at this
  unfold maxLen at this
  omega
 have hRs:ROW.size=G*3:=by
  rw [hROW];simp [Builtin.zeroCells,Value.cells];omega
 have hRt:ROW.toList.take (i*3)=cur.toList.take (i*3):=by
  have e:ROW.toList=cur.toList.take (i*3)++(Builtin.zeroCells (Value.agg #[.string ⟨#[]⟩,.string ⟨#[]⟩,.bool false]).cells (n+1 - i)++Builtin.zeroCells (Value.agg #[.string ⟨#[]⟩,.string ⟨#[]⟩,.bool false]).cells (G - (n+1))).toList:=by
   rw [hROW,Array.append_assoc,Array.toList_append]
  rw [e,List.take_append_of_le_length (by rw [List.length_take];simp;omega),List.take_take,Nat.min_self]
 clear hkk hik hold hROW hG hi0 hz0 hzs hzb
 have mixedH:=mixed
 have hw1:IntKind.i64.wrap ((i:Int)+1)=(i:Int)+1:=by rw [IntKind.wrap_i64];omega
 have hq1:(0:Int)≤(i:Int)+1:=by omega
 have hin:i≤n:=by omega
 have htn:((i:Int)+1).toNat=i+1:=by omega
 have hGi:¬(G=i):=by omega
 have hGim:¬(G=i+1):=by omega
 have hci:¬(c=i):=by omega
 have hb3:(i:Int)≤(n:Int):=by omega
 have hcl:cs.length=(n - i)*3:=by rw [hcs,List.length_drop,List.length_take,Nat.min_eq_left (by simp;omega)];omega
 have hbw:b < w.heap.size:=(Array.getElem?_eq_some_iff.1 hb).1
 have hvw:vb < w.heap.size:=(Array.getElem?_eq_some_iff.1 hv).1
 have hN:(w.alloc (.cells ROW 112)).drew.heap[w.heap.size]? =some (.cells ROW 112 (0,0)):=by show(w.heap.push (Obj.cells ROW 112))[w.heap.size]? =_;simp
 have hO:∀k,k < w.heap.size→(w.alloc (.cells ROW 112)).drew.heap[k]? =w.heap[k]? :=fun k hk=>by show(w.heap.push (Obj.cells ROW 112))[k]? =_;rw [Array.getElem?_push,if_neg (by omega)]
 obtain⟨w1,hcp1,p1⟩:=oK (P:=Tryz.prog) (w.alloc (.cells ROW 112)).drew 99 99 112 3 w.heap.size (i*3) (n+1 - i) ⟨vb,0,none⟩ 1 vs ROW 112 Tryz.underlying99 sI (by rw [hvl];simp only [Nat.min_def];split <;> omega)
  (fun j v hj=>by
   rw [Addr.add_lit,Sx.cell_of ((hO vb hvw).trans hv)]
   rw [hvs,List.getElem?_take] at hj
   split at hj
   · simpa using hj
   · cases hj) hN (by rw [hvl,hRs];omega) h1v
 have hN1:w1.drew.heap[w.heap.size]? =some (.cells ⟨Sx.aH ROW.toList (i*3) vs⟩ 112 (0,0)):=p1.at_
 have hb1:w1.drew.heap[b]? =some (.cells cur 112 (0,0)):=(p1.other b (by omega)).trans ((hO b hbw).trans hb)
 obtain⟨w2,hcp2,p2⟩:=oK (P:=Tryz.prog) w1.drew 99 99 112 3 w.heap.size ((i+1)*3) (n+1 - (i+1)) ⟨b,i*3,none⟩ (n - i) cs _ 112 Tryz.underlying99 sI (by rw [hcl];simp only [Nat.min_def];split <;> omega)
  (fun j v hj=>by
   rw [Addr.add_lit,Sx.cell_of hb1]
   rw [hcs,List.getElem?_drop,List.getElem?_take] at hj
   split at hj
   · simpa using hj
   · cases hj) hN1 (by simp [Sx.cJ,hcl,hRs];omega) h1c
 go_enter Tryz.func71,Tryz.ntmps71
 go_wp2_with (first
  |(at_builtin;refine Lib.wpList_append_run _ rfl _ _ _ _ rfl _ _ rfl rfl _ _ (hrz _) ?_)
  |(at_builtin;refine wpList_copy_runI _ rfl _ _ 99 99 rfl _ _ rfl rfl (hcp1 _ _ _) ?_))
 have hlen1:n+1 - (i+1)=n - i:=by omega
 go_region_law_o (refine step_copy_runI rfl _ _ 99 99 rfl (.slice (some ⟨w.heap.size,(i+1)*3,none⟩) (n+1 - (i+1)) (G - (i+1))) (.slice (some ⟨b,i*3,none⟩) (n - i) (c - i)) (by simp [Act.eval,Act.put,hlen1]) (by simp [Act.eval,Act.put]) (hcp2 _ _ _) ?_)
 go_wp2
 go_ret
 have hsz1:(w.alloc (.cells ROW 112)).drew.heap.size=w.heap.size+1:=by show(w.heap.push (Obj.cells ROW 112)).size=_;simp
 exact⟨G,ROW,hGn,hRs,hRt,rfl,p2.os.trans p1.os,p2.tape.trans p1.tape,p2.output.trans p1.output,p2.size.trans (p1.size.trans hsz1),p2.at_,fun k hk=>(p2.other k (by omega)).trans ((p1.other k (by omega)).trans (hO k hk))⟩
end
section
open Go.Sx
noncomputable def zS:Code:=bD [1,0,1,0,0,1,0,0,1,0,0] (bA 123)
def eO (w:Wt):List Value:= [.string w.1,.string w.2.1,.bool w.2.2]
def w0:Wt:=(⟨#[]⟩,⟨#[]⟩,false)
def mh (ws:List Wt) (w:Wt):Heap:= [(0,.cells (ah ws) 112),(1,.cells [.slice (some ⟨0,0,none⟩) ws.length 0] 99),(2,.cells (eO w) 112)]
def wE (ws:List Wt):Heap:= [(0,.cells (ah ws) 112),(1,.cells [.slice (some ⟨0,0,none⟩) ws.length 0] 99)]
noncomputable def pY (ws:List Wt) (key:ByteArray) (i:Int) (b:Bool):List Value:=ay 32 0 [(0,.string key),(1,.slice (some ⟨1,0,none⟩) 1 0),(4,.pointer (some ⟨2,0,none⟩)),(5,.bool b),(6,.int .i64 0),(9,.slice (some ⟨1,0,none⟩) 1 0),(10,.int .i64 1),(11,.int .i64 0),(19,.slice (some ⟨0,0,none⟩) ws.length 0),(20,.int .i64 ws.length),(21,.int .i64 i)]
set_option maxRecDepth 100000 in
theorem TJ {ws:List Wt}{key:ByteArray}{i:Nat} (h0:(decide ((i:Int) < (ws.length:Int)))=true) (h1:(decide (0≤(i:Int)∧(i:Int) < (ws.length:Int)))=true) (h2:(cH (bp ws ((0+i*3) / 3)).fst key)=true) (hr:List.take 3 (List.drop (0+i*3) (ah ws))= [Value.string (bp ws ((0+i*3) / 3)).fst,Value.string (bp ws ((0+i*3) / 3)).snd.fst,Value.bool (bp ws ((0+i*3) / 3)).snd.snd]∧ [Value.string (bp ws ((0+i*3) / 3)).fst,Value.string (bp ws ((0+i*3) / 3)).snd.fst,Value.bool (bp ws ((0+i*3) / 3)).snd.snd].length=3):Sx.Ends Tryz.prog 3 3 4 (mh ws w0) zS (pY ws key i false) .ret (mh ws (bp ws ((0+i*3) / 3))) (ay 32 0 [(0,.string key),(1,sL 1 1),(4,pT 2),(5,.bool true),(6,iI 0),(9,sL 1 1),(10,iI 1),(11,iI 0),(19,sL 0 ws.length),(20,iI ws.length),(21,iI (i))]):=
 bL mixed ae [] [(0,true),(1,false),(2,false)] (d:=aT [0,1,5] [(2,.cell (.tuple ⟨[Value.string (bp ws ((0+i*3) / 3)).fst,Value.string (bp ws ((0+i*3) / 3)).snd.fst,Value.bool (bp ws ((0+i*3) / 3)).snd.snd]⟩))]) (n:=600) (c2:=4) (L':= [.p (aj (ah ws) ((ah ws).map (ao (nameOf [] 3 4) 9)))]) (by kernel_rfl) rfl rfl (ag bm af) (vB h2 (vP hr (vC h1 (vB h0 vN))))
set_option maxRecDepth 100000 in
theorem TM {ws:List Wt}{key:ByteArray}{i:Nat} (h0:(decide ((i:Int) < (ws.length:Int)))=true) (h1:(decide (0≤(i:Int)∧(i:Int) < (ws.length:Int)))=true) (h2:(cH (bp ws ((0+i*3) / 3)).fst key)=false) (hr:List.take 3 (List.drop (0+i*3) (ah ws))= [Value.string (bp ws ((0+i*3) / 3)).fst,Value.string (bp ws ((0+i*3) / 3)).snd.fst,Value.bool (bp ws ((0+i*3) / 3)).snd.snd]∧ [Value.string (bp ws ((0+i*3) / 3)).fst,Value.string (bp ws ((0+i*3) / 3)).snd.fst,Value.bool (bp ws ((0+i*3) / 3)).snd.snd].length=3):Sx.bX Tryz.prog 3 3 4 (mh ws w0) zS (pY ws key i false) (mh ws w0) (ay 32 0 [(0,.string key),(1,sL 1 1),(4,pT 2),(5,.bool false),(6,iI 0),(9,sL 1 1),(10,iI 1),(11,iI 0),(19,sL 0 ws.length),(20,iI ws.length),(21,iI (IntKind.i64.wrap ((i:Int)+1)))]):=
 bc mixed ae [] [(0,true),(1,false),(2,false)] (d:=aT [0,1] (aF [5] [(2,.cell (.tuple ⟨[Value.string (bp ws ((0+i*3) / 3)).fst,Value.string (bp ws ((0+i*3) / 3)).snd.fst,Value.bool (bp ws ((0+i*3) / 3)).snd.snd]⟩))])) (n:=600) (c2:=4) (L':= [.p (aj (ah ws) ((ah ws).map (ao (nameOf [] 3 4) 9)))]) (by kernel_rfl) rfl rfl (ag bm af) (vB h2 (vP hr (vC h1 (vB h0 vN))))
set_option maxRecDepth 100000 in
theorem Ub {ws:List Wt}{key:ByteArray}{i:Nat} (h0:(decide ((i:Int) < (ws.length:Int)))=false):Sx.Ends Tryz.prog 3 3 4 (mh ws w0) zS (pY ws key i false) (.exit 2) (mh ws w0) (ay 32 0 [(0,.string key),(1,sL 1 1),(4,pT 2),(5,.bool false),(6,iI 0),(9,sL 1 1),(10,iI 1),(11,iI 0),(19,sL 0 ws.length),(20,iI ws.length),(21,iI (i))]):=
 bL mixed ae [] [(0,true),(1,false),(2,false)] (d:=aF [0] []) (n:=600) (c2:=3) (L':= [.p (aj (ah ws) ((ah ws).map (ao (nameOf [] 3 4) 9)))]) (by kernel_rfl) rfl rfl (ag bm af) (vB h0 vN)
set_option maxRecDepth 100000 in
theorem S6 {ws:List Wt}{key:ByteArray}{i:Nat} (hd:ab Tryz.prog 3 (mh ws w0) 4 (mh ws w0) (.inLoop zS (pY ws key 0 false)) (.out (.exit 2) (pY ws key ws.length false))):ab Tryz.prog 2 (wE ws) 4 (wE ws) (.call 123 [.string key,sL 1 1]) (.val (.tuple ⟨[.agg ⟨[.string ({ data:= #[]}),.string ({ data:= #[]}),.bool false,]⟩,.bool false,]⟩)):=
 bZ mixed ae [] [(0,true),(1,false)] (d:= [(4,.loop [0,1,4,5,6,9,10,11,19,20,21] [0,1,2] 4 (mh ws w0) (.exit 2) (pY ws key ws.length false))]) (n:=600) (c2:=4) (L':= [.p (aj (ah ws) ((ah ws).map (ao (nameOf [] 2 4) 9)))]) (by kernel_rfl) rfl rfl (ag bm af) (vP hd vN)
set_option maxRecDepth 100000 in
theorem QU {ws:List Wt}{key:ByteArray}{i:Nat} (hd:ab Tryz.prog 3 (mh ws w0) 4 (mh ws (bp ws i)) (.inLoop zS (pY ws key 0 false)) (.out .ret (pY ws key i true))):ab Tryz.prog 2 (wE ws) 4 (wE ws) (.call 123 [.string key,sL 1 1]) (.val (.tuple ⟨[.agg ⟨[.string ((bp ws i).1),.string ((bp ws i).snd.1),.bool ((bp ws i).snd.snd),]⟩,.bool true,]⟩)):=
 bZ mixed ae [] [(0,true),(1,false)] (d:= [(4,.loop [0,1,4,5,6,9,10,11,19,20,21] [0,1,2] 4 (mh ws (bp ws i)) .ret (pY ws key i true))]) (n:=600) (c2:=4) (L':= [.p (aj (ah ws) ((ah ws).map (ao (nameOf [] 2 4) 9)))]) (by kernel_rfl) rfl rfl (ag bm af) (vP hd vN)
theorem Ou {ws:List Wt}{key:ByteArray}{h0:Heap} (hl:ws.length < 1000000):∀(r i:Nat),i+r=ws.length→
  Mid Tryz.prog 3 h0 3 (mh ws w0) 4 (mh ws w0) zS (pY ws key i false) (.exit 2) (pY ws key ws.length false)∨∃p,p < ws.length∧Mid Tryz.prog 3 h0 3 (mh ws w0) 4 (mh ws (bp ws p)) zS (pY ws key i false) .ret (pY ws key p true):=by
 intro r
 induction r with
 |zero=>
  intro i hi
  obtain rfl:i=ws.length:=by omega
  exact .inl ((Ub (decide_eq_false (by omega))).dt (by simp) (by decide))
 |succ r ih=>
  intro i hi
  have q:i < ws.length:=by omega
  have ho:0+i*3=3*i:=by omega
  have hrd:=EZ ho q
  have hd3:(0+i*3) / 3=i:=by omega
  cases e3:cH (bp ws i).1 key with
  |true=>
   have g:=TJ (ws:=ws) (key:=key) (i:=i) (decide_eq_true (by omega)) (decide_eq_true (by omega)) (by rw [hd3];exact e3) (by rw [hd3];exact hrd)
   rw [hd3] at g
   exact .inr ⟨i,q,g.dt (by simp) (by decide)⟩
  |false=>
   have g:=TM (ws:=ws) (key:=key) (i:=i) (decide_eq_true (by omega)) (decide_eq_true (by omega)) (by rw [hd3];exact e3) (by rw [hd3];exact hrd)
   rw [wrap64 (by omega) (by omega)] at g
   rcases ih (i+1) (by omega) with m|⟨p,hp,m⟩
   · exact .inl (g.dt (by decide) (by decide) m)
   · exact .inr ⟨p,hp,g.dt (by decide) (by decide) m⟩
theorem Mz {ws:List Wt}{key:ByteArray} (hl:ws.length < 1000000):∃(w:Wt) (b:Bool),ab Tryz.prog 2 (wE ws) 4 (wE ws) (.call 123 [.string key,.slice (some ⟨1,0,none⟩) 1 0]) (.val (.tuple ⟨[.agg ⟨[.string w.1,.string w.2.1,.bool w.2.2]⟩,.bool b]⟩)):=by
 rcases Ou (key:=key) (h0:=mh ws w0) hl ws.length 0 (by omega) with m|⟨p,hp,m⟩
 · exact⟨w0,false,S6 (i:=0) (fG (by decide) m)⟩
 · exact⟨bp ws p,true,QU (fG (by decide) m)⟩
end
section
open Go Go.Sx
def dR (ws:List Wt) (i:Nat) (w:Wt):List Wt:=ws.take i++w::ws.drop i
def yE (ws:List Wt) (w:Wt):Heap:= [(0,.cells (ah ws) 112),(1,.cells (eO w) 112)]
theorem gz:∀(a b:List Wt),ah (a++b)=ah a++ah b
 | [],_=>rfl
 |x::a,b=>by simp only [List.cons_append,ah,gz a b]
theorem tB:∀(ws:List Wt) (i:Nat),(ah ws).take (3*i)=ah (ws.take i)
 |ws,0=>by simp [ah]
 | [],i+1=>by simp [ah]
 |w::ws,i+1=>by
  rw [show 3*(i+1)=3*i+3 by omega,ah,List.take_succ_cons,List.take_succ_cons,List.take_succ_cons,tB ws i,List.take_succ_cons,ah]
theorem lN {r:Env}:∀ {ws:List Wt}{us:List Value},aw r (ah ws) us→us=ah ws
 | [],_,h=>by cases h;rfl
 |w::ws,_,h=>by
  cases h with
  |cons h1 h=>cases h with
   |cons h2 h=>cases h with
    |cons h3 h=>
     cases h1;cases h2;cases h3
     rw [lN h];rfl
theorem mS {r:Env}:∀ws:List Wt,aw r (ah ws) (ah ws)
 | []=> .nil
 |w::ws=> .cons (.string _) (.cons (.string _) (.cons (.bool _) (mS ws)))
theorem pB:∀ {ws:List Wt}{v:Value},v∈ah ws→(∀xs,v≠ .agg xs)∧(∀xs,v≠ .tuple xs)
 |w::ws,v,h=>by
  simp only [ah,List.mem_cons] at h
  rcases h with rfl|rfl|rfl|h
  · constructor <;> intro _ h <;> cases h
  · constructor <;> intro _ h <;> cases h
  · constructor <;> intro _ h <;> cases h
  · exact pB h
theorem qA (a b c d:List Value) (h:b.length=c.length):Sx.aH (a++b++d) a.length c=a++c++d:=by
 induction c generalizing a b with
 |nil=>cases b with
  |nil=>simp [Sx.aH]
  |cons _ _=>simp at h
 |cons x c ih=>cases b with
  |nil=>simp at h
  |cons y b=>
   simp only [List.length_cons,Nat.add_right_cancel_iff] at h
   have e:(a++y::b++d).set a.length x=(a++ [x])++b++d:=by simp
   simp only [Sx.aH]
   rw [e]
   have:=ih (a++ [x]) b h
   rw [List.length_append] at this
   simpa using this
theorem Rh {l:List Value}{n m k:Nat} (h:n+m≤k) (hk:k≤l.length):∃a b c d,l=a++b++(c++d)∧a.length=n∧b.length=m∧c.length=k - n - m∧l.take n=a:=by
 refine⟨l.take n,(l.drop n).take m,((l.drop n).drop m).take (k - n - m),((l.drop n).drop m).drop (k - n - m),?_,?_,?_,?_,rfl⟩
 · rw [List.take_append_drop,List.append_assoc,List.take_append_drop,List.take_append_drop]
 · rw [List.length_take];omega
 · rw [List.length_take,List.length_drop];omega
 · rw [List.length_take,List.length_drop,List.length_drop];omega
theorem laid {l:List Value}{ws:List Wt}{w:Wt}{i:Nat} (hi:i < ws.length) (hl:3*(ws.length+1)≤l.length) (ht:l.take (i*3)=ah (ws.take i)) (o:Bool):((if o then Sx.aH (Sx.aH l ((i+1)*3) (ah (ws.drop i))) (i*3) (eO w) else Sx.aH (Sx.aH l (i*3) (eO w)) ((i+1)*3) (ah (ws.drop i))).take (ah (dR ws i w)).length)=ah (dR ws i w):=by
 have hd:(ah (ws.drop i)).length=3*(ws.length - i):=by rw [fy,List.length_drop]
 have hw:ah (dR ws i w)=ah (ws.take i)++eO w++ah (ws.drop i):=by rw [dR,gz];simp [ah,eO]
 obtain⟨a,b,c,d,e,la,lb,lc,hta⟩:=Rh (l:=l) (n:=i*3) (m:=3) (k:=3*(ws.length+1)) (by omega) hl
 have ha:a=ah (ws.take i):=by rw [←hta,ht]
 have hlen:(ah (dR ws i w)).length=3*(ws.length+1):=by
  rw [fy,dR];simp;omega
 have key:(if o then Sx.aH (Sx.aH l ((i+1)*3) (ah (ws.drop i))) (i*3) (eO w) else Sx.aH (Sx.aH l (i*3) (eO w)) ((i+1)*3) (ah (ws.drop i)))=a++eO w++(ah (ws.drop i)++d):=by
  have h1:∀x:List Value,x.length=3→Sx.aH (a++x++(c++d)) ((i+1)*3) (ah (ws.drop i))=a++x++(ah (ws.drop i)++d):=fun x hx=>by
   have:=qA (a++x) c (ah (ws.drop i)) d (by rw [lc,hd];omega)
   rw [List.length_append,la,hx,show i*3+3=(i+1)*3 by omega] at this
   rw [←List.append_assoc,this,List.append_assoc]
  have h2:∀y:List Value,Sx.aH (a++b++y) (i*3) (eO w)=a++eO w++y:=fun y=>by
   have:=qA a b (eO w) y (by rw [lb];rfl)
   rw [la] at this;exact this
  cases o with
  |true=>simp only [if_true];rw [e,h1 b lb,h2]
  |false=>simp only [Bool.false_eq_true,if_false];rw [e,h2,h1 (eO w) rfl]
 rw [key,hlen,hw,ha,←List.append_assoc,List.take_append_of_le_length (by rw [←hw,hlen];exact Nat.le_refl _),List.take_of_length_le (by rw [←hw,hlen];exact Nat.le_refl _)]
end
end Go.Proofs.YtalanookmohdeaaGreatDoor
