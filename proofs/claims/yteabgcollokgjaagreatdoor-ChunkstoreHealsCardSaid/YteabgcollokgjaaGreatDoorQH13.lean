/- Q -/
import Derived.Test.YteabgcollokgjaaGreatDoorQH11
import Derived.Test.YteabgcollokgjaaGreatDoorQH12
import Derived.Deep.RegionHeld
set_option linter.unusedSimpArgs false
set_option linter.unusedVariables false
set_option maxRecDepth 100000
set_option maxHeartbeats 32000000
open Go.Lib (hid)
open List renaming getD_eq_getElem?_getD → zA
open Nat renaming le_refl → zB
namespace Go.Proofs.YteabgcollokgjaaGreatDoor
section
open Go.RowKit Go.MapKept Go.ChangeMaps
attribute [local go_sem] wext_cell
theorem fields31:Tryz.prog.underlying 31=some (.struct (Tryz.prog.fieldsOf 31)):=by kernel_rfl
theorem stood31:Tryz.prog.stoodInHeld 31=false:=by kernel_rfl
theorem eqIn31 (a b:ID) (W:World):(Op.equalIn 10000 31 (.agg #[.int .u64 a.1,.int .i64 a.2]) (.agg #[.int .u64 b.1,.int .i64 b.2])).run Tryz.prog W= .ok (decide (a=b)) W:=by
 have h1:=run_equalIn_agg (P:=Tryz.prog) W 9999 31 #[.int .u64 a.1,.int .i64 a.2] #[.int .u64 b.1,.int .i64 b.2] fields31 stood31;rw [show Op.equalIn 10000 31 (.agg #[.int .u64 a.1,.int .i64 a.2]) (.agg #[.int .u64 b.1,.int .i64 b.2])=Op.equalIn (9999+1) 31 (.agg #[.int .u64 a.1,.int .i64 a.2]) (.agg #[.int .u64 b.1,.int .i64 b.2]) from rfl,h1];unfold Program.fieldsOf;rw [Tryz.underlying31];have e29:=fun (a b:Int)=>run_equalIn_int (P:=Tryz.prog) W 9998 29 .u64 .u64 a b Tryz.underlying29;have e3:=fun (a b:Int)=>run_equalIn_int (P:=Tryz.prog) W 9998 3 .i64 .i64 a b Tryz.underlying3;simp [Op.eqFields,go_sem];by_cases h1:a.1=b.1
 · by_cases h2:a.2=b.2
   · have:a=b:=Prod.ext h1 h2;simp [this]
   have:a≠b:=fun e=>h2 (by rw [e]);simp [h1,h2,this]
 have:a≠b:=fun e=>h1 (by rw [e]);simp [h1,this]
theorem eql31 (a b:ID) (W:World):(binOp .eql 31 (.agg #[.int .u64 a.1,.int .i64 a.2]) (.agg #[.int .u64 b.1,.int .i64 b.2])).run Tryz.prog W= .ok (.bool (decide (a=b))) W:=by
 rw [run_eql_struct,eqIn31];rfl
theorem neq31 (a b:ID) (W:World):(binOp .neq 31 (.agg #[.int .u64 a.1,.int .i64 a.2]) (.agg #[.int .u64 b.1,.int .i64 b.2])).run Tryz.prog W= .ok (.bool (!decide (a=b))) W:=by
 rw [run_neq_struct,eqIn31];rfl
theorem add_str (a b:ByteArray) (W:World) (h:a.size+b.size<=9223372036854775807):(binOp .add 9 (.string a) (.string b)).run Tryz.prog W= .ok (.string (a++b)) W:=by
 simp [binOp,Op.stringOp];omega
theorem dec1:(⟨(Lib.decDigits 1).toArray⟩:ByteArray)=⟨#[49]⟩:=by kernel_rfl
theorem cl143_any (pl:Pl) (W:World):Calls Tryz.prog 143 #[.agg #[.slice pl.A pl.len pl.cap,.int .i64 pl.f,.int .i64 pl.o]] W (fun e w'=>e= .returned (.bool pl.A.isSome)/\Below W.heap.size W w'):=by
 go_enter Tryz.func143,Tryz.ntmps143;go_wp2_with fail
 go_ret;exact ⟨rfl,(Below.refl _ _).alloc (zB _) _⟩
section
variable {b:Nat} {w:World} {x:SR} {l:List Ob}
def fileN (nm:ByteArray):ByteArray:=nm++⟨#[46]⟩++⟨#[49]⟩
def freshN (nm:ByteArray):ByteArray:=nm++⟨#[46,110,101,119]⟩
theorem fileName_any (ps:Nat) (nm:ByteArray) (w:World) (hc:w.cell? ⟨ps,1,none⟩=some (.string nm)) (hs:nm.size<=1000):Calls Tryz.prog 101 #[vPtr ps,.int .i64 1] w (fun e w'=>e= .returned (.string (fileN nm))/\∃ q,w'=w.drewN q):=by
 have hit:Hid (∀ w,Calls Tryz.prog 155 #[.int .i64 1] w fun e w'=>e= .returned (.string ⟨#[49]⟩)/\w'=w):=fun w=>(Tryz.strconv_Itoa_small 1 (by omega) w).mono fun _ _ h=>⟨by rw [h.1,dec1],h.2⟩;have ha1:=fun W=>add_str nm ⟨#[46]⟩ W (by show nm.size+1<=_;omega);have hsz:(nm++(⟨#[46]⟩:ByteArray)).size<=1001:=by rw [ByteArray.size_append];show nm.size+1<=_;omega
 have ha2:=fun W=>add_str (nm++⟨#[46]⟩) ⟨#[49]⟩ W (by show _+1<=_;omega);go_enter Tryz.func101,Tryz.ntmps101;go_wp2_with fail
 go_quiet ((go_at_call 155;exact Calls.quiet_of_same (hit.out _)))
 go_wp2_with fail
 go_ret;exact ⟨rfl,_,rfl⟩
theorem fresh_any (ps:Nat) (nm:ByteArray) (w:World) (hc:w.cell? ⟨ps,1,none⟩=some (.string nm)) (hs:nm.size<=1000):Calls Tryz.prog 179 #[vPtr ps] w (fun e w'=>e= .returned (.string (freshN nm))/\w=w'):=by
 go_enter Tryz.func179,Tryz.ntmps179;go_wp2_with fail
 go_ret;exact ⟨rfl,rfl⟩
def CutPost (bs:List UInt8) (i:ID) (o:Nat) (w:World) (e:Ending) (w':World):Prop:=
 ∃ A c cs,e= .returned (.tuple #[.slice A cs.length c,.bool (cutOk bs i o)])/\(cutOk bs i o=true->cs=cutB bs i o)/\RS w' A cs/\cs.length<=bs.length/\Below w.heap.size w w'
theorem cut_any (A:Option Addr) (c:Nat) (bs:List UInt8) (i:ID) (o:Nat) (w:World) (h:RS w A bs) (hn:bs.length<=4194304) (hc:bs.length<=c) (ho:o<=4194304) (hi:1<=i.2) (hi2:i.2<=9223372036854775807):
 Calls Tryz.prog 102 #[.slice A bs.length c,.agg #[.int .u64 i.1,.int .i64 i.2],.int .i64 (o:Int)] w (CutPost bs i o w):=by
 obtain ⟨s,z⟩:=i;simp only at hi hi2;have H:=hid h;clear h;by_cases hz:(bs.length:Int)-((o:Int)+28)<z
 · have HC:Hid (cutOk bs (s,z) o=false):=by
    rw [Hid];unfold cutOk;rw [Bool.and_eq_false_iff];left
    simp only [decide_eq_false_iff_not];omega
   go_enter Tryz.func102,Tryz.ntmps102;go_wp2_with fail
   go_ret2;exact ⟨none,0,[],by rw [HC.out];rfl,(fun h=>by rw [HC.out] at h;cases h),⟨fun _=>rfl,(fun ad e=>by cases e)⟩,Nat.zero_le _,(Below.refl _ _).alloc (zB _) _⟩
 obtain ⟨zn,hzn⟩:∃ zn:Nat,z=(zn:Int):=⟨z.toNat,by omega⟩;obtain ⟨cs,HCS⟩:∃ cs,Hid ((bs.drop (o+28)).take zn=cs):=⟨_,rfl⟩
 have hcl:zn=cs.length:=by
  rw [<- HCS.out,List.length_take,List.length_drop];omega
 rw [hcl] at hzn
 have HCB:Hid (cutB bs (s,z) o=cs):=by
  rw [Hid, <- HCS.out];unfold cutB;simp only;rw [hzn, <- hcl];rfl
 have HOK:Hid (cutOk bs (s,z) o=decide (fpOf cs=(s,z))):=by
  rw [Hid];unfold cutOk;rw [HCB.out];have:decide ((s,z).2<=(bs.length:Int)-((o:Int)+28))=true:=by simp only [decide_eq_true_eq];omega
  rw [this,Bool.true_and]
 have hle:o+28+zn<=bs.length:=by omega
 cases A with
 | none=>exact absurd (H.out.1 rfl) (by omega)
 | some ad=>
  obtain ⟨g,og,rfl,_⟩:=H.out.2 ad rfl;have hrs:=H.out.sub (o+28) zn hle;rw [HCS.out] at hrs;have HRS:=hid hrs;clear hrs HCS;subst hzn;rw [hcl] at hle;clear hcl;have hlt:¬ (c:Int)=(o:Int)+28:=by omega
  have hcm:cs.length<=1099511627776:=by omega
  have hof:=fun (W:World) (hW:RS W (some ⟨g,og+(o+28),none⟩) cs)=>Of_any (some ⟨g,og+(o+28),none⟩) (c-(o+28)) cs W hW hcm;have HOF:=hid hof;clear hof;have HR1:Hid (RS (w.alloc (.cells #[.int .u64 s,.int .i64 (cs.length:Int)] 31)) (some ⟨g,og+(o+28),none⟩) cs):=HRS.out.on (bel1q _ _);have heq:=fun W=>eql31 (fpOf cs) (s,(cs.length:Int)) W;simp only at heq;have c0:(w.alloc (.cells #[.int .u64 s,.int .i64 (cs.length:Int)] 31)).cell? ⟨w.heap.size,0,none⟩=some (.int .u64 s):=(IsB.new w 31 _).cell 0;have c1:(w.alloc (.cells #[.int .u64 s,.int .i64 (cs.length:Int)] 31)).cell? ⟨w.heap.size,1,none⟩=some (.int .i64 (cs.length:Int)):=(IsB.new w 31 _).cell 1;have B0:=hid (bel1q w (.cells #[.int .u64 s,.int .i64 (cs.length:Int)] 31));have hsW:w.heap.size<(w.alloc (.cells #[.int .u64 s,.int .i64 (cs.length:Int)] 31)).heap.size:=by simp
  go_enter Tryz.func102,Tryz.ntmps102;go_wp2_with fail
  generalize w.alloc (.cells #[.int .u64 s,.int .i64 (cs.length:Int)] 31)=W at *; refine wp_region_ext (by kernel_rfl) (by kernel_rfl) ?_;repeat (go_big_quiet_step ((go_at_call 31;exact ext_call (HOF.out _ (HR1.out.on (wext_below _))))))
  refine wpQuiet_nil ?_;intro w1 hb1;have B1:Hid (Below w.heap.size w w1):=B0.out.trans (hb1.mono (by omega));have R1:Hid (RS w1 (some ⟨g,og+(o+28),none⟩) cs):=HR1.out.on hb1;clear hb1 heq c0 c1;go_wp2_with fail
  go_ret2;exact ⟨_,_,cs,by rw [HOK.out];rfl,fun _=>HCB.out.symm,R1.out,by omega,B1.out⟩
end
end
section
open Go.RowKit Go.MapKept Go.ChangeMaps
attribute [local go_sem] wext_cell
def readC (s:St) (nm:ByteArray) (i:ID):Pl->Option (List UInt8)
 | .pend _ bs=>some bs
 | .at o=>if readE s (fileN nm)=0/\cutOk (readB s (fileN nm)) i o=true then some (cutB (readB s (fileN nm)) i o) else none
def ReadCP (r:Option (List UInt8)) (w:World) (e:Ending) (w':World):Prop:=
 ∃ A c cs,e= .returned (.tuple #[.slice A cs.length c,.bool r.isSome])/\(∀ bs,r=some bs->cs=bs)/\RS w' A cs/\cs.length<=4194304/\Below w.heap.size w w'
theorem file_ok {nm:ByteArray} (h:nm.size<=1000):okS (fileN nm):=by
 unfold okS fileN maxLen;rw [ByteArray.size_append,ByteArray.size_append];show nm.size+1+1<=_;omega
theorem readB_len {s:St} (h:Ok s) (nm:ByteArray):(readB s nm).length<=4194304:=by
 unfold readB;split
 · cases hb:s.now nm with
   | none=>simp
   | some v=>exact h.now.1 nm v hb
 simp
theorem after_draws {W w5:World} {q:Nat} (h:w5=W.drew.drewN q):Below W.heap.size W w5:=by
 subst h;exact bdrewN (Below.refl W.heap.size W).drew q
section
variable {b:Nat} {w:World} {x:SR} {l:List Ob}
theorem read_any (h:Sto b w x l) (i:ID) (pl:Pl) (hm:(i,pl)∈x.C) (hi1:1<=i.2) (hi2:i.2<=9223372036854775807) (hnm:x.nm.size<=1000) (ho:∀ o,pl= .at o->o<=4194304) (hbs:∀ d bs,pl= .pend d bs->bs.length<=4194304):
 Calls Tryz.prog 85 #[vPtr x.ps,.agg #[.int .u64 i.1,.int .i64 i.2],.agg #[.slice pl.A pl.len pl.cap,.int .i64 pl.f,.int .i64 pl.o]] w (ReadCP (readC x.s x.nm i pl) w):=by
 cases pl with
 | pend d bs=>
  obtain ⟨hr,hp⟩:=h.spend hm;have HR:=hid hr;have HBS:=hid (hbs d bs rfl);obtain ⟨A,n,c⟩:=d;cases A with
  | none=>
   have h1:=hr.1;have h2:=hr.2.1;have h3:=hr.2.2.1 rfl;simp only at h1 h2 h3;omega
  | some ad=>
   have hln:bs.length=n:=hr.1;subst hln;clear h hr hm ho hbs;simp only [Pl.A,Pl.len,Pl.cap,Pl.f,Pl.o];go_enter Tryz.func85,Tryz.ntmps85;go_wp2_with fail
   go_ret2;refine ⟨some ad,c,bs,rfl,(fun bs' e=>by injection e),?_,HBS.out,?_⟩
   · exact (HR.out.rs.on (bel1q _ _)).on (bel1q _ _)
   exact ((bel1q _ _).alloc (by simp) _)
 | «at» o=>
  have k0:w.cell? ⟨x.ps,0,none⟩=some (vPtr x.p):=h.scell.cell 0;have k1:w.cell? ⟨x.ps,1,none⟩=some (.string x.nm):=h.scell.cell 1;have hps:=h.scell.lt;have HD:=hid h.sdv;have hle:=readB_len h.sdv.ok (fileN x.nm);have ho':=ho o rfl;clear h hm ho hbs;simp only [Pl.A,Pl.len,Pl.cap,Pl.f,Pl.o];have B0:Hid (Below w.heap.size w ((w.alloc (.cells #[.int .u64 i.1,.int .i64 i.2] 31)).alloc (.cells #[.slice none 0 0,.int .i64 1,.int .i64 (o:Int)] 138))):=(bel1q _ _).alloc (by simp) _;have IA:Hid (IsB ((w.alloc (.cells #[.int .u64 i.1,.int .i64 i.2] 31)).alloc (.cells #[.slice none 0 0,.int .i64 1,.int .i64 (o:Int)] 138)) w.heap.size 31 #[.int .u64 i.1,.int .i64 i.2]):=(IsB.new _ _ _).alloc _
  have IB:Hid (IsB ((w.alloc (.cells #[.int .u64 i.1,.int .i64 i.2] 31)).alloc (.cells #[.slice none 0 0,.int .i64 1,.int .i64 (o:Int)] 138)) (w.heap.size+1) 138 #[.slice none 0 0,.int .i64 1,.int .i64 (o:Int)]):=by
   have:=IsB.new (w.alloc (.cells #[.int .u64 i.1,.int .i64 i.2] 31)) 138 #[.slice none 0 0,.int .i64 1,.int .i64 (o:Int)];have e:(w.alloc (.cells #[.int .u64 i.1,.int .i64 i.2] 31)).heap.size=w.heap.size+1:=by simp
   rwa [e] at this
  go_enter Tryz.func85,Tryz.ntmps85;go_wp2_with fail
  generalize ((w.alloc (.cells #[.int .u64 i.1,.int .i64 i.2] 31)).alloc (.cells #[.slice none 0 0,.int .i64 1,.int .i64 (o:Int)] 138))=W at *; have HDW:Hid (DV W x.p x.r x.s):=HD.out.on B0.out;have hpsW:x.ps<W.heap.size:=Nat.lt_of_lt_of_le hps B0.out.size;have j0:W.cell? ⟨x.ps,0,none⟩=some (vPtr x.p):=(B0.out.cell (p:=⟨x.ps,0,none⟩) hps).trans k0;have j1:W.cell? ⟨x.ps,1,none⟩=some (.string x.nm):=(B0.out.cell (p:=⟨x.ps,1,none⟩) hps).trans k1;have j2:W.cell? ⟨w.heap.size+1,1,none⟩=some (.int .i64 1):=IB.out.cell 1;clear k0 k1;have j1d:W.drew.cell? ⟨x.ps,1,none⟩=some (.string x.nm):=j1;have HJ:=hid j1d;clear j1d j1;by_cases hE:readE x.s (fileN x.nm)=0
  · have HE:=hid hE;clear hE
    have hread:∀ W5,DV W5 x.p x.r x.s->Calls Tryz.prog 38 #[vPtr x.p,.string (fileN x.nm)] W5 (fun e w'=>∃ d,e= .returned (.tuple #[.slice d.A d.len d.cap,.int .i64 0])/\RB w' d (readB x.s (fileN x.nm))/\Below W5.heap.size W5 w'):=fun W5 hD5=>(Read_any x.p x.r x.s (fileN x.nm) W5 hD5 (file_ok hnm)).mono (by
     rintro e w1 ⟨d,rfl,hr,hd,hb⟩;rw [HE.out];exact ⟨d,rfl,hr,hb⟩)
    have HRD:=hid hread;clear hread;obtain ⟨bs,HBS⟩:∃ bs,Hid (readB x.s (fileN x.nm)=bs):=⟨_,rfl⟩;rw [HBS.out] at HRD hle
    have HRC:Hid (readC x.s x.nm i (.at o)=if cutOk bs i o=true then some (cutB bs i o) else none):=by
     rw [Hid];simp only [readC,HE.out,HBS.out,true_and]
    go_region_held (fun w'=>w'.cell? ⟨x.ps,0,none⟩=some (vPtr x.p)/\w'.cell? ⟨w.heap.size+1,1,none⟩=some (.int .i64 1))
     (first | go_keep | exact K5.out | exact K6.out)
     (first
       | (go_at_call 101;(with_reducible refine (fileName_any x.ps x.nm W.drew HJ.out hnm).mono ?_);rintro e w5 ⟨rfl,q5,hw5⟩;have B5:=hid (after_draws hw5);have D5:=hid (HDW.out.on B5.out);have K5:Hid (w5.cell? ⟨x.ps,0,none⟩=some (vPtr x.p)/\w5.cell? ⟨w.heap.size+1,1,none⟩=some (.int .i64 1)):=⟨(B5.out.cell (p:=⟨x.ps,0,none⟩) hpsW).trans j0,(IB.out.on B5.out).cell 1⟩;clear hw5)
       | (go_at_call 38;(with_reducible refine (HRD.out w5 D5.out).mono ?_);rintro e w1 ⟨⟨A,n,c⟩,rfl,hr,hb⟩;have HR:=hid hr;have HB:Hid (Below W.heap.size W w1):=B5.out.trans (hb.mono B5.out.size);have K6:Hid (w1.cell? ⟨x.ps,0,none⟩=some (vPtr x.p)/\w1.cell? ⟨w.heap.size+1,1,none⟩=some (.int .i64 1)):=⟨(HB.out.cell (p:=⟨x.ps,0,none⟩) hpsW).trans j0,(IB.out.on HB.out).cell 1⟩;clear hr hb))
    have IA1:=hid (IA.out.on HB.out);have IB1:=hid (IB.out.on HB.out);have q0:w1.cell? ⟨w.heap.size,0,none⟩=some (.int .u64 i.1):=IA1.out.cell 0;have q1:w1.cell? ⟨w.heap.size,1,none⟩=some (.int .i64 i.2):=IA1.out.cell 1;have q2:w1.cell? ⟨w.heap.size+1,2,none⟩=some (.int .i64 (o:Int)):=IB1.out.cell 2;go_wp2_with fail
    have hln:bs.length=n:=HR.out.1;have hcc:n<=c:=HR.out.2.1;subst hln;refine (cut_any A c bs i o w1 HR.out.rs hle hcc ho' hi1 hi2).mono ?_;rintro e w2 ⟨A2,c2,cs,rfl,h1,h2,hcl,h3⟩;have H1:=hid h1;have H2:=hid h2;have H3:=hid h3;clear h1 h2 h3 q0 q1 q2;go_wp2_with fail
    go_ret2;have hsz:=B0.out.size;have hsz1:=HB.out.size;refine ⟨A2,c2,cs,?_,fun bs' e=>?_,H2.out,?_,B0.out.trans ((HB.out.trans (H3.out.mono hsz1)).mono hsz)⟩
    · rw [HRC.out];cases hck:cutOk bs i o<;>rfl
    · rw [HRC.out] at e;cases hck:cutOk bs i o with
      | false=>rw [hck] at e;simp at e
      | true=>
       rw [hck] at e;simp at e;rw [H1.out hck,e]
    omega
  have HE:=hid hE;have hne:(readE x.s (fileN x.nm) !=0)=true:=by simpa using hE
  have HRC:Hid (readC x.s x.nm i (.at o)=none):=by
   rw [Hid];simp only [readC,hE,false_and,if_false]
  clear hE
  go_region_held (fun w'=>w'.cell? ⟨x.ps,0,none⟩=some (vPtr x.p)/\w'.cell? ⟨w.heap.size+1,1,none⟩=some (.int .i64 1))
   (first | go_keep | exact K5.out | exact K6.out)
   (first
     | (go_at_call 101;(with_reducible refine (fileName_any x.ps x.nm W.drew HJ.out hnm).mono ?_);rintro e w5 ⟨rfl,q5,hw5⟩;have B5:=hid (after_draws hw5);have D5:=hid (HDW.out.on B5.out);have K5:Hid (w5.cell? ⟨x.ps,0,none⟩=some (vPtr x.p)/\w5.cell? ⟨w.heap.size+1,1,none⟩=some (.int .i64 1)):=⟨(B5.out.cell (p:=⟨x.ps,0,none⟩) hpsW).trans j0,(IB.out.on B5.out).cell 1⟩;clear hw5)
     | (go_at_call 38;(with_reducible refine (Read_any x.p x.r x.s (fileN x.nm) w5 D5.out (file_ok hnm)).mono ?_);rintro e w1 ⟨⟨A,n,c⟩,rfl,hr,hd,hb⟩;unfold vB;have HB:Hid (Below W.heap.size W w1):=B5.out.trans (hb.mono B5.out.size);have K6:Hid (w1.cell? ⟨x.ps,0,none⟩=some (vPtr x.p)/\w1.cell? ⟨w.heap.size+1,1,none⟩=some (.int .i64 1)):=⟨(HB.out.cell (p:=⟨x.ps,0,none⟩) hpsW).trans j0,(IB.out.on HB.out).cell 1⟩;clear hr hd hb))
  go_wp2_with fail
  go_ret2;rw [HRC.out];exact ⟨none,0,[],rfl,(fun bs' e=>by cases e),⟨fun _=>rfl,(fun ad e=>by cases e)⟩,Nat.zero_le _,B0.out.trans (HB.out.mono B0.out.size)⟩
end
end
section
open Go.RowKit Go.MapKept Go.ChangeMaps
structure WF (x:SR):Prop where
 live:x.dead=false
 up:x.s.dn=false
 name:x.nm.size<=1000
 few:x.C.length<=4096
 ids:∀ c∈x.C,1<=c.1.2/\c.1.2<=4194304
 offs:∀ i o,(i,Pl.at o)∈x.C->o<=4194304
 pends:∀ i d bs,(i,Pl.pend d bs)∈x.C->bs.length<=8192
theorem look_at {w:World} {cm:Nat} {C:Chs} (h:MapIs okID vID vPl w cm C) {i:ID} (hi:okID i) {pl:Pl} (ha:asc C i=some pl) (W:World) (hW:Below w.heap.size w W):(Instr.lookup 128 (.map (some cm)) (.agg #[.int .u64 i.1,.int .i64 i.2]) true).run Tryz.prog W= .ok (.tuple #[.agg #[.slice pl.A pl.len pl.cap,.int .i64 pl.f,.int .i64 pl.o],.bool true]) W:=by
 have:=MapIs.look mkI Tryz.underlying128 (zero138 W) (h.on hW) hi true;rw [ha] at this;exact this
theorem look_no {w:World} {cm:Nat} {C:Chs} (h:MapIs okID vID vPl w cm C) {i:ID} (hi:okID i) (ha:asc C i=none) (W:World) (hW:Below w.heap.size w W):(Instr.lookup 128 (.map (some cm)) (.agg #[.int .u64 i.1,.int .i64 i.2]) true).run Tryz.prog W= .ok (.tuple #[.agg #[.slice none 0 0,.int .i64 0,.int .i64 0],.bool false]) W:=by
 have:=MapIs.look mkI Tryz.underlying128 (zero138 W) (h.on hW) hi true;rw [ha] at this;exact this
def GetP (E:Int) (bs:List UInt8) (w:World) (e:Ending) (w':World):Prop:=
 ∃ d,e= .returned (.tuple #[.slice d.A d.len d.cap,.int .i64 E])/\RB w' d bs/\(∀ g,blk d=some g->w.heap.size<=g)/\Below w.heap.size w w'
theorem rb_nil (w:World):RB w ⟨none,0,0⟩ []:=⟨rfl,zB _,fun _=>rfl,fun ad e=>by cases e⟩
section
variable {b:Nat} {w:World} {x:SR} {l:List Ob}
theorem ready_live (h:Sto b w x l) (hl:x.dead=false) (hd:x.s.dn=false):Calls Tryz.prog 84 #[vPtr x.ps] w (fun e w'=>e= .returned (.int .i64 0)/\w=w'):=by
 have k0:w.cell? ⟨x.ps,0,none⟩=some (vPtr x.p):=h.scell.cell 0;have k6:w.cell? ⟨x.ps,6,none⟩=some (.bool false):=by rw [<- hl];exact h.scell.cell 6
 have H:=hid h.sdv;have Hd:=hid hd;clear h hl hd;go_enter Tryz.func84,Tryz.ntmps84;go_wp2_with (go_at_call 82;refine (Down_any x.p x.r x.s _ H.out).mono ?_;rw [Hd.out];rintro e w1 ⟨rfl,rfl⟩)
 go_ret;exact ⟨rfl,rfl⟩
theorem Get_no (h:Sto b w x l) (hf:WF x) (i:ID) (hi:okID i) (ha:asc x.C i=none):Calls Tryz.prog 30 #[vPtr x.ps,.agg #[.int .u64 i.1,.int .i64 i.2]] w (GetP 333 [] w):=by
 have B0:=hid (bel1q w (.cells #[.int .u64 i.1,.int .i64 i.2] 31));have H0:=hid (h.on B0.out);have hps:=h.scell.lt;have hcx:(w.alloc (.cells #[.int .u64 i.1,.int .i64 i.2] 31)).cell? ⟨x.ps,2,none⟩=some (.map (some x.cm)):=H0.out.scell.cell 2;have hl1:=look_no h.sch hi ha (w.alloc (.cells #[.int .u64 i.1,.int .i64 i.2] 31)).drew ((Below.refl _ w).alloc (zB _) _).drew;have hl2:=look_no h.sch hi ha ((w.alloc (.cells #[.int .u64 i.1,.int .i64 i.2] 31)).alloc (.cells #[.slice none 0 0,.int .i64 0,.int .i64 0] 138)).drew (((Below.refl _ w).alloc (zB _) _).alloc (by simp) _).drew;have HRD:=hid (ready_live H0.out hf.live hf.up);clear h hf ha;go_enter Tryz.func30,Tryz.ntmps30;go_wp2_with (go_at_call 84;refine HRD.out.mono ?_;rintro e w1 ⟨rfl,rfl⟩)
 go_region
 all_goals (
  go_wp2_with fail
  go_ret2;exact ⟨⟨none,0,0⟩,rfl,rb_nil _,(fun g hg=>by cases hg),((B0.out.alloc (by simp) _).drew)⟩)
def getE (r:Option (List UInt8)):Int:=if r.isSome then 0 else 334
theorem Get_at (h:Sto b w x l) (hf:WF x) (i:ID) (hi:okID i) (pl:Pl) (ha:asc x.C i=some pl):Calls Tryz.prog 30 #[vPtr x.ps,.agg #[.int .u64 i.1,.int .i64 i.2]] w (GetP (getE (readC x.s x.nm i pl)) ((readC x.s x.nm i pl).getD []) w):=by
 have hmem:=mem_of_asc ha;have B0:=hid (bel1q w (.cells #[.int .u64 i.1,.int .i64 i.2] 31));have H0:=hid (h.on B0.out);have hps:=h.scell.lt;have hcx:(w.alloc (.cells #[.int .u64 i.1,.int .i64 i.2] 31)).cell? ⟨x.ps,2,none⟩=some (.map (some x.cm)):=H0.out.scell.cell 2;have hl1:=look_at h.sch hi ha (w.alloc (.cells #[.int .u64 i.1,.int .i64 i.2] 31)).drew ((Below.refl _ w).alloc (zB _) _).drew;have hl2:=look_at h.sch hi ha ((w.alloc (.cells #[.int .u64 i.1,.int .i64 i.2] 31)).alloc (.cells #[.slice none 0 0,.int .i64 0,.int .i64 0] 138)).drew (((Below.refl _ w).alloc (zB _) _).alloc (by simp) _).drew;have HRD:=hid (ready_live H0.out hf.live hf.up);have B1:Hid (Below w.heap.size w ((w.alloc (.cells #[.int .u64 i.1,.int .i64 i.2] 31)).alloc (.cells #[.slice pl.A pl.len pl.cap,.int .i64 pl.f,.int .i64 pl.o] 138)).drew):=(B0.out.alloc (by simp) _).drew;have HRE:=hid (read_any (h.on B1.out) i pl hmem (hf.ids _ hmem).1 (by have:=(hf.ids _ hmem).2;simp only at this;omega) hf.name (fun o e=>hf.offs i o (e ▸ hmem)) (fun d bs e=>by have:=hf.pends i d bs (e ▸ hmem);omega));obtain ⟨r,HR⟩:∃ r,Hid (readC x.s x.nm i pl=r):=⟨_,rfl⟩;rw [HR.out] at HRE |-; clear h hf ha hmem;go_enter Tryz.func30,Tryz.ntmps30;go_wp2_with (go_at_call 84;refine HRD.out.mono ?_;rintro e w1 ⟨rfl,rfl⟩)
 go_region
 all_goals (
  go_wp2_with fail
  refine HRE.out.mono ?_;rintro e w2 ⟨A,c,cs,rfl,h1,h2,h3,h4⟩;have H1:=hid h1;have H2:=hid h2;have B2:Hid (Below w.heap.size w w2):=B1.out.trans (h4.mono B1.out.size);clear h1 h2 h4 hl1 hl2;cases r with
  | none=>
   simp only [Option.isSome_none];go_wp2_with fail
   go_ret2;exact ⟨⟨none,0,0⟩,rfl,rb_nil _,(fun g hg=>by cases hg),B2.out⟩
  | some bs=>
   simp only [Option.isSome_some];obtain rfl:cs=bs:=H1.out bs rfl;go_wp2_with fail
   refine (CloneB_any A c cs w2 H2.out.sb (by omega)).mono ?_;rintro e w3 ⟨d,rfl,r1,r2,r3⟩;have R1:=hid r1;have R2:=hid r2;have R3:=hid r3;clear r1 r2 r3;unfold vB;go_wp2_with fail
   go_ret2;exact ⟨d,rfl,R1.out,fun g hg=>Nat.le_trans B2.out.size (R2.out g hg),B2.out.trans (R3.out.mono B2.out.size)⟩)
end
def ints (bs:List UInt8):List Int:=bs.map (fun b=>((b.toNat:Nat):Int))
theorem ints_len (bs:List UInt8):(ints bs).length=bs.length:=by simp [ints]
theorem bytes_ints (bs:List UInt8):Lib.bytesOf (ints bs)=bs:=by
 unfold Lib.bytesOf ints;rw [List.map_map];conv=>rhs;rw [<- List.map_id bs]
 apply List.map_congr_left
 intro b _;simp
theorem RS.bytesIn {w:World} {A:Option Addr} {bs:List UInt8} (h:RS w A bs):Lib.BytesIn w A bs.length (ints bs):=by
 intro hp;cases A with
 | none=>have:=h.1 rfl;omega
 | some ad=>
  obtain ⟨g,o,rfl,hc⟩:=h.2 ad rfl;refine ⟨g,o,rfl,fun i hi=>?_⟩;rw [hc i hi];unfold encU ints;rw [zA,zA,List.getElem?_map,List.getElem?_eq_getElem hi];rfl
theorem equal_rs {w:World} {A B:Option Addr} {a b:List UInt8} (ha:RS w A a) (hb:RS w B b) (c d:Nat):Calls Tryz.prog 86 #[.slice A a.length c,.slice B b.length d] w (fun e w'=>e= .returned (.bool (decide (a=b)))/\w=w'):=
 (Tryz.bytes_Equal_all A B a.length c b.length d (ints a) (ints b) w (ints_len a) (ints_len b) ha.bytesIn hb.bytesIn).mono (by
   rintro e w' ⟨rfl,rfl⟩;refine ⟨?_,rfl⟩;rw [bytes_ints,bytes_ints];congr 2
   by_cases h:a=b
   · simp [h]
   simp [h])
def PutSame (i:ID) (E:Int) (w:World) (e:Ending) (w':World):Prop:=e= .returned (.tuple #[.agg #[.int .u64 i.1,.int .i64 i.2],.int .i64 E])/\Below w.heap.size w w'
section
variable {b:Nat} {w:World} {x:SR} {l:List Ob}
theorem Put_there (h:Sto b w x l) (hf:WF x) (A:Option Addr) (c:Nat) (bs:List UInt8) (hs:RS w A bs) (h1:1<=bs.length) (h2:bs.length<=8192) (pl:Pl) (ha:asc x.C (fpOf bs)=some pl) (old:List UInt8) (hr:readC x.s x.nm (fpOf bs) pl=some old):
 Calls Tryz.prog 23 #[vPtr x.ps,.slice A bs.length c] w (PutSame (if old=bs then fpOf bs else (0,0)) (if old=bs then 0 else 331) w):=by
 have hmem:=mem_of_asc ha;have hi:okID (fpOf bs):=okID_fp bs (by omega);have B0:=hid (bel1q w (.cells #[.int .u64 0,.int .i64 0] 31));have H0:=hid (h.on B0.out);have S0:=hid (hs.on B0.out);have HRD:=hid (ready_live H0.out hf.live hf.up);have HOF:=hid (Of_any A c bs _ S0.out (by omega));have I0:Hid (IsB (w.alloc (.cells #[.int .u64 0,.int .i64 0] 31)) w.heap.size 31 #[.int .u64 0,.int .i64 0]):=IsB.new _ _ _;obtain ⟨i,HI⟩:∃ i,Hid (fpOf bs=i):=⟨_,rfl⟩;rw [HI.out] at HOF hmem hi ha hr |-; obtain ⟨ri,Hri⟩:∃ r:ID,Hid ((if old=bs then i else (0,0))=r):=⟨_,rfl⟩;obtain ⟨re,Hre⟩:∃ r:Int,Hid ((if old=bs then (0:Int) else 331)=r):=⟨_,rfl⟩;rw [Hri.out,Hre.out];have HF:=hid hf;have HA:=hid ha;have HR:=hid hr;clear h hf ha hr;go_enter Tryz.func23,Tryz.ntmps23;go_wp2_with (go_at_call 84;refine HRD.out.mono ?_;rintro e w1 ⟨rfl,rfl⟩)
 refine HOF.out.mono ?_;rintro e w2 ⟨rfl,hb⟩;have B2:Hid (Below w.heap.size w w2):=B0.out.trans (hb.mono B0.out.size);have I2:=hid (I0.out.on hb);have H2:=hid (H0.out.on hb);have S2:=hid (S0.out.on hb);have lt2:w.heap.size<w2.heap.size:=I2.out.lt;clear hb;have hps:x.ps<w2.heap.size:=H2.out.scell.lt;have BA:=hid (bel1q w2 (.cells #[.int .u64 i.1,.int .i64 i.2] 31));have hcx:(w2.alloc (.cells #[.int .u64 i.1,.int .i64 i.2] 31)).cell? ⟨x.ps,2,none⟩=some (.map (some x.cm)):=(H2.out.on BA.out).scell.cell 2;have hl1:=look_at H2.out.sch hi HA.out (w2.alloc (.cells #[.int .u64 i.1,.int .i64 i.2] 31)).drew ((Below.refl _ w2).alloc (zB _) _).drew;have hl2:=look_at H2.out.sch hi HA.out ((w2.alloc (.cells #[.int .u64 i.1,.int .i64 i.2] 31)).alloc (.cells #[.slice none 0 0,.int .i64 0,.int .i64 0] 138)).drew (((Below.refl _ w2).alloc (zB _) _).alloc (by simp) _).drew;have B3:Hid (Below w2.heap.size w2 ((w2.alloc (.cells #[.int .u64 i.1,.int .i64 i.2] 31)).alloc (.cells #[.slice pl.A pl.len pl.cap,.int .i64 pl.f,.int .i64 pl.o] 138)).drew):=(BA.out.alloc (by simp) _).drew;have hf:=HF.out;have HRE:=hid (read_any (H2.out.on B3.out) i pl hmem (hf.ids _ hmem).1 (by have:=(hf.ids _ hmem).2;simp only at this;omega) hf.name (fun o e=>hf.offs i o (e ▸ hmem)) (fun d bs e=>by have:=hf.pends i d bs (e ▸ hmem);omega));rw [HR.out] at HRE
 have J3:Hid (IsB ((w2.alloc (.cells #[.int .u64 i.1,.int .i64 i.2] 31)).alloc (.cells #[.slice pl.A pl.len pl.cap,.int .i64 pl.f,.int .i64 pl.o] 138)).drew w2.heap.size 31 #[.int .u64 i.1,.int .i64 i.2]):=(IsB.new _ _ _).on ((bel1q _ _).drew);clear hf;go_wp2_with fail
 go_region
 all_goals (
  go_wp2_with fail
  refine HRE.out.mono ?_;rintro e w3 ⟨A',c',cs,rfl,h1',h2',h3',h4'⟩;have K4:=hid (I2.out.on (B3.out.trans (h4'.mono B3.out.size)));have K7:=hid (J3.out.on h4');have B5:Hid (Below w.heap.size w w3):=B2.out.trans ((B3.out.trans (h4'.mono B3.out.size)).mono B2.out.size);have lt3:w2.heap.size<w3.heap.size:=K7.out.lt;have S3:=hid ((S2.out.on (B3.out)).on h4');obtain rfl:cs=old:=h1' old rfl;have HE:=hid (equal_rs h2' S3.out c' c);clear h1' h2' h4' hl1 hl2;have k40:=K4.out.cell 0;have k41:=K4.out.cell 1;have f40:=K4.out.frozen 0;have f41:=K4.out.frozen 1;have k70:=K7.out.cell 0;have k71:=K7.out.cell 1;by_cases he:cs=bs
  · rw [if_pos he] at Hri Hre;cases Hri.out
    cases Hre.out
    have Hd:Hid (decide (cs=bs)=true):=decide_eq_true he;rw [Hd.out] at HE;clear he;simp only [Option.isSome_some];go_wp2_with (go_at_call 86;refine HE.out.mono ?_;rintro e w4 ⟨rfl,rfl⟩)
    have IW:IsB ((w3.setCell ⟨w.heap.size,0,none⟩ (.int .u64 i.1)).setCell ⟨w.heap.size,1,none⟩ (.int .i64 i.2)) w.heap.size 31 #[.int .u64 i.1,.int .i64 i.2]:=(K4.out.set_ 0 _).set_ 1 _;have BW:Below w.heap.size w ((w3.setCell ⟨w.heap.size,0,none⟩ (.int .u64 i.1)).setCell ⟨w.heap.size,1,none⟩ (.int .i64 i.2)):=(B5.out.setCell (zB _) _).setCell (zB _) _;have c0:=IW.cell 0;have c1:=IW.cell 1;generalize ((w3.setCell ⟨w.heap.size,0,none⟩ (.int .u64 i.1)).setCell ⟨w.heap.size,1,none⟩ (.int .i64 i.2))=W at IW BW c0 c1 |-; refine bodyPost_ret (v:=.tuple #[.agg #[.int .u64 i.1,.int .i64 i.2],.int .i64 0]) ?_ rfl ⟨rfl,BW⟩;simp [results,Tryz.results23,go_sem,c0,c1]
  rw [if_neg he] at Hri Hre;cases Hri.out
  cases Hre.out
  have Hd:Hid (decide (cs=bs)=false):=decide_eq_false he;rw [Hd.out] at HE;clear he;simp only [Option.isSome_some];go_wp2_with (go_at_call 86;refine HE.out.mono ?_;rintro e w4 ⟨rfl,rfl⟩)
  have IW:IsB ((w3.setCell ⟨w.heap.size,0,none⟩ (.int .u64 0)).setCell ⟨w.heap.size,1,none⟩ (.int .i64 0)) w.heap.size 31 #[.int .u64 0,.int .i64 0]:=(K4.out.set_ 0 _).set_ 1 _;have BW:Below w.heap.size w ((w3.setCell ⟨w.heap.size,0,none⟩ (.int .u64 0)).setCell ⟨w.heap.size,1,none⟩ (.int .i64 0)):=(B5.out.setCell (zB _) _).setCell (zB _) _;have c0:=IW.cell 0;have c1:=IW.cell 1;generalize ((w3.setCell ⟨w.heap.size,0,none⟩ (.int .u64 0)).setCell ⟨w.heap.size,1,none⟩ (.int .i64 0))=W at IW BW c0 c1 |-; refine bodyPost_ret (v:=.tuple #[.agg #[.int .u64 0,.int .i64 0],.int .i64 331]) ?_ rfl ⟨rfl,BW⟩;simp [results,Tryz.results23,go_sem,c0,c1])
end
end
section
open Go.RowKit
section
variable {P:Program} {ops:Array Oper} {md:Region.Mode} {S:World->Prop} {Q:Exit->Act->World->Prop}
def headH (P:Program) (md:Region.Mode) (ops:Array Oper) (Q:Exit->Act->World->Prop) (S:World->Prop) (n:Nat) (L:Array Bool->Act->World->Prop):Nat->Array Bool->Act->World->Prop
 | 0,listed,a,w=>L listed a w
 | f+1,listed,a,w=>Region.ready md ops listed≠[]/\∀ i∈Region.ready md ops listed,i<n/\wpOp P ops Q i (fun a' w'=>S w'/\headH P md ops Q S n L f (listed.setIfInBounds i true) a' w') a w
theorem any_of_headH {n g:Nat} {L:Array Bool->Act->World->Prop} (hL:∀ listed a w,L listed a w->wpAny P md ops Q g listed a w):
 ∀ (f:Nat) (listed:Array Bool) (a:Act) (w:World),headH P md ops Q S n L f listed a w->wpAny P md ops Q (f+g) listed a w
 | 0,listed,a,w,h=>by rw [Nat.zero_add];exact hL _ _ _ h
 | f+1,listed,a,w,h=>by
  rw [show f+1+g=(f+g)+1 by omega];exact ⟨fun h0=>absurd h0 h.1,fun i hi=>wpOp_mono (fun a' w' h'=>any_of_headH hL f _ a' w' h'.2) (h.2 i hi).2⟩
theorem headH_first {n i:Nat} {oi:Oper} {v:Value} {L:Array Bool->Act->World->Prop} (hi:ops[i]? =some oi) (hsel:∀ (j:Nat) (o:Oper) cs b,ops[j]? =some o->o.op≠ .select cs b)
 (hQ:∀ c a d v w,Q (.panic c) (a.put d v) w->Q (.panic c) a w)
 (hs:Region.sinkB md ops n=true) (hc:Region.chainB md ops n=true) (hn:n<ops.size) (hin:i<n)
 (hdone:∀ listed a w,L listed a w->∀ j∈Region.ready md ops listed,n<=j):
 ∀ (f:Nat) (listed:Array Bool) (a:Act) (w:World),HeadInv md ops n listed->
  (∀ j oj,ops[j]? =some oj->j≠i->listed.getD j true=false->(∀ e∈oj.after,Region.binds md e=true->e.on≠i)->oi.apart ops oj=true)->
  i∈Region.ready md ops listed->YieldsIf P ops S oi v a->S w->
  headH P md ops Q S n L f (listed.setIfInBounds i true) (a.put oi.dst v) w->headH P md ops Q S n L (f+1) listed a w:=by
 have early:∀ (listed:Array Bool),HeadInv md ops n listed->i∈Region.ready md ops listed->∀ j∈Region.ready md ops listed,j<n:=by
  intro listed inv hr j hj;rcases Nat.lt_or_ge j n with h | h
  · exact h
  exact absurd hj (tail_waits hs hc hn inv _ i rfl hin (mem_ready.1 hr).1 j h)
 intro f;induction f with
 | zero=>
  intro listed a w inv _ hr hy hS H;refine ⟨fun h=>(by rw [h] at hr;cases hr),fun j hj=>⟨early listed inv hr j hj,?_⟩⟩;by_cases hji:j=i
  · subst hji;exact hy.wpOp hi hS ⟨hS,H⟩
  have h1:=hdone _ _ _ H j (ready_mono hj hji);have h2:=early listed inv hr j hj;omega
 | succ f ih=>
  intro listed a w inv hfree hr hy hS H;have hun:=(mem_ready.1 hr).1;refine ⟨fun h=>(by rw [h] at hr;cases hr),fun j hj=>⟨early listed inv hr j hj,?_⟩⟩;by_cases hji:j=i
  · subst hji;exact hy.wpOp hi hS ⟨hS,H⟩
  have hjn:=early listed inv hr j hj;have h1:=(H.2 j (ready_mono hj hji)).2;obtain ⟨hjun,oj,hoj,hall⟩:=mem_ready.1 hj
  have hnot:∀ e∈oj.after,Region.binds md e=true->e.on≠i:=fun e he hb heq=>by
   have h1:=hall e he hb;rw [heq,getD_both hun] at h1;cases h1
  have h2:=wpOp_putIf hoj (hfree j oj hoj hji hjun hnot) (fun cs b=>hsel i oi cs b hi) (fun cs b=>hsel j oj cs b hoj) (fun c a w h=>hQ c a _ _ w h) hy h1
  have hfree':∀ k ok,ops[k]? =some ok->k≠i->(listed.setIfInBounds j true).getD k true=false->
   (∀ e∈ok.after,Region.binds md e=true->e.on≠i)->oi.apart ops ok=true:=fun k ok hk hki hun hno=>by
   refine hfree k ok hk hki ?_ hno;by_cases hjk:j=k
   · subst hjk;exact hjun
   rw [getD_set_ne true hjk] at hun;exact hun
  refine wpOp_mono (fun a' w' h3=>⟨h3.2.1,ih (listed.setIfInBounds j true) a' w' (inv.set hj hjn) hfree' (ready_mono hr (Ne.symm hji)) h3.1 h3.2.1 ?_⟩) h2;rw [Array.setIfInBounds_comm _ _ hji];exact h3.2.2
def wpHeld (P:Program) (ops:Array Oper) (Q:Exit->Act->World->Prop) (S:World->Prop) (T:Act->World->Prop):List (Bool×Oper)->Act->World->Prop
 | (true,o)::fs,a,w=>∃ v,YieldsIf P ops S o v a/\wpHeld P ops Q S T fs (a.put o.dst v) w
 | (false,o)::fs,a,w=>if Region.wanted o (yielded ops a.tmps)=true then Oper.wp P o a w (fun a' w'=>S w'/\wpHeld P ops Q S T fs a' w') Q else S w/\wpHeld P ops Q S T fs (a.put o.dst undef) w
 | [],a,w=>T a w
theorem wpHeld_take {T:Act->World->Prop} {fs:List (Bool×Oper)} {o:Oper} {a:Act} {w:World} {v:Value} (h1:YieldsIf P ops S o v a) (h2:wpHeld P ops Q S T fs (a.put o.dst v) w):wpHeld P ops Q S T ((true,o)::fs) a w:=⟨v,h1,h2⟩
theorem wpHeld_run {T:Act->World->Prop} {fs:List (Bool×Oper)} {o:Oper} {a:Act} {w:World}
 (h:∀ K:Act->World->Prop,Shut (∀ a w,S w->wpHeld P ops Q S T fs a w->K a w)->if Region.wanted o (yielded ops a.tmps)=true then Oper.wp P o a w K Q else K (a.put o.dst undef) w):wpHeld P ops Q S T ((false,o)::fs) a w:=
 h _ (fun _ _ h1 h2=>⟨h1,h2⟩)
theorem wpHeld_nil {T:Act->World->Prop} {a:Act} {w:World} (h:T a w):wpHeld P ops Q S T [] a w:=by
 unfold wpHeld;exact h
instance:Inhabited Oper:=⟨{ dst:=none,op:=.move (.tmp 0),type:=0,pos:="",after:= #[],guard:=none }⟩
def picked (l:List Oper) (fs:List (Nat×Bool)):List (Bool×Oper):=fs.map (fun p=>(p.2,l.getD p.1 default))
def heldB (md:Region.Mode) (ops:Array Oper) (n g:Nat):List (Nat×Bool)->Array Bool->Bool
 | [],listed=>Region.seqB md ops g n listed
 | (k,true)::fs,listed=>decide (k<n)&&(Region.ready md ops listed).contains k&&Region.free md ops listed k&&heldB md ops n g fs (listed.setIfInBounds k true)
 | (k,false)::fs,listed=>decide (k<n)&&decide (Region.ready md ops listed=[k])&&heldB md ops n g fs (listed.setIfInBounds k true)
def heldTailB (md:Region.Mode) (ops:Array Oper) (fs:List (Nat×Bool)):Bool:=
 Region.noSelect ops&&decide (fs.length<ops.size)&&Region.sinkB md ops fs.length&&Region.chainB md ops fs.length&&heldB md ops fs.length (ops.size-fs.length) fs (Array.replicate ops.size false)
theorem headH_of_held {n g:Nat} {l:List Oper} {T:Act->World->Prop} (hl:ops=l.toArray) (hsel:Region.noSelect ops=true) (hQ:∀ c a d v w,Q (.panic c) (a.put d v) w->Q (.panic c) a w) (hs:Region.sinkB md ops n=true) (hc:Region.chainB md ops n=true) (hn:n<ops.size):
 ∀ (fs:List (Nat×Bool)) (listed:Array Bool) (a:Act) (w:World),HeadInv md ops n listed->S w->
 heldB md ops n g fs listed=true->wpHeld P ops Q S T (picked l fs) a w->
 headH P md ops Q S n (fun listed' a' w'=>Region.seqB md ops g n listed'=true/\T a' w') fs.length listed a w
 | [],listed,a,w,_,_,hB,h=>⟨by simpa [heldB] using hB,by simpa [picked,wpHeld] using h⟩
 | (k,true)::fs,listed,a,w,inv,hS,hB,h=>by
  simp only [heldB,Bool.and_eq_true,decide_eq_true_eq] at hB;obtain ⟨⟨⟨hkn,hr⟩,hf⟩,hB'⟩:=hB;have hkl:k<l.length:=by rw [hl] at hn;simp at hn;omega
  have h0:ops[k]? =some (l.getD k default):=by rw [hl];simp [zA,hkl]
  have hr':k∈Region.ready md ops listed:=by simpa using hr
  obtain ⟨v,hy,hK⟩:∃ v,YieldsIf P ops S (l.getD k default) v a/\wpHeld P ops Q S T (picked l fs) (a.put (l.getD k default).dst v) w:=h
  exact headH_first h0 (Region.noSelect_spec hsel) hQ hs hc hn hkn (fun listed' a' w' hL=>seqB_ready hL.1) fs.length listed a w inv (Region.free_spec h0 hf) hr' hy hS
   (headH_of_held hl hsel hQ hs hc hn fs _ _ w (inv.set hr' hkn) hS hB' hK)
 | (k,false)::fs,listed,a,w,inv,hS,hB,h=>by
  simp only [heldB,Bool.and_eq_true,decide_eq_true_eq] at hB;obtain ⟨⟨hkn,hr⟩,hB'⟩:=hB;have hkl:k<l.length:=by rw [hl] at hn;simp at hn;omega
  have h0:ops[k]? =some (l.getD k default):=by rw [hl];simp [zA,hkl]
  have hr':k∈Region.ready md ops listed:=by rw [hr];simp
  refine ⟨fun h1=>(by rw [hr] at h1;cases h1),fun i hi=>?_⟩;rw [hr] at hi;have hik:i=k:=by simpa using hi
  subst hik;refine ⟨hkn,?_⟩
  have hw:wpOp P ops Q i (fun a' w'=>S w'/\wpHeld P ops Q S T (picked l fs) a' w') a w:=by
   unfold wpOp;simp only [h0];have h2:if Region.wanted (l.getD i default) (yielded ops a.tmps)=true then Oper.wp P (l.getD i default) a w (fun a' w'=>S w'/\wpHeld P ops Q S T (picked l fs) a' w') Q else S w/\wpHeld P ops Q S T (picked l fs) (a.put (l.getD i default).dst undef) w:=h
   by_cases hwt:Region.wanted (l.getD i default) (yielded ops a.tmps)=true
   · rw [if_pos hwt] at h2 |-; exact .inl h2
   rw [if_neg hwt] at h2 |-; exact h2
  exact wpOp_mono (fun a' w' h'=>⟨h'.1,headH_of_held hl hsel hQ hs hc hn fs _ a' w' (inv.set hr' hkn) h'.1 hB' h'.2⟩) hw
theorem wp_region_held_tail {id:Nat} {a:Act} {w:World} {l:List Oper} (fs:List (Nat×Bool)) (S:World->Prop) (hm:P.follows .mixedOrders=true) (hQ:∀ c a d v w,Q (.panic c) (a.put d v) w->Q (.panic c) a w) (hB:heldTailB .any l.toArray fs=true) (hS:S w.drew)
 (h:wpHeld P l.toArray Q S (fun a' w'=>wpList P l.toArray Q (l.drop fs.length) a' w') (picked l fs) a w.drew):(Code.region id l.toArray true).wp P Q a w:=by
 simp only [heldTailB,Bool.and_eq_true,decide_eq_true_eq] at hB;obtain ⟨⟨⟨⟨hsel,hn⟩,hs⟩,hc⟩,hlex⟩:=hB;have hdl:(l.drop fs.length).length=l.toArray.size-fs.length:=by simp
 have inv0:HeadInv .any l.toArray fs.length (Array.replicate l.toArray.size false):=
  ⟨by simp,fun j oj _ hl=>(by rw [getD_replicate_false] at hl;cases hl),fun t _ ht=>getD_in (by simpa using ht) (getD_replicate_false _ _)⟩
 have H:=headH_of_held (md:=.any) (g:=l.toArray.size-fs.length) (l:=l) rfl hsel hQ hs hc hn fs _ a w.drew inv0 hS hlex h;refine wp_region_any hm ?_
 have:=any_of_headH (Q:=Q) (S:=S) (g:=l.toArray.size-fs.length) (fun listed a' w' hL=>by
  have:=wpAny_of_seq (md:=.any) (Q':=Q) (l.drop fs.length) fs.length listed a' w' (fun j=>by simp [List.getElem?_drop]) (by rw [hdl];exact hL.1) hL.2;rwa [hdl] at this) _ _ _ _ H
 rw [show fs.length+(l.toArray.size-fs.length)=l.toArray.size by omega] at this;exact this
end
theorem pk_:(∀ (l:List Oper) (fs:List (Nat×Bool)),picked l fs=fs.map (fun p=>(p.2,l.getD p.1 default)))∧(∀ (f:Nat×Bool→Bool×Oper) a l,(a::l).map f=f a::l.map f)∧(∀ f:Nat×Bool→Bool×Oper,[].map f=[])∧(∀ (a:Oper) l n d,(a::l).getD (n+1) d=l.getD n d)∧∀ (a:Oper) l d,(a::l).getD 0 d=a:=⟨fun _ _=>rfl,fun _ _ _=>rfl,fun _=>rfl,fun _ _ _ _=>rfl,fun _ _ _=>rfl⟩
theorem dz_:(∀ {α:Type} (a:α) l,(a::l).length=l.length+1)∧(∀ {α:Type},([]:List α).length=0)∧(∀ {α:Type} (a:α) l n,(a::l).drop (n+1)=l.drop n)∧∀ {α:Type} (l:List α),l.drop 0=l:=⟨fun _ _=>rfl,rfl,fun _ _ _=>rfl,fun _=>rfl⟩
end
section
open Go.RowKit Go.MapKept Go.ChangeMaps
theorem map_is {α β:Type} {ok:α->Prop} {kv:α->Value} {vv:β->Value} {w:World} {b:Nat} {L:List (α×β)} (h:MapIs ok kv vv w b L) {t:TypeId} {cs:Array Value}:¬ IsB w b t cs:=by
 obtain ⟨es,clock,hb,_⟩:=h;intro hi;unfold IsB at hi;rw [hb] at hi;cases hi
theorem RB.ne_mapM {α β:Type} {ok:α->Prop} {kv:α->Value} {vv:β->Value} {w:World} {b:Nat} {L:List (α×β)} (h:MapIs ok kv vv w b L) {d:BD} {bs:List UInt8} (hr:RB w d bs):blk d≠some b:=by
 intro e;obtain ⟨A,n,c⟩:=d;cases A with
 | none=>cases e
 | some ad=>
  obtain ⟨g,cur,rfl,hi,_⟩:=hr.2.2.2 ad rfl;have:g=b:=by simpa [blk] using e
  subst this;exact map_is h hi
theorem RS.set {w:World} {A:Option Addr} {bs:List UInt8} (h:RS w A bs) {g:Nat} {t:TypeId} {cs:Array Value} (hg:IsB w g t cs) (hn:∀ (j:Nat) (v:Value),cs[j]? =some v->∀ u:UInt8,v≠encU u) (k:Nat) (u:Value):RS (w.setCell ⟨g,k,none⟩ u) A bs:=by
 refine ⟨h.1,fun ad e=>?_⟩;obtain ⟨g',o,rfl,hc⟩:=h.2 ad e;refine ⟨g',o,rfl,fun j hj=>?_⟩;have h1:=hc j hj
 have hne:g'≠g:=by
  rintro rfl;rw [hg.cell] at h1;exact hn _ _ h1 _ rfl
 have h2:(w.setCell ⟨g,k,none⟩ u).heap[g']? =w.heap[g']? :=Below.heap_setCell w _ u g' hne;rw [<- h1];simp [World.cell?, h2]
theorem cells_no8 {x:SR}:∀ (j:Nat) (v:Value),x.cells[j]? =some v->∀ u:UInt8,v≠encU u:=by
 intro j v h u e;subst e;unfold encU at h;match j with
 | 0 | 1 | 2 | 3 | 4 | 5 | 6=>simp at h
 | j+7=>simp at h
theorem map_ne {α β:Type} {ok:α->Prop} {kv:α->Value} {vv:β->Value} {w:World} {b:Nat} {L:List (α×β)} (h:MapIs ok kv vv w b L) {g:Nat} {t:TypeId} {cs:Array Value} (hi:IsB w g t cs):some g≠some b:=fun e=>map_is h (by injection e with e;rw [<- e];exact hi)
theorem RB.gone {w w':World} {b:Nat} {d:BD} {bs:List UInt8} {C:Chs} (h:RB w d bs) (hm:MapIs okID vID vPl w b C) (hg:w.grownBy w' (some b)):RB w' d bs:=h.grown hg (RB.ne_mapM hm h)
end
end Go.Proofs.YteabgcollokgjaaGreatDoor
