/- Contracts of the walk, part 28. -/
import Derived.Deep.QuietTactic
import Derived.BigQuiet
import Derived.Test.YtmiknfneeipkeaaGreatS27
import Derived.Test.YtmiknfneeipkeaaGreatS19
import Derived.Test.YtmiknfneeipkeaaGreatS23
import Derived.Test.YtmiknfneeipkeaaGreatS26
import Derived.Test.YtmiknfneeipkeaaGreatS24
import Derived.Test.YtmiknfneeipkeaaGreatS25
import Derived.Test.YtmiknfneeipkeaaGreatS16
open Go.Lib (hid)
namespace Go.Proofs.YtmiknfneeipkeaaGreat
open Go.RowKit Go.MapKept Go.ChangeMaps Go.Shelf Go.Sort
attribute [local go_sem] wext_cell
abbrev rdrOb (g:Nat) (A:Option Addr) (n c k:Nat) (X Y:Value):Ob:=cellOb g 231 #[.slice A n c,.int .i64 (k:Int),X,Y]
theorem RS.drewN {w:World} {A:Option Addr} {bs:List UInt8} (h:RS w A bs) (m:Nat):RS (w.drewN m) A bs:=h
section
variable {b:Nat} {w0 w w':World} {l:List Ob}
theorem SW.drewN (h:SW b w0 l w) (m:Nat):SW b w0 l (w.drewN m):=h.on (bdrewN (Below.refl _ _) m)
abbrev PUintP (g:Nat) (A:Option Addr) (c k:Nat) (bs:List UInt8) (X Y:Value) (b:Nat) (w0:World) (l:List Ob) (e:Ending) (w':World):Prop:=
 (∃ v n,takeU 0 0 (bs.drop k)=some (v,n)/\k+n<=bs.length/\e= .returned (.tuple #[.int .u64 (v:Int),.bool true])/\SW b w0 (rdrOb g A bs.length c (k+n) X Y::l) w')∨
 (takeU 0 0 (bs.drop k)=none/\e= .returned (.tuple #[.int .u64 0,.bool false])/\SW b w0 (rdrOb g A bs.length c k X Y::l) w')
set_option maxRecDepth 100000 in
set_option maxHeartbeats 8000000 in
theorem pUint_any {g:Nat} {A:Option Addr} {c k:Nat} {bs:List UInt8} {X Y:Value} (h:SW b w0 (rdrOb g A bs.length c k X Y::l) w) (hr:rsOb A bs∈l) (hv:(A=none->c=0)/\bs.length<=c/\bs.length<=9223372036854775807) (hk:k<=bs.length):
 Calls Tryz.prog 198 #[vPtr g] w (PUintP g A c k bs X Y b w0 l):=by
 have S0:=hid h;have hR:RS w A bs:=h.1.holds (rsOb A bs) (.tail _ hr);have HU:=hid (fun m=>codecUintQ_any A c bs k (w.drewN m) (hR.drewN m) hv.1 hv.2.1 hv.2.2 hk);have a0:=(h.cell 0 rfl).cell 0;have a1:=(h.cell 0 rfl).cell 1;have az:=fun o=>(h.cell 0 rfl).frozen o;have HK:=hid hk;clear h hR hv hk;cases ht:takeU 0 0 (bs.drop k) with
 | none=>
  have HC:Hid (∀ m,Calls Tryz.prog 193 #[.slice A bs.length c,.int .i64 (k:Int)] (w.drewN m) (fun e w'=>e= .returned (.tuple #[.int .u64 0,.int .i64 0,.int .i64 (takeE 0 (bs.drop k))])/\w'=w.drewN m)):=fun m=>(HU.out m).mono fun e w' h=>by
   obtain ⟨rfl,⟨v',n',h1,_⟩ | ⟨h1,rfl⟩⟩:=h
   · rw [ht] at h1;cases h1
   exact ⟨rfl,rfl⟩
  have hq:(takeE 0 (bs.drop k) !=0)=true:=by rw [bne_iff_ne];exact takeE_ne _ _
  obtain ⟨q,HQ⟩:∃ x,Hid (takeE 0 (bs.drop k)=x):=⟨_,rfl⟩;rw [HQ.out] at HC hq;have HT:=hid ht;clear HU ht;go_enter Tryz.func198,Tryz.ntmps198;go_wp2_with fail
  go_quiet ((go_at_call 193;exact Calls.quiet_of_same (HC.out _)))
  go_wp2_with fail
  have S1:=hid (S0.out.drewN nq);go_ret2;exact .inr ⟨HT.out,rfl,S1.out⟩
 | some p=> 
  obtain ⟨v,n⟩:=p
  have HC:Hid (∀ m,Calls Tryz.prog 193 #[.slice A bs.length c,.int .i64 (k:Int)] (w.drewN m) (fun e w'=>e= .returned (.tuple #[.int .u64 (v:Int),.int .i64 ((k+n:Nat):Int),.int .i64 0])/\w'=w.drewN m)):=fun m=>(HU.out m).mono fun e w' h=>by
   obtain ⟨rfl,⟨v',n',h1,rfl⟩ | ⟨h1,rfl⟩⟩:=h
   · rw [ht] at h1;injection h1 with h1;injection h1 with h1 h2;subst h1 h2;exact ⟨rfl,rfl⟩
   rw [ht] at h1;cases h1
  have HT:=hid ht;clear HU ht;go_enter Tryz.func198,Tryz.ntmps198;go_wp2_with fail
  go_quiet ((go_at_call 193;exact Calls.quiet_of_same (HC.out _)))
  have hkn:k+n<=bs.length:=by
   have h1:=takeU_le _ _ _ _ _ HT.out;rw [List.length_drop] at h1;have:=HK.out;omega
  go_wp2_with fail
  have S1:=hid ((S0.out.drewN nq).setAt 0 rfl 1 (.int .i64 ((k:Int)+n)));go_ret2;exact .inl ⟨v,n,HT.out,hkn,rfl,by have e:=S1.out;rw [<- Int.natCast_add] at e;rw [<- Int.natCast_add];exact e⟩
abbrev PMarkP (g:Nat) (A:Option Addr) (c k:Nat) (bs:List UInt8) (X Y:Value) (b:Nat) (w0:World) (l:List Ob) (e:Ending) (w':World):Prop:=
 (k<bs.length/\e= .returned (.tuple #[.int .u8 ((bs.getD k 0).toNat:Int),.bool true])/\SW b w0 (rdrOb g A bs.length c (k+1) X Y::l) w')∨
 (k=bs.length/\e= .returned (.tuple #[.int .u8 0,.bool false])/\SW b w0 (rdrOb g A bs.length c k X Y::l) w')
set_option maxRecDepth 100000 in
set_option maxHeartbeats 8000000 in
theorem pMark_any {g:Nat} {A:Option Addr} {c k:Nat} {bs:List UInt8} {X Y:Value} (h:SW b w0 (rdrOb g A bs.length c k X Y::l) w) (hr:rsOb A bs∈l) (hv:(A=none->c=0)/\bs.length<=c/\bs.length<=9223372036854775807) (hk:k<=bs.length):
 Calls Tryz.prog 196 #[vPtr g] w (PMarkP g A c k bs X Y b w0 l):=by
 have S0:=hid h;have HR:=hid hr;have a0:=(h.cell 0 rfl).cell 0;have a1:=(h.cell 0 rfl).cell 1;have az:=fun o=>(h.cell 0 rfl).frozen o;clear h;obtain ⟨hv1,hv2,hv3⟩:=hv;by_cases hp:k<bs.length
 · have hge:decide ((bs.length:Int)<=(k:Int))=false:=decide_eq_false (by omega);have hge2:decide (bs.length<=k)=false:=decide_eq_false (by omega);go_enter Tryz.func196,Tryz.ntmps196;go_wp2_with fail
   go_quiet (fail)
   go_upto_region 4 with fail
   have S1:=hid ((S0.out.drewN nq).setAt 0 rfl 1 (.int .i64 ((k:Int)+1)));obtain ⟨w2,HW⟩:∃ W,Hid ((w.drewN nq).setCell ⟨g,1,none⟩ (.int .i64 ((k:Int)+1))=W):=⟨_,rfl⟩;rw [HW.out] at S1 |-; clear HW S0 a0 a1 az;have hR:RS w2 A bs:=S1.out.1.holds (rsOb A bs) (.tail _ HR.out);cases A with
   | none=>exact absurd (hR.1 rfl) (by omega)
   | some ad=>
    obtain ⟨g2,o,rfl,hcell⟩:=hR.2 ad rfl (by omega);have hcl:=hcell k hp;obtain ⟨x,HX⟩:∃ x,Hid (bs.getD k 0=x):=⟨_,rfl⟩;rw [HX.out] at hcl;have a0:=(S1.out.cell 0 rfl).cell 0;have a1:=(S1.out.cell 0 rfl).cell 1;clear hcell hR;go_quiet (fail)
    go_wp2_with fail
    have S2:=hid (S1.out.drewN nq);go_ret2;exact .inl ⟨hp,by rw [HX.out];rfl,by have e:=S2.out;exact e⟩
 obtain rfl:k=bs.length:=by omega
 go_enter Tryz.func196,Tryz.ntmps196;go_wp2_with fail
 go_quiet (fail)
 go_wp2_with fail
 have S1:=hid (S0.out.drewN nq);go_ret2;exact .inr ⟨rfl,rfl,S1.out⟩
abbrev PBytesP (g:Nat) (A:Option Addr) (c k n:Nat) (bs:List UInt8) (X Y:Value) (b:Nat) (w0:World) (l:List Ob) (e:Ending) (w':World):Prop:=
 (∃ d,k+n<=bs.length/\e= .returned (.tuple #[vB d,.bool true])/\SW b w0 (bufOb d ((bs.drop k).take n)::rdrOb g A bs.length c (k+n) X Y::l) w')∨
 (bs.length<k+n/\e= .returned (.tuple #[.slice none 0 0,.bool false])/\SW b w0 (rdrOb g A bs.length c k X Y::l) w')
set_option maxRecDepth 100000 in
set_option maxHeartbeats 8000000 in
theorem pBytes_any {g:Nat} {A:Option Addr} {c k n:Nat} {bs:List UInt8} {X Y:Value} (h:SW b w0 (rdrOb g A bs.length c k X Y::l) w) (hr:rsOb A bs∈l) (hv:(A=none->c=0)/\bs.length<=c/\bs.length<=9223372036854775807) (hk:k<=bs.length) (hn0:0<n) (hn:n<=8192):
 Calls Tryz.prog 223 #[vPtr g,.int .i64 (n:Int)] w (PBytesP g A c k n bs X Y b w0 l):=by
 have S0:=hid h;have HR:=hid hr;have a0:=(h.cell 0 rfl).cell 0;have a1:=(h.cell 0 rfl).cell 1;have az:=fun o=>(h.cell 0 rfl).frozen o;have HVV:=hid hv;clear h;obtain ⟨hv1,hv2,hv3⟩:=hv;by_cases hp:bs.length<k+n
 · have hge:decide ((bs.length:Int)-(k:Int)<(n:Int))=true:=decide_eq_true (by omega);go_enter Tryz.func223,Tryz.ntmps223;go_wp2_with fail
   go_quiet (fail)
   go_wp2_with fail
   have S1:=hid (S0.out.drewN nq);go_ret2;exact .inr ⟨hp,rfl,S1.out⟩
 have hge:decide ((bs.length:Int)-(k:Int)<(n:Int))=false:=decide_eq_false (by omega);go_enter Tryz.func223,Tryz.ntmps223;go_wp2_with fail
 go_quiet (fail)
 go_upto_region 4 with fail
 have S1:=hid ((S0.out.drewN nq).setAt 0 rfl 1 (.int .i64 ((k:Int)+n)));obtain ⟨w2,HW⟩:∃ W,Hid ((w.drewN nq).setCell ⟨g,1,none⟩ (.int .i64 ((k:Int)+n))=W):=⟨_,rfl⟩;rw [HW.out] at S1 |-; clear HW S0 a0 a1 az;have hR:=S1.out.view (.tail _ HR.out) HVV.out;have hT:=(hR.drop k hk).take n (by rw [List.length_drop];omega);cases A with
 | none=>exact absurd (hR.1.1 rfl) (by omega)
 | some ad=>
  obtain ⟨g2,o,rfl,_⟩:=hR.1.2 ad rfl (by omega);have HTL:Hid (((bs.drop k).take n).length=n):=by rw [Hid,List.length_take,List.length_drop];omega
  have HC:=hid (fun q=>CloneB_any _ (c-k) _ (w2.drewN q) ((hT.1.drewN q).sb) (by rw [HTL.out];omega));rw [HTL.out] at HC;have a0:=(S1.out.cell 0 rfl).cell 0;have a1:=(S1.out.cell 0 rfl).cell 1;clear hR hT;refine wp_region_draw_tail 14 (by kernel_rfl) (by kernel_rfl) ?_;simp only [List.take_succ_cons,List.take_zero,List.drop_succ_cons,List.drop_zero];repeat (go_big_quiet_step (fail))
  refine wpQuiet_nil ?_;intro q;have hkc:((k:Int)+n)-n=k:=by omega
  have hsub:k+n-k=n:=by omega
  have hcn:¬ c=k:=by omega
  have HCC:=hid (HC.out q);rw [cutA,if_neg hcn] at HCC;simp only [Option.map_some] at HCC;clear HC;go_wp2_with (go_at_call 68;(with_reducible refine HCC.out.mono ?_);refine halt_ ?_)
  rintro e w5 ⟨d,rfl,hrb,hfr,hb5⟩
  have S9:Hid (SW b w0 (bufOb d ((bs.drop k).take n)::rdrOb g (some ⟨g2,o,none⟩) bs.length c (k+n) X Y::l) w5):=by
   have h1:=(S1.out.drewN q).newBuT hb5 hrb hfr;have e:=h1;rw [<- Int.natCast_add] at e;exact e
  clear hrb hfr hb5 HCC;go_wp2_with fail
  go_ret2;exact .inl ⟨d,by omega,rfl,S9.out⟩
end
end Go.Proofs.YtmiknfneeipkeaaGreat
namespace Go.Proofs.YtmiknfneeipkeaaGreat
open Go.RowKit Go.MapKept Go.ChangeMaps Go.Shelf Go.Sort
attribute [local go_sem] wext_cell
section
variable {b:Nat} {w0 w w':World} {l:List Ob}
theorem same_at {T U:List CH} (h1:T.map (·.1)=U.map (·.1)) (h2:T.map (·.2.bs)=U.map (·.2.bs)) {k:Nat} (hk:k<T.length) {i j:ID} {e f:BS} (he:T.getD k ch0=(i,e)) (hf:U.getD k ch0=(j,f)):i=j/\e.bs=f.bs:=by
 have hl:T.length=U.length:=by simpa using congrArg List.length h1
 have g1:=congrArg (fun x=>x[k]?) h1;have g2:=congrArg (fun x=>x[k]?) h2;have hk':k<U.length:=by omega
 simp only [List.getElem?_map,List.getElem?_eq_getElem hk,List.getElem?_eq_getElem hk',Option.map_some,Option.some.injEq] at g1 g2;have e1:T[k]=(i,e):=by rw [<- he,List.getD_eq_getElem?_getD,List.getElem?_eq_getElem hk];rfl
 have e2:U[k]=(j,f):=by rw [<- hf,List.getD_eq_getElem?_getD,List.getElem?_eq_getElem hk'];rfl
 rw [e1,e2] at g1 g2;exact ⟨g1,g2⟩
set_option maxRecDepth 100000 in
set_option maxHeartbeats 8000000 in
theorem rSameC_any (h:SW b w0 l w) {A B:Option Addr} {T U:List CH} (hT:cxOb A T∈l) (hU:cxOb B U∈l) (h1:T.map (·.1)=U.map (·.1)) (h2:T.map (·.2.bs)=U.map (·.2.bs)) (hn:T.length<=9223372036854775807) (c d:Nat):
 Calls Tryz.prog 25 #[.slice A T.length c,.slice B U.length d] w (fun e w'=>e= .returned (.bool true)/\SW b w0 l w'):=by
 have HT:=hid hT;have HU:=hid hU;have S0:=hid h;have H1:=hid h1;have H2:=hid h2;have hl:U.length=T.length:=by simpa using (congrArg List.length h1).symm
 rw [hl];have HL:=hid hl;clear h hT hU h1 h2 hl;go_enter Tryz.func25,Tryz.ntmps25;go_wp2_with fail
 go_loopw [5] (fun s5 wr=>∃ k:Nat,k<=T.length/\s5= .int .i64 (k:Int)/\SW b w0 l wr) (fun s5 _=>T.length-(intOf s5).toNat)
 case atStart=>exact ⟨0,Nat.zero_le _,rfl,S0.out⟩
 obtain ⟨k,hk,rfl,hs⟩:=hrel;have S1:=hid hs;clear hs S0;by_cases hlt:k<T.length
 · obtain ⟨⟨⟨i1,i2⟩,e⟩,HE⟩:∃ x,Hid (T.getD k ch0=x):=⟨_,rfl⟩;obtain ⟨⟨⟨j1,j2⟩,f⟩,HF⟩:∃ x,Hid (U.getD k ch0=x):=⟨_,rfl⟩;have hltU:k<U.length:=by have:=HL.out;omega
   obtain ⟨hij,hbs⟩:=same_at H1.out H2.out hlt HE.out HF.out;injection hij with e1 e2;subst e1 e2;obtain ⟨g,o,rfl,hg,p0,p1,p2,hb1⟩:=cx_at (S1.out.1.holds _ HT.out) hlt HE.out;obtain ⟨g',o',rfl,hg',q0,q1,q2,hb2⟩:=cx_at (S1.out.1.holds _ HU.out) hltU HF.out;simp only at p0 p1 p2 q0 q1 q2;have HBS:=hid hbs;have v1:∀ n,(convert 40 9 (.slice e.d.A e.bs.length e.d.cap)).run Tryz.prog (wr.drewN n)= .ok (.string ⟨e.bs.toArray⟩) (wr.drewN n):=fun n=>conv_str (w:=wr.drewN n) (RS.sb (show RS (wr.drewN n) e.d.A e.bs from hb1.1.on ⟨rfl,rfl,rfl,Nat.le_refl _,fun _ _=>rfl⟩)) _ _ rfl
   have v2:∀ n,(convert 40 9 (.slice f.d.A f.bs.length f.d.cap)).run Tryz.prog (wr.drewN n)= .ok (.string ⟨e.bs.toArray⟩) (wr.drewN n):=fun n=>by
    rw [HBS.out];exact conv_str (w:=wr.drewN n) (RS.sb (show RS (wr.drewN n) f.d.A f.bs from hb2.1.on ⟨rfl,rfl,rfl,Nat.le_refl _,fun _ _=>rfl⟩)) _ _ rfl
   clear hbs hb1 hb2;go_wp2_with fail
   go_quiet (fail)
   clear v1 v2 p0 p1 p2 q0 q1 q2;go_wp2_with fail
   go_roundw
   case rel=>exact ⟨k+1,by omega,by go_num,by first | exact S1.out.drewN _ | exact S1.out.on (by first | exact bdrewN (Below.refl _ _) _ | skip)⟩
   simp [intOf];omega
 obtain rfl:k=T.length:=by omega
 go_wp2_with fail
 go_ret;exact ⟨rfl,S1.out⟩
end
end Go.Proofs.YtmiknfneeipkeaaGreat
namespace Go.Proofs.YtmiknfneeipkeaaGreat
open Go.RowKit
attribute [local go_sem] wext_cell
theorem take_all:∀ (bs:List UInt8) (i v:Nat),(∀ x∈bs,128<=x.toNat)->takeU i v bs=none:=by
 intro bs;induction bs with
 | nil=>intro i v _;rw [takeU]
 | cons c r ih=>
  intro i v h;have h1:=h c (.head _);rw [takeU,if_pos h1];split
  · rfl
  exact ih _ _ (fun x hx=>h x (.tail _ hx))
abbrev OpnP (bs:List UInt8) (w:World) (e:Ending) (w':World):Prop:=
 w'=w/\∃ v:Bool,e= .returned (.bool v)/\(v=true->∀ x∈bs,128<=x.toNat)/\(bs=[]->v=true)
set_option maxRecDepth 100000 in
set_option maxHeartbeats 4000000 in
theorem rOpn_any (A:Option Addr) (c:Nat) (bs:List UInt8) (w:World) (h:Vw w A c bs):Calls Tryz.prog 152 #[.slice A bs.length c] w (OpnP bs w):=by
 have H:=hid h;have hln:=h.2.2.2;clear h;go_enter Tryz.func152,Tryz.ntmps152;go_wp2_with fail
 go_loop [7] (fun s7=>∃ i:Nat,i<=bs.length/\s7= .int .i64 (i:Int)/\Hid (∀ x∈bs.take i,128<=x.toNat)) (fun s7=>bs.length-(intOf s7).toNat)
 case atStart=>exact ⟨0,Nat.zero_le _,rfl,fun x hx=>by simp at hx⟩
 obtain ⟨i,hi,rfl,HA⟩:=hrel;by_cases hlt:i<bs.length
 · cases A with
   | none=>exact absurd (H.out.1.1 rfl) (by omega)
   | some ad=>
    obtain ⟨g,o,rfl,hcell⟩:=H.out.1.2 ad rfl (by omega);obtain ⟨x,HX⟩:∃ x,Hid (bs.getD i 0=x):=⟨_,rfl⟩;have hx:=x.toNat_lt
    have hcl:w.cell? ⟨g,o+i,none⟩=some (.int .u8 ((x.toNat:Nat):Int)):=by
     have:=hcell i hlt;rw [HX.out] at this;exact this
    have HTK:Hid (bs.take (i+1)=bs.take i++[x]):=by rw [Hid,take_snocU _ _ hlt,HX.out]
    clear hcell;obtain ⟨y,HY⟩:∃ y,Hid (x.toNat=y):=⟨_,rfl⟩;rw [HY.out] at hcl hx;by_cases h128:y<128
    · have hd:decide ((y:Int)<128)=true:=decide_eq_true (by omega);go_wp2_with fail
      go_ret;exact ⟨rfl,false,rfl,(fun e=>by cases e),(fun e=>by rw [e] at hlt;exact absurd hlt (Nat.not_lt_zero _))⟩
    have hd:decide ((y:Int)<128)=false:=decide_eq_false (by omega);go_wp2_with fail
    go_round
    case rel=>exact ⟨i+1,by omega,by go_num,(fun z hz=>by
     rw [HTK.out] at hz;rcases List.mem_append.1 hz with hz | hz
     · exact HA.out z hz
     rw [List.mem_singleton.1 hz,HY.out];omega)⟩
    simp [intOf];omega
 obtain rfl:i=bs.length:=by omega
 rw [List.take_length] at HA;obtain ⟨v,hv⟩:∃ v,decide ((bs.length:Int)<10)=v:=⟨_,rfl⟩;have HNIL:Hid (bs=[]->v=true):=fun e=>by rw [<- hv,e];rfl
 have hv2:decide (bs.length<10)=v:=by rw [<- hv];exact decide_eq_decide.2 (by omega)
 go_wp2_with fail
 go_ret;exact ⟨rfl,v,by simp [hv2],fun _=>HA.out,HNIL.out⟩
theorem rTake_or (v i y P:Nat) (hv:v<128^i) (hi:i<=9) (h9:i=9->y<=1) (hP:128^i=P):IntKind.u64.wrap ((v:Int)+IntKind.u64.wrap ((y:Int) % 128*(P:Int)))=((v+y % 128*128^i:Nat):Int):=by
 subst hP;obtain ⟨h1,h2,_⟩:=or_add v i (y % 128) hv hi (Nat.mod_lt _ (by decide)) (fun e=>by have:=h9 e;omega);have e1:(y:Int) % 128*((128^i:Nat):Int)=((y % 128*128^i:Nat):Int):=by push_cast;rfl
 have e2:IntKind.u64.wrap ((y % 128*128^i:Nat):Int)=((y % 128*128^i:Nat):Int):=by rw [IntKind.wrap_u64];omega
 have e3:IntKind.u64.wrap ((v:Int)+((y % 128*128^i:Nat):Int))=((v+y % 128*128^i:Nat):Int):=by rw [IntKind.wrap_u64];omega
 rw [e1,e2,e3]
theorem rTake_up (i P:Nat) (hi:i<=8) (hP:128^i=P):IntKind.u64.wrap ((P:Int)*128)=((128^(i+1):Nat):Int):=by
 subst hP;have h2:(128:Nat)^i<=128^8:=Nat.pow_le_pow_right (by omega) (by omega);have h3:(128:Nat)^8=72057594037927936:=by decide
 have e:((128^i:Nat):Int)*128=((128^(i+1):Nat):Int):=by rw [Nat.pow_succ];push_cast;rfl
 rw [e,IntKind.wrap_u64,Nat.pow_succ];omega
set_option maxRecDepth 100000 in
set_option maxHeartbeats 4000000 in
theorem rTake_any (A:Option Addr) (c:Nat) (bs:List UInt8) (k:Nat) (w:World) (h:Vw w A c bs) (hk:k<=bs.length):
 Calls Tryz.prog 116 #[.slice A bs.length c,.int .i64 (k:Int)] w (UintP bs k w):=by
 have H:=hid h;have HO:=hid (rOpn_any _ _ _ w (h.drop k hk));obtain ⟨r,HR⟩:∃ x,Hid (bs.drop k=x):=⟨_,rfl⟩;have hl1:=h.2.2.2;have hl2:=h.2.2.1;have hrl:bs.length-k=r.length:=by rw [<- HR.out,List.length_drop]
 rw [HR.out] at HO;have hkd:decide ((bs.length:Int)<(k:Int))=false:=decide_eq_false (by omega);have hkn:decide (bs.length<k)=false:=decide_eq_false (by omega);have hkz:decide ((k:Int)<0)=false:=decide_eq_false (by omega);have hkc:k<=c:=by omega
 by_cases hp:k<bs.length
 · have hcn:¬ c=k:=by omega
   cases A with
   | none=>exact absurd (h.1.1 rfl) (by omega)
   | some ad=>
    obtain ⟨g,o,rfl,hcell⟩:=h.1.2 ad rfl (by omega)
    have HCL:Hid (∀ j,j<r.length->w.cell? ⟨g,o+k+j,none⟩=some (.int .u8 (((r.getD j 0).toNat:Nat):Int))):=fun j hj=>by
     have h1:=hcell (k+j) (by omega);rw [show o+k+j=o+(k+j) by omega,h1, <- HR.out];simp [encU,List.getD_eq_getElem?_getD]
    have hcut:cutA (some ⟨g,o,none⟩) k c=some ⟨g,o+k,none⟩:=if_neg hcn;rw [hcut] at HO;clear hcell hcut h;go_enter Tryz.func116,Tryz.ntmps116;go_wp2_with (go_at_call 152;(with_reducible refine HO.out.mono ?_);refine halt_ ?_)
    rintro e w1 ⟨rfl,v,rfl,hv,_⟩;have HV:=hid hv;clear hv HO;cases v with
    | true=>
     have HN:Hid (takeU 0 0 (bs.drop k)=none):=by rw [Hid,HR.out];exact take_all _ _ _ (HV.out rfl)
     clear HV;go_wp2_with fail
     go_ret3
     exact ⟨rfl,.inr ⟨HN.out,11,by decide,rfl⟩⟩
    | false=>
     clear HV;go_wp2_with fail
     go_loop [8,9,10] (fun s8 s9 s10=>∃ (i v:Nat),i<=9/\i<=r.length/\v<128^i/\s8= .int .u64 (v:Int)/\s9= .int .u64 ((128^i:Nat):Int)/\s10= .int .i64 (i:Int)/\Hid (takeU 0 0 r=takeU i v (r.drop i))) (fun _ _ s10=>r.length-(intOf s10).toNat)
     case atStart=>exact ⟨0,0,by omega,by omega,by simp,rfl,rfl,rfl,rfl⟩
     obtain ⟨i,v,hi,hir,hv,rfl,rfl,rfl,HT⟩:=hrel;have hi10:decide ((i:Int)<10)=true:=decide_eq_true (by omega);by_cases hlt:i<r.length
     · obtain ⟨x,HX⟩:∃ x,Hid (r.getD i 0=x):=⟨_,rfl⟩;have hx:=x.toNat_lt
       have hcl:w1.cell? ⟨g,o+k+i,none⟩=some (.int .u8 ((x.toNat:Nat):Int)):=by
        have:=HCL.out i hlt;rw [HX.out] at this;exact this
       have HD:Hid (r.drop i=x::r.drop (i+1)):=by
        rw [Hid,List.drop_eq_getElem_cons hlt, <- HX.out,List.getD_eq_getElem?_getD,List.getElem?_eq_getElem hlt];rfl
       obtain ⟨y,HY⟩:∃ y,Hid (x.toNat=y):=⟨_,rfl⟩;rw [HY.out] at hcl hx;obtain ⟨P,HP⟩:∃ P:Nat,Hid (128^i=P):=⟨_,rfl⟩;rw [HP.out] at hv |-; by_cases hbad:i=9/\1<y
       · obtain ⟨h9,h1⟩:=hbad;have hb9:((i:Int)==9)=true:=by rw [beq_iff_eq];omega
         have hb1:decide ((1:Int)<(y:Int))=true:=decide_eq_true (by omega)
         have HN:Hid (takeU 0 0 (bs.drop k)=none):=by
          rw [Hid,HR.out,HT.out,HD.out,takeU,HY.out,if_pos ⟨h9,by omega⟩]
         clear h9;go_wp2_with fail
         go_ret3
         exact ⟨rfl,.inr ⟨HN.out,12,by decide,rfl⟩⟩
       have h9y:i=9->y<=1:=fun e=>by
        rcases Nat.lt_or_ge 1 y with h | h
        · exact absurd ⟨e,h⟩ hbad
        exact h
       have eo:=rTake_or v i y P (by rw [HP.out];exact hv) hi h9y HP.out;have hV:=(or_add v i (y % 128) (by rw [HP.out];exact hv) hi (Nat.mod_lt _ (by decide)) (fun e=>by have:=h9y e;omega)).2.1;obtain ⟨V,HV⟩:∃ x:Nat,Hid (v+y % 128*128^i=x):=⟨_,rfl⟩;rw [HV.out] at eo hV;obtain ⟨t9,ht9⟩:∃ t,((i:Int)==9)=t:=⟨_,rfl⟩
       have hb1:t9=true->decide ((1:Int)<(y:Int))=false:=fun e=>by
        rw [e,beq_iff_eq] at ht9;exact decide_eq_false (by have:=h9y (by omega);omega)
       have HB9:Hid (t9=true->i=9):=fun e=>by rw [e,beq_iff_eq] at ht9;omega
       have HB8:Hid (t9=false->i<=8):=fun e=>by rw [e,beq_eq_false_iff_ne] at ht9;omega
       have H9Y:=hid h9y;go_upto_region 11 with fail
       go_cut [44] from 39 to 44 (fun s44 w'=>s44= .bool false/\w'=w1)
       case first=>
        cases t9 with
        | true=>
         have hb2:=hb1 rfl;clear hb1;go_wp2_with fail
         go_meet;exact ⟨rfl,rfl⟩
        | false=>
         clear hb1;go_wp2_with fail
         go_meet;exact ⟨rfl,rfl⟩
       obtain ⟨rfl,rfl⟩:=hcut;clear hb1 ht9 hbad h9y;by_cases h128:128<=y
       · have hd128:decide ((y:Int)<128)=false:=decide_eq_false (by omega)
         have hi8:i<=8:=by
          rcases Nat.lt_or_ge i 9 with h | h
          · omega
          have:=H9Y.out (by omega);omega
         have eu:=rTake_up i P hi8 HP.out
         have HN:Hid (takeU 0 0 r=takeU (i+1) V (r.drop (i+1))):=by
          rw [Hid,HT.out,HD.out,takeU,HY.out,if_neg (by omega),if_pos h128,HV.out]
         have hv2:Hid (V<128^(i+1)):=by
          rw [Hid, <- HV.out];have h1:y % 128*128^i<=127*128^i:=Nat.mul_le_mul_right _ (by omega);have h2:v<128^i:=by rw [HP.out];exact hv
          rw [Nat.pow_succ];omega
         obtain ⟨P2,HP2⟩:∃ P:Nat,Hid (128^(i+1)=P):=⟨_,rfl⟩;rw [HP2.out] at eu;go_wp2_with fail
         go_round
         case rel=>exact ⟨i+1,V,by omega,by omega,hv2.out,rfl,by rw [HP2.out],by go_num,HN.out⟩
         simp [intOf];omega
       have hd128:decide ((y:Int)<128)=true:=decide_eq_true (by omega);by_cases hz:y=0/\0<i
       · obtain ⟨hz1,hz2⟩:=hz;have hy0:((y:Int)==0)=true:=by rw [beq_iff_eq];omega
         have hi0:decide ((0:Int)<(i:Int))=true:=decide_eq_true (by omega);have hi0n:decide (0<i)=true:=decide_eq_true (by omega)
         have HN:Hid (takeU 0 0 (bs.drop k)=none):=by
          rw [Hid,HR.out,HT.out,HD.out,takeU,HY.out];split
          · rfl
          rw [if_pos ⟨hz1,hz2⟩]
         clear h128;subst hz1;simp only [Int.natCast_zero] at eo hcl;go_wp2_with fail
         go_ret3
         exact ⟨rfl,.inr ⟨HN.out,12,by decide,rfl⟩⟩
       have HN:Hid (takeU 0 0 (bs.drop k)=some (V,i+1)):=by
        rw [Hid,HR.out,HT.out,HD.out,takeU,HY.out,if_neg (by have:=H9Y.out;omega),if_neg h128,if_neg hz,HV.out]
       have HZ:=hid hz;clear hz;obtain ⟨tb,htb⟩:∃ t,((y:Int)==0)=t:=⟨_,rfl⟩
       have hi0:tb=true->decide ((0:Int)<(i:Int))=false:=fun e=>by
        rw [e,beq_iff_eq] at htb;exact decide_eq_false (by have:=HZ.out;omega)
       have hi1:tb=true->decide (0<i)=false:=fun e=>by
        rw [e,beq_iff_eq] at htb;exact decide_eq_false (by have:=HZ.out;omega)
       cases tb with
       | true=>
        have hi2:=hi0 rfl;have hi3:=hi1 rfl;clear hi0 hi1;have hy:y=0:=by rw [beq_iff_eq] at htb;omega
        clear htb;subst hy;simp only [Int.natCast_zero] at eo hcl;have eo2:IntKind.u64.wrap (v:Int)=((V:Nat):Int):=by simpa [IntKind.wrap_u64] using eo
        go_wp2_with fail
        go_ret3
        exact ⟨rfl,.inl ⟨_,_,HN.out,by rw [show ((k+(i+1):Nat):Int)=(k:Int)+i+1 by omega];rfl⟩⟩
       | false=>
        clear hi0 hi1;go_wp2_with fail
        go_ret3
        exact ⟨rfl,.inl ⟨_,_,HN.out,by rw [show ((k+(i+1):Nat):Int)=(k:Int)+i+1 by omega];rfl⟩⟩
     have HN:Hid (takeU 0 0 (bs.drop k)=none):=by
      rw [Hid,HR.out,HT.out,List.drop_eq_nil_of_le (by omega),takeU]
     go_wp2_with fail
     go_ret3
     exact ⟨rfl,.inr ⟨HN.out,12,by decide,rfl⟩⟩
 have hr0:r=[]:=List.eq_nil_of_length_eq_zero (by omega);have HN:Hid (takeU 0 0 (bs.drop k)=none):=by rw [Hid,HR.out,hr0,takeU]
 subst hr0;obtain rfl:k=bs.length:=by omega
 clear hp hrl hkd hkn;cases A with
 | none=>
  have hc0:=h.2.1 rfl;have hb0:=h.1.1 rfl;subst hc0;obtain rfl:bs=[]:=List.eq_nil_of_length_eq_zero hb0;have HO2:Hid (Calls Tryz.prog 152 #[.slice none 0 0] w (OpnP [] w)):=HO.out;clear hkc hb0 h hkz HO;simp only [List.length_nil];simp only [List.length_nil] at HN;go_enter Tryz.func116,Tryz.ntmps116;go_wp2_with (go_at_call 152;(with_reducible refine HO2.out.mono ?_);refine halt_ ?_)
  rintro e w1 ⟨rfl,v,rfl,_,hv⟩;obtain rfl:=hv rfl;go_wp2_with fail
  go_ret3
  exact ⟨rfl,.inr ⟨HN.out,11,by decide,rfl⟩⟩
 | some ad=>
  have hz:bs.length-bs.length=0:=Nat.sub_self _;by_cases hck:c=bs.length
  · have HO2:Hid (Calls Tryz.prog 152 #[.slice (some ad) 0 (c-bs.length)] w (OpnP [] w)):=by
     have h1:=HO.out;rw [show cutA (some ad) bs.length c=some ad from if_pos hck] at h1;exact h1
    have hct:(c=bs.length)=True:=eq_true hck;clear HO hck h hl2 hkc;go_enter Tryz.func116,Tryz.ntmps116;go_wp2_with (go_at_call 152;(with_reducible refine HO2.out.mono ?_);refine halt_ ?_)
    rintro e w1 ⟨rfl,v,rfl,_,hv⟩;obtain rfl:=hv rfl;go_wp2_with fail
    go_ret3
    exact ⟨rfl,.inr ⟨HN.out,11,by decide,rfl⟩⟩
  have HO2:Hid (Calls Tryz.prog 152 #[.slice (some (ad.add bs.length)) 0 (c-bs.length)] w (OpnP [] w)):=by
   exact rOpn_any (some (ad.add bs.length)) (c-bs.length) [] w ⟨⟨(fun e=>by cases e),fun _ _ hp=>absurd hp (Nat.lt_irrefl 0)⟩,(fun e=>by cases e),Nat.zero_le _,Nat.zero_le _⟩
  clear HO h;go_enter Tryz.func116,Tryz.ntmps116;go_wp2_with (go_at_call 152;(with_reducible refine HO2.out.mono ?_);refine halt_ ?_)
  rintro e w1 ⟨rfl,v,rfl,_,hv⟩;obtain rfl:=hv rfl;go_wp2_with fail
  go_ret3
  exact ⟨rfl,.inr ⟨HN.out,11,by decide,rfl⟩⟩
end Go.Proofs.YtmiknfneeipkeaaGreat
namespace Go.Proofs.YtmiknfneeipkeaaGreat
open Go.RowKit Go.MapKept Go.ChangeMaps Go.Shelf Go.Sort
def bsOb (S:List CH):Ob where
 own:=fun _=>False
 rd:=fun i=>∃ e∈S,0<e.2.bs.length/\∃ o,e.2.d.A=some ⟨i,o,none⟩
 holds:=fun w=>∀ e∈S,BSok w e.2
 stable:=fun w w' h hs hk=>fun e he=>(h e he).keep (fun i hi=>hk i (.inr ⟨e,he,hi⟩))
section
variable {b:Nat} {w0 w w':World} {l:List Ob}
theorem SW.bufsBs {T:List BS} {S:List CH} (h:SW b w0 (bufsOb T::l) w) (hs:∀ e∈S,e.2∈T):SW b w0 (bsOb S::l) w:=by
 have hT:(bufsOb T).holds w:=h.get 0 rfl;refine SW.fuse (pre:=[bufsOb T]) h (fun e he=>?_) (fun _ h=>h) (fun i hi=>?_)
 · have hr:=hT _ (hs e he);exact ⟨hr.rs,hr.1.symm,hr.2.1⟩
 obtain ⟨e,he,_,o,ho⟩:=hi;exact ⟨_,.head _,.inr ⟨e.2,hs e he,by simp [blk,ho]⟩⟩
theorem SW.bsSub {S S':List CH} (h:SW b w0 (bsOb S::l) w) (hs:∀ e∈S',e∈S):SW b w0 (bsOb S'::l) w:=by
 have hT:(bsOb S).holds w:=h.get 0 rfl;refine SW.fuse (pre:=[bsOb S]) h (fun e he=>hT e (hs e he)) (fun _ h=>h) (fun i hi=>?_);obtain ⟨e,he,hp⟩:=hi;exact ⟨_,.head _,.inr ⟨e,hs e he,hp⟩⟩
theorem SW.bsCons {S:List CH} {d:BD} {bs:List UInt8} (h:SW b w0 (bxOb d bs::bsOb S::l) w) (i:ID) (hd:d.len=bs.length/\d.len<=d.cap):SW b w0 (bsOb ((i,⟨d,bs⟩)::S)::l) w:=by
 have hX:=h.get 0 (o:=bxOb d bs) rfl;have hT:(bsOb S).holds w:=h.get 1 rfl;refine SW.fuse (pre:=[bxOb d bs,bsOb S]) h (fun e he=>?_) (fun _ h=>h) (fun j hj=>?_)
 · rcases List.mem_cons.1 he with rfl | he
   · exact ⟨SB.rs (hX.1.elim (fun r=>r.src) (fun r=>r.2.2.2)),hd.1,hd.2⟩
   exact hT e he
 obtain ⟨e,he,hp,o,ho⟩:=hj;rcases List.mem_cons.1 he with rfl | he
 · exact ⟨_,.head _,.inl (by show blk d=some j;simp only at ho;simp [blk,ho])⟩
 exact ⟨_,.tail _ (.head _),.inr ⟨e,he,hp,o,ho⟩⟩
end
end Go.Proofs.YtmiknfneeipkeaaGreat
namespace Go.Proofs.YtmiknfneeipkeaaGreat
open Go.RowKit Go.MapKept Go.ChangeMaps Go.Shelf Go.Sort
theorem validB_fp {bs:List UInt8} (h1:1<=bs.length) (h2:bs.length<=8192):chunkB (fpOf bs)=true:=by
 have h:=fpSum_lt bs;unfold pP at h;have e:fpOf bs=(((fpSum bs:Nat):Int),((bs.length:Nat):Int)):=rfl;rw [e];simp only [chunkB,validB,Bool.and_eq_true,Bool.or_eq_true,decide_eq_true_eq,beq_iff_eq];omega
theorem sumZ_idS (T:List BS):sumZ (idS T)=((lenS T:Nat):Int):=by
 induction T with
 | nil=>rfl
 | cons e T ih=>
  have h1:sumZ (idS (e::T))=(e.bs.length:Int)+sumZ (idS T):=rfl;have h2:lenS (e::T)=e.bs.length+lenS T:=by simp [lenS]
  rw [h1,h2,ih,Int.natCast_add]
theorem manE_idS {T:List BS} (hn:T.length<=100) (hb:∀ e∈T,1<=e.bs.length/\e.bs.length<=8192):manE ⟨((lenS T:Nat):Int),idS T⟩=0:=by
 have hl:=lenS_le (fun e he=>(hb e he).2);have h2:8192*T.length<=819200:=by omega
 rw [manE_end (by simp [idS];omega) (by
  rw [List.all_eq_true];intro i hi;obtain ⟨e,he,rfl⟩:=List.mem_map.1 hi;exact validB_fp (hb e he).1 (hb e he).2)]
 rw [if_pos ⟨(sumZ_idS T).symm,by simp only;omega⟩]
theorem errM_all {ms:List Man} (h:∀ m∈ms,manE m=0):errM ms=0:=by
 have:∀ k,k<=ms.length->errM (ms.take k)=0:=fun k=>by
  induction k with
  | zero=>intro _;rfl
  | succ k ih=>
   intro hk;rw [take_snoc _ man0 _ (by omega),errM_snoc _ _ (ih (by omega))];exact h _ (getD_mem _ _ _ (by omega))
 have h2:=this ms.length (Nat.le_refl _);rwa [List.take_length] at h2
theorem good_man {Ps:List (List BS)} (h:GoodPs Ps):∀ m∈mansT Ps,manE m=0:=by
 intro m hm;obtain ⟨T,hT,rfl⟩:=List.mem_map.1 hm;obtain ⟨h1,h2⟩:=h.2 T hT;exact manE_idS (by omega) (fun e he=>⟨(h2 e he).1,by have:=(h2 e he).2;omega⟩)
theorem good_ids {Ps:List (List BS)} (h:GoodPs Ps):∀ m∈mansT Ps,m.ids.length<=3:=by
 intro m hm;obtain ⟨T,hT,rfl⟩:=List.mem_map.1 hm;simpa [manT,idS] using (h.2 T hT).1
theorem good_ok {Ps:List (List BS)} (h:GoodPs Ps):∀ m∈mansT Ps,∀ i∈m.ids,okID i:=by
 intro m hm i hi;obtain ⟨T,hT,rfl⟩:=List.mem_map.1 hm;obtain ⟨e,he,rfl⟩:=List.mem_map.1 hi;exact okID_fp _ (by have:=((h.2 T hT).2 e he).2;omega)
theorem mansT_len (Ps:List (List BS)):(mansT Ps).length=Ps.length:=by simp [mansT]
theorem idsOf_few {ms:List Man} {B:Nat} (h:∀ m∈ms,m.ids.length<=B):(idsOf ms).length<=B*ms.length:=by
 induction ms with
 | nil=>simp [idsOf]
 | cons m ms ih=>
  have h1:=ih (fun m hm=>h m (List.mem_cons_of_mem _ hm));have h2:=h m (.head _);have:(idsOf (m::ms)).length=m.ids.length+(idsOf ms).length:=by simp [idsOf]
  rw [this,List.length_cons,Nat.mul_add];omega
def inOb (A:Option Addr) (L:List Int):Ob where
 own:=fun _=>False
 rd:=fun i=>0<L.length/\∃ o,A=some ⟨i,o,none⟩
 holds:=fun w=>RdT w w.heap.size A L/\L.length<=9223372036854775807
 stable:=fun w w' h hs hk=>by
  refine ⟨fun hp=>?_,h.2⟩;obtain ⟨b,o,e,hlt,hc⟩:=h.1 hp;have h2:=hk b (.inr ⟨hp,o,e⟩);refine ⟨b,o,e,Nat.lt_of_lt_of_le hlt hs.2.2.2,fun j hj=>?_⟩;rw [<- hc j hj];simp [World.cell?, h2]
section
variable {b:Nat} {w0 w w':World} {l t:List Ob} {o o':Ob}
theorem SW.newTape {A:Option Addr} {L:List Int} (h:SW b w0 l w) (hm:inOb A L∈l) (c:Nat) {H:Nat} (hH:w.heap.size=H):SW b w0 (tpOb H A c L 0::l) (w.alloc (.cells #[.slice A L.length c,.int .i64 0] 26)):=by
 subst hH;have hh:RdT w w.heap.size A L/\L.length<=9223372036854775807:=h.1.holds _ hm;have hb:Below w.heap.size w (w.alloc (.cells #[.slice A L.length c,.int .i64 0] 26)):=(Below.refl _ _).alloc (Nat.le_refl _) _;have:=h.1.add (o':=tpOb w.heap.size A c L 0) hb ⟨IsB.new _ _ _,fun hp=>?_,hh.2⟩ (fun i hi=>?_) (fun i hi=>?_) (fun i hi hlt=>h.noOwn hm (fun _ h=>h) hi)
 · exact ⟨this.1,h.2.trans this.2⟩
 · obtain ⟨q,o,e,hlt,hc⟩:=hh.1 hp;exact ⟨q,o,e,by simp;omega,by omega,fun j hj=>(hb.cell hlt).trans (hc j hj)⟩
 · have hi:i=w.heap.size:=hi;rw [hi];exact ⟨Nat.le_refl _,by simp⟩
 obtain ⟨hp,o,e⟩:=hi;obtain ⟨q,o',e',hlt,_⟩:=hh.1 hp;rw [e] at e';injection e' with e';injection e' with e' _;rw [e'];exact Nat.lt_of_lt_of_le hlt (by simp)
theorem row_rdM {D:Option Addr} {rs:List MR} {q dc:Nat} (hr:w.ownsRow 0 33 2 (.slice D q dc) q (rs.flatMap encMR)) (hq:rs.length=q):Rd encMR 2 mr0 w w.heap.size D rs:=by
 intro hp;have hx:∀ g,D=some ⟨g,0,none⟩->g<w.heap.size:=fun g e=>(hr.lt g (by rw [e];rfl)).2;rcases hr.2 with ⟨hv,h0⟩ | ⟨g,cap,cur,hv,_⟩
 · omega
 injection hv with e1 e2 e3;subst e1;subst e3;refine ⟨g,0,rfl,hx g rfl,by have:=hx g rfl;omega,fun j hj i v hi=>?_⟩
 have hi2:i<2:=by
  have:=(List.getElem?_eq_some_iff.1 hi).1;rwa [encMR_len] at this
 rw [Nat.zero_add,hr.cellAt (j*2+i) (by rw [<- hq];omega),flat_at encMR_len mr0 rs j i hj hi2];exact hi
theorem encMR_all (rs:List MR):∀ u∈rs.flatMap encMR,u.oneCell'=true:=fun u hu=>by
 obtain ⟨r,_,hr⟩:=List.mem_flatMap.1 hu;exact encMR_one r u hr
end
end Go.Proofs.YtmiknfneeipkeaaGreat
namespace Go.Proofs.YtmiknfneeipkeaaGreat
open Go.RowKit Go.MapKept Go.ChangeMaps Go.Shelf Go.Sort
theorem flat_take {α:Type} {enc:α->List Value} {k:Nat} (hk:∀ y,(enc y).length=k):∀ (l:List α) (j:Nat),(l.take j).flatMap enc=(l.flatMap enc).take (j*k):=by
 intro l;induction l with
 | nil=>intro j;simp
 | cons a l ih=>
  intro j;cases j with
  | zero=>simp
  | succ j=>
   have h1:(enc a).take ((j+1)*k)=enc a:=List.take_of_length_le (by rw [hk,Nat.succ_mul];omega);have h2:(j+1)*k-(enc a).length=j*k:=by rw [hk,Nat.succ_mul];omega
   rw [List.take_succ_cons,List.flatMap_cons,List.flatMap_cons,ih j,List.take_append,h1,h2]
theorem flat_drop {α:Type} {enc:α->List Value} {k:Nat} (hk:∀ y,(enc y).length=k):∀ (l:List α) (j:Nat),(l.drop j).flatMap enc=(l.flatMap enc).drop (j*k):=by
 intro l;induction l with
 | nil=>intro j;simp
 | cons a l ih=>
  intro j;cases j with
  | zero=>simp
  | succ j=>
   have h1:(enc a).drop ((j+1)*k)=[]:=List.drop_eq_nil_of_le (by rw [hk,Nat.succ_mul];omega);have h2:(j+1)*k-(enc a).length=j*k:=by rw [hk,Nat.succ_mul];omega
   rw [List.drop_succ_cons,List.flatMap_cons,ih j,List.drop_append,h1,h2,List.nil_append]
theorem row_part {α:Type} {enc:α->List Value} {k:Nat} (hk:∀ y,(enc y).length=k) {w:World} {e:TypeId} {g n c:Nat} {rs:List α} (hr:w.ownsRow 0 e k (.slice (some ⟨g,0,none⟩) n c) n (rs.flatMap enc)) (i m:Nat) (him:i+m<=n):∀ (a:Nat) (u:Value),(((rs.drop i).take m).flatMap enc)[a]? =some u->w.cell? ((⟨g,i*k,none⟩:Addr).add a)=some u:=by
 intro a u hu;rw [flat_take hk,flat_drop hk,List.getElem?_take] at hu;split at hu
 · rename_i ha
   rw [List.getElem?_drop] at hu
   rw [lit_add,hr.cellAt (i*k+a) (by
    have:i*k+m*k<=n*k:=by rw [<- Nat.add_mul];exact Nat.mul_le_mul_right k him
    omega)]
   exact hu
 cases hu
section
variable {b:Nat} {w0 w w':World} {l:List Ob}
theorem step_rowA {ops:Array Oper} {o:Oper} {tm:Array Value} {df:List Deferred} {K:Act->World->Prop} {Q:Exit->Act->World->Prop} {E:Prop} {t e:TypeId} {i:TypeInfo} {z:Value} {size bytes:Nat} (hS:SW b w0 l w) (k:Nat) {v:Value} {n:Nat} {xs:List Value} (hk:l[k]? =some (rowOb e size v n xs))
 (hgd:o.guard=none) (s x:Operand) (ho:o.op= .call { callee:=.builtin .append,args:= #[s,x],argTypes:= #[t,t] })
 (ht:Tryz.prog.underlying t=some (.slice e)) (hi:Tryz.prog.info? e=some i) (hz:i.zero=some z) (hsize:i.size=size) (hby:i.bytes=bytes) (hzs:z.cells.size=size) (hsz:0<size)
 (hs:(⟨tm,df⟩:Act).eval s=v) (A:Option Addr) (m c:Nat) (news:List Value) (hx:(⟨tm,df⟩:Act).eval x= .slice A m c) (hl:news.length=m*size) (hA:0<m->∃ ad,A=some ad/\∀ j u,news[j]? =some u->w.cell? (ad.add j)=some u) (h1:∀ u∈news,u.oneCell'=true)
 (h63:n+m<=maxLen) (hbytes:(n+m)*bytes<=140737488355328)
 (h:∀ v' w',SW b w0 (l.set k (rowOb e size v' (n+m) (xs++news))) w'->K ((⟨tm,df⟩:Act).put o.dst v') w'):
 if Region.wanted o (yielded ops tm)=true then Oper.wp Tryz.prog o ⟨tm,df⟩ w K Q else E:=
 step_rowM (a:=⟨tm,df⟩) hS k hk hgd s x ho ht hi hz hsize hby hzs hsz hs A m c news hx hl hA h1 h63 hbytes h
end
end Go.Proofs.YtmiknfneeipkeaaGreat
