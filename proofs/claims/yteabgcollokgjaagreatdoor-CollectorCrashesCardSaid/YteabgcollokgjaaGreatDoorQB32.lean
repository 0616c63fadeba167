/- Q -/
import Derived.Laws.Cells
import Derived.RegionTactic
import Derived.ChangeAlike
import Derived.Test.YteabgcollokgjaaGreatDoorQB29
set_option linter.unusedSimpArgs false
set_option linter.unusedVariables false
set_option maxRecDepth 100000
set_option maxHeartbeats 32000000
open Go.Lib (hid)
open List renaming mem_cons_of_mem → zA,getD_eq_getElem?_getD → zB,length_append → zC,filterMap_cons → zD,flatMap_cons → zE,getElem?_eq_getElem → zF,take_succ_eq_append_getElem → zG,getElem_mem → zH,getElem?_append_left → zI,length_drop → zJ,take_length → zK,getElem?_cons_succ → zL,length_filter_le → zM
open Nat renaming zero_le → zN
namespace Go.Proofs.YteabgcollokgjaaGreatDoor
section
open Go.RowKit Go.MapKept Go.ChangeMaps Go.Shelf Go.Sort
abbrev vU (_:Unit):Value:=.agg #[]
abbrev HL:=List (ID×Unit)
structure Ses where
 num:Int
 beg:Bool
 hm:Option Nat
 H:HL
def Ses.cs (s:Ses):List Value:=[.int .i64 s.num,.bool s.beg,.map s.hm]
abbrev ses0:Ses:=⟨0,false,none,[]⟩
structure CR where
 cp:Nat
 ps:Nat
 A:Option Addr
 cap:Nat
 cand:List ID
 se:List Ses
abbrev CR.cells (c:CR):Array Value:=(.pointer (some ⟨c.ps,0,none⟩):: .slice c.A c.cand.length c.cap::c.se.flatMap Ses.cs).toArray
structure SesOk (w:World) (se:List Ses):Prop where
 len:se.length=16
 map:∀ s∈se,∀ m,s.hm=some m->MapIs okID vID vU w m s.H
 nomap:∀ s∈se,s.hm=none->s.H=[]
 uniq:(se.filterMap Ses.hm).Nodup
def RIx (w:World) (A:Option Addr) (cap:Nat) (ids:List ID):Prop:=ids.length<=cap/\(A=none->ids=[])/\∀ ad,A=some ad->∃ g,ad=⟨g,0,none⟩/\RowI w g ids/\g<w.heap.size
def coOb (c:CR):Ob where
 own:=fun i=>i=c.cp∨c.A=some ⟨i,0,none⟩∨∃ s∈c.se,s.hm=some i
 rd:=fun _=>False
 holds:=fun w=>IsB w c.cp 183 c.cells/\RIx w c.A c.cap c.cand/\SesOk w c.se
 stable:=fun w w' h hs hk=>by
  obtain ⟨h1,⟨h2,h3,h4⟩,h5⟩:=h;refine ⟨(hk c.cp (.inl (.inl rfl))).trans h1,⟨h2,h3,fun ad e=>?_⟩,h5.len,fun s hs m hm=>(h5.map s hs m hm).same (hk m (.inl (.inr (.inr ⟨s,hs,hm⟩)))),h5.nomap,h5.uniq⟩;obtain ⟨g,rfl,⟨cur,hi,hr⟩,hlt⟩:=h4 ad e;exact ⟨g,rfl,⟨cur,(hk g (.inl (.inr (.inl e)))).trans hi,hr⟩,Nat.lt_of_lt_of_le hlt hs.2.2.2⟩
theorem Ses.cs_len (s:Ses):s.cs.length=3:=rfl
theorem ses_len (se:List Ses):(se.flatMap Ses.cs).length=se.length*3:=by
 induction se with
 | nil=>rfl
 | cons s se ih=>rw [zE,zC,ih,Ses.cs_len,List.length_cons];omega
theorem ses_get:∀ (se:List Ses) (k j:Nat),k<se.length->j<3->(se.flatMap Ses.cs)[k*3+j]? =(se.getD k ses0).cs[j]?
 | [],_,_,h,_=>by simp at h
 | s::se,0,j,_,hj=>by
  rw [zE,Nat.zero_mul,Nat.zero_add,zI (by rw [Ses.cs_len];exact hj)];rfl
 | s::se,k+1,j,h,hj=>by
  rw [zE,List.getElem?_append_right (by rw [Ses.cs_len];omega),Ses.cs_len,show (k+1)*3+j-3=k*3+j by omega,ses_get se k j (by simpa using h) hj];simp
theorem ses_set:∀ (se:List Ses) (k:Nat) (s:Ses),k<se.length->(se.set k s).flatMap Ses.cs=(((se.flatMap Ses.cs).set (k*3) (.int .i64 s.num)).set (k*3+1) (.bool s.beg)).set (k*3+2) (.map s.hm)
 | [],_,_,h=>by simp at h
 | x::se,0,s,_=>by
  rw [List.set_cons_zero,zE,zE];rfl
 | x::se,k+1,s,h=>by
  rw [List.set_cons_succ,zE,zE,ses_set se k s (by simpa using h)];have e:x.cs=[.int .i64 x.num,.bool x.beg,.map x.hm]:=rfl;rw [e];simp only [List.cons_append,List.nil_append];rw [show (k+1)*3+2=(k*3+2)+1+1+1 by omega,show (k+1)*3+1=(k*3+1)+1+1+1 by omega,show (k+1)*3=(k*3)+1+1+1 by omega];simp only [List.set_cons_succ]
section
variable {w:World} {c:CR}
theorem CR.cell0 (h:(coOb c).holds w):w.cell? ⟨c.cp,0,none⟩=some (.pointer (some ⟨c.ps,0,none⟩)):=h.1.cell 0
theorem CR.cell1 (h:(coOb c).holds w):w.cell? ⟨c.cp,1,none⟩=some (.slice c.A c.cand.length c.cap):=h.1.cell 1
theorem CR.ses (h:(coOb c).holds w) {k:Nat} (hk:k<16):w.cell? ⟨c.cp,2+k*3,none⟩=some (.int .i64 (c.se.getD k ses0).num)/\w.cell? ⟨c.cp,2+k*3+1,none⟩=some (.bool (c.se.getD k ses0).beg)/\w.cell? ⟨c.cp,2+k*3+2,none⟩=some (.map (c.se.getD k ses0).hm):=by
 have hl:=h.2.2.len
 have hg:∀ j,j<3->w.cell? ⟨c.cp,2+k*3+j,none⟩=(c.se.getD k ses0).cs[j]? :=fun j hj=>by
  rw [h.1.cell,show 2+k*3+j=(k*3+j)+1+1 by omega];show (Value.pointer (some ⟨c.ps,0,none⟩):: .slice c.A c.cand.length c.cap::c.se.flatMap Ses.cs).toArray[(k*3+j)+1+1]? =_;rw [List.getElem?_toArray,zL,zL];exact ses_get c.se k j (by omega) hj
 exact ⟨hg 0 (by omega),hg 1 (by omega),hg 2 (by omega)⟩
theorem CR.lt (h:(coOb c).holds w):c.cp<w.heap.size:=h.1.lt
end
def fiO (p:Ses->Bool):List Ses->Option Nat
 | []=>none
 | s::l=>if p s then some 0 else (fiO p l).map (· +1)
def fiV (p:Ses->Bool) (l:List Ses):Int:=match fiO p l with | some k=>(k:Int) | none=> -1
theorem fiO_some {p:Ses->Bool}:∀ {l:List Ses} {k:Nat},k<l.length->p (l.getD k ses0)=true->(∀ j,j<k->p (l.getD j ses0)=false)->fiO p l=some k
 | [],k,h,_,_=>by simp at h
 | s::l,0,_,hp,_=>by
  have hp:p s=true:=hp;simp [fiO,hp]
 | s::l,k+1,h,hp,hb=>by
  have h0:p s=false:=hb 0 (by omega);have ih:=fiO_some (p:=p) (l:=l) (k:=k) (by simpa using h) (by simpa using hp) (fun j hj=>by simpa using hb (j+1) (by omega));simp [fiO,h0,ih]
theorem fiO_none {p:Ses->Bool}:∀ {l:List Ses},(∀ j,j<l.length->p (l.getD j ses0)=false)->fiO p l=none
 | [],_=>rfl
 | s::l,hb=>by
  have h0:p s=false:=hb 0 (by simp);have ih:=fiO_none (p:=p) (l:=l) (fun j hj=>by simpa using hb (j+1) (by simpa using hj));simp [fiO,h0,ih]
theorem fiO_lt {p:Ses->Bool}:∀ {l:List Ses} {k:Nat},fiO p l=some k->k<l.length/\p (l.getD k ses0)=true
 | [],k,h=>by cases h
 | s::l,k,h=>by
  unfold fiO at h;split at h
  · rename_i hp
    injection h with h;subst h;exact ⟨by simp,hp⟩
  cases hf:fiO p l with
  | none=>rw [hf] at h;cases h
  | some j=>
   rw [hf] at h;injection h with h;subst h;have ih:=fiO_lt hf;exact ⟨by simpa using ih.1,by simpa using ih.2⟩
theorem isFree_any (n:Int) (b:Bool) (m:Option Nat) (w:World):Calls Tryz.prog 123 #[.agg #[.int .i64 n,.bool b,.map m]] w (Gives (.bool (!b)) w):=by
 go_enter Tryz.func123,Tryz.ntmps123;go_wp2_with fail
 go_ret;exact ⟨rfl,bel1q _ _⟩
theorem isNum_any (n:Int) (b:Bool) (m:Option Nat) (g:Nat) (N:Int) (w:World) (hg:w.cell? ⟨g,0,none⟩=some (.int .i64 N)):Calls Tryz.prog 166 #[.agg #[.int .i64 n,.bool b,.map m],vPtr g] w (Gives (.bool (b&&(n==N))) w):=by
 have hlt:=World.block_lt_of_cell? _ _ hg;cases b with
 | false=>
  go_enter Tryz.func166,Tryz.ntmps166;go_wp2_with fail
  go_ret;exact ⟨rfl,bel1q _ _⟩
 | true=>
  go_enter Tryz.func166,Tryz.ntmps166;go_wp2_with fail
  go_ret;exact ⟨rfl,bel1q _ _⟩
theorem coOb_lt {w:World} {c:CR} (h:(coOb c).holds w) {i:Nat} (hi:(coOb c).own i):i<w.heap.size:=by
 rcases hi with rfl | hi | ⟨s,hs,hm⟩
 · exact h.1.lt
 · obtain ⟨g,e,_,hlt⟩:=h.2.1.2.2 _ hi;injection e with e;rw [e];exact hlt
 exact (h.2.2.map s hs i hm).lt
theorem index123 {w:World} {c:CR} (h:(coOb c).holds w):Calls Tryz.prog 122 #[.slice (some ⟨c.cp,2,none⟩) 16 16,.func (.func 123) #[] #[]] w (Gives (.int .i64 (fiV (fun s=> !s.beg) c.se)) w):=by
 have H:=hid h;have hlen:=h.2.2.len;clear h;go_enter Tryz.func122,Tryz.ntmps122;go_wp2_with fail
 go_loopw [8] (fun s8 wr=>∃ k:Nat,k<=16/\s8= .int .i64 (k:Int)/\(∀ j,j<k->((fun s=> !s.beg)) (c.se.getD j ses0)=false)/\Below w.heap.size w wr) (fun s8 _=>16-(intOf s8).toNat)
 case atStart=>exact ⟨0,zN _,rfl,(fun j hj=>by omega),Below.refl _ _⟩
 obtain ⟨k,hk,rfl,hb,hbel⟩:=hrel;have HB:=hid hb;have BB:=hid hbel;clear hb hbel;by_cases hlt:k<16
 · have hwk:(coOb c).holds wr:=(coOb c).stable w wr H.out ⟨BB.out.os,BB.out.tape,BB.out.output,BB.out.size⟩ (fun i hi=>BB.out.block i (coOb_lt H.out (by
    rcases hi with hi | hi
    · exact hi
    exact hi.elim)))
   obtain ⟨a0,a1,a2⟩:=CR.ses hwk hlt;obtain ⟨s,hs⟩:∃ s,c.se.getD k ses0=s:=⟨_,rfl⟩;rw [hs] at a0 a1 a2;have HS:=hid hs;clear hwk hs;go_upto_if 16 with ((go_at_call 123;(with_reducible refine (isFree_any _ _ _ _).mono ?_));rintro e w1 ⟨rfl,hb1⟩;have B1:Hid (Below w.heap.size w w1):=BB.out.trans (hb1.mono BB.out.size);clear hb1)
   obtain ⟨v,HV⟩:∃ v,Hid (((fun s=> !s.beg)) s=v):=⟨_,rfl⟩;have hv:=HV.out;simp only at hv;rw [hv];clear a0 a1 a2 hv;cases v with
   | true=>
    go_wp2_with fail
    go_ret;refine ⟨?_,B1.out⟩;have e:=fiO_some (p:=(fun s=> !s.beg)) (l:=c.se) (k:=k) (by omega) (by rw [HS.out];exact HV.out) HB.out;unfold fiV;rw [e];rfl
   | false=>
    go_wp2_with fail
    go_roundw
    case rel=>
     refine ⟨k+1,by omega,by go_num,fun j hj=>?_,B1.out⟩;by_cases e:j=k
     · subst e;rw [HS.out];exact HV.out
     exact HB.out j (by omega)
    simp [intOf];omega
 obtain rfl:k=16:=by omega
 go_wp2_with fail
 go_ret;refine ⟨?_,BB.out⟩;have e:=fiO_none (p:=(fun s=> !s.beg)) (l:=c.se) (fun j hj=>HB.out j (by omega));unfold fiV;rw [e];rfl
theorem index166 {w:World} {c:CR} (h:(coOb c).holds w) (g:Nat) (N:Int) (hg:w.cell? ⟨g,0,none⟩=some (.int .i64 N)):Calls Tryz.prog 122 #[.slice (some ⟨c.cp,2,none⟩) 16 16,.func (.func 166) #[] #[vPtr g]] w (Gives (.int .i64 (fiV (fun s=>s.beg&&(s.num==N)) c.se)) w):=by
 have H:=hid h;have hlen:=h.2.2.len;have HG:=hid hg;have hgl:=World.block_lt_of_cell? _ _ hg;clear hg;clear h;go_enter Tryz.func122,Tryz.ntmps122;go_wp2_with fail
 go_loopw [8] (fun s8 wr=>∃ k:Nat,k<=16/\s8= .int .i64 (k:Int)/\(∀ j,j<k->((fun s=>s.beg&&(s.num==N))) (c.se.getD j ses0)=false)/\Below w.heap.size w wr) (fun s8 _=>16-(intOf s8).toNat)
 case atStart=>exact ⟨0,zN _,rfl,(fun j hj=>by omega),Below.refl _ _⟩
 obtain ⟨k,hk,rfl,hb,hbel⟩:=hrel;have HB:=hid hb;have BB:=hid hbel;clear hb hbel;by_cases hlt:k<16
 · have hwk:(coOb c).holds wr:=(coOb c).stable w wr H.out ⟨BB.out.os,BB.out.tape,BB.out.output,BB.out.size⟩ (fun i hi=>BB.out.block i (coOb_lt H.out (by
    rcases hi with hi | hi
    · exact hi
    exact hi.elim)))
   obtain ⟨a0,a1,a2⟩:=CR.ses hwk hlt;obtain ⟨s,hs⟩:∃ s,c.se.getD k ses0=s:=⟨_,rfl⟩;rw [hs] at a0 a1 a2;have HS:=hid hs;clear hwk hs;go_upto_if 16 with ((go_at_call 166;(with_reducible refine (isNum_any _ _ _ g N _ ((BB.out.cell (p:=⟨g,0,none⟩) hgl).trans HG.out)).mono ?_));rintro e w1 ⟨rfl,hb1⟩;have B1:Hid (Below w.heap.size w w1):=BB.out.trans (hb1.mono BB.out.size);clear hb1)
   obtain ⟨v,HV⟩:∃ v,Hid (((fun s=>s.beg&&(s.num==N))) s=v):=⟨_,rfl⟩;have hv:=HV.out;simp only at hv;rw [hv];clear a0 a1 a2 hv;cases v with
   | true=>
    go_wp2_with fail
    go_ret;refine ⟨?_,B1.out⟩;have e:=fiO_some (p:=(fun s=>s.beg&&(s.num==N))) (l:=c.se) (k:=k) (by omega) (by rw [HS.out];exact HV.out) HB.out;unfold fiV;rw [e];rfl
   | false=>
    go_wp2_with fail
    go_roundw
    case rel=>
     refine ⟨k+1,by omega,by go_num,fun j hj=>?_,B1.out⟩;by_cases e:j=k
     · subst e;rw [HS.out];exact HV.out
     exact HB.out j (by omega)
    simp [intOf];omega
 obtain rfl:k=16:=by omega
 go_wp2_with fail
 go_ret;refine ⟨?_,BB.out⟩;have e:=fiO_none (p:=(fun s=>s.beg&&(s.num==N))) (l:=c.se) (fun j hj=>HB.out j (by omega));unfold fiV;rw [e];rfl
theorem coOb_on {w w':World} {c:CR} (h:(coOb c).holds w) (hb:Below w.heap.size w w'):(coOb c).holds w':=(coOb c).stable w w' h ⟨hb.os,hb.tape,hb.output,hb.size⟩ (fun i hi=>hb.block i (coOb_lt h (by
 rcases hi with hi | hi
 · exact hi
 exact hi.elim)))
theorem find_any {w:World} {c:CR} (h:(coOb c).holds w) (N:Int):Calls Tryz.prog 119 #[vPtr c.cp,.int .i64 N] w (Gives (.int .i64 (fiV (fun s=>s.beg&&(s.num==N)) c.se)) w):=by
 have hb0:Below w.heap.size w (w.alloc (.cells #[.int .i64 N] 3)):=bel1q _ _;have H0:=coOb_on h hb0;have HI:=hid (index166 H0 w.heap.size N ((IsB.new w 3 #[.int .i64 N]).cell 0));have hcl:=CR.lt h;clear h H0;go_enter Tryz.func119,Tryz.ntmps119;go_wp2_with (go_at_call 122;(with_reducible refine HI.out.mono ?_);rintro e w1 ⟨rfl,hb1⟩)
 go_ret;exact ⟨rfl,hb0.trans (hb1.mono hb0.size)⟩
theorem zero170 (W:World):(zeroValue 170).run Tryz.prog W= .ok (.agg #[]) W:=by kernel_rfl
def setI (ids:List ID):HL:=ids.foldl (fun L i=>setL L i ()) []
theorem setI_snoc (ids:List ID) (i:ID):setI (ids++[i])=setL (setI ids) i ():=by
 unfold setI;rw [List.foldl_append];rfl
theorem setI_key (ids:List ID) (i:ID):(asc (setI ids) i).isSome=decide (i∈ids):=by
 have:∀ (ids:List ID) (L:HL),(asc (ids.foldl (fun L i=>setL L i ()) L) i).isSome=((asc L i).isSome||decide (i∈ids)):=by
  intro ids;induction ids with
  | nil=>intro L;simp
  | cons j ids ih=>
   intro L;rw [List.foldl_cons,ih,asc_setL];by_cases e:j=i
   · subst e;simp
   have e':¬ i=j:=fun h=>e h.symm;simp [e,e']
 have h:=this ids [];simpa [setI,asc] using h
section
variable {b:Nat} {w0 w:World} {l:List Ob}
theorem SW.rowCell {A:Option Addr} {ids:List ID} (h:SW b w0 l w) (hA:riOb A ids∈l) {k:Nat} (hk:k<ids.length) {i:ID} (hi:ids.getD k id0=i):∃ g,A=some ⟨g,0,none⟩/\w.cell? ⟨g,k*2,none⟩=some (.int .u64 i.1)/\w.cell? ⟨g,k*2+1,none⟩=some (.int .i64 i.2):=by
 have hri:=h.1.holds (riOb A ids) hA;cases A with
 | none=>
  have h0:=hri.1 rfl;rw [h0] at hk;simp at hk
 | some ad=>
  obtain ⟨g,rfl,hr,_⟩:=hri.2 ad rfl;obtain ⟨a0,a1,_,_⟩:=hr.cells hk hi;exact ⟨g,rfl,a0,a1⟩
theorem set_any (h:SW b w0 l w) (A:Option Addr) (c:Nat) (ids:List ID) (hA:riOb A ids∈l) (hok:∀ i∈ids,okID i) (hl:ids.length<=100000):
 Calls Tryz.prog 113 #[.slice A ids.length c] w (fun e w'=>e= .returned (.map (some w.heap.size))/\SW b w0 (mpOb okID vID vU w.heap.size (setI ids)::l) w'):=by
 have HA:=hid hA;have HOK:=hid hok;have hmk:(Instr.makeMap 178 (some (.int .i64 (ids.length:Int)))).run Tryz.prog w= .ok (.map (some w.heap.size)) (w.alloc (.map #[] 0)):=by simp [Instr.makeMap,run_underlying Tryz.underlying178,asInt,asIntOf]
 have S0:Hid (SW b w0 (mpOb okID vID vU w.heap.size ([]:HL)::l) (w.alloc (.map #[] 0))):=h.addMp;generalize hm:w.heap.size=m at S0 hmk |-; clear h hA hok hm;go_enter Tryz.func113,Tryz.ntmps113;go_wp2_with fail
 go_loopw [11] (fun s11 wr=>∃ k:Nat,k<=ids.length/\s11= .int .i64 (k:Int)/\SW b w0 (mpOb okID vID vU m (setI (ids.take k))::l) wr) (fun s11 _=>ids.length-(intOf s11).toNat)
 case atStart=>exact ⟨0,zN _,rfl,S0.out⟩
 obtain ⟨k,hk,rfl,hs⟩:=hrel;have S1:=hid hs;clear hs S0 hmk;by_cases hlt:k<ids.length
 · obtain ⟨i,hik⟩:∃ i,ids.getD k id0=i:=⟨_,rfl⟩;obtain ⟨g,rfl,a0,a1⟩:=S1.out.rowCell (zA _ HA.out) hlt hik
   have hmm:i∈ids:=by
    rw [<- hik,zB,zF hlt];exact zH hlt
   have hoki:=HOK.out i hmm
   have hts:ids.take (k+1)=ids.take k++[i]:=by
    rw [zG hlt, <- hik,zB,zF hlt];rfl
   have HTS:Hid (setI (ids.take (k+1))=setL (setI (ids.take k)) i ()):=by rw [Hid,hts,setI_snoc]
   have S2:=hid (S1.out.newCell 31 #[.int .u64 i.1,.int .i64 i.2]);have c0:(wr.alloc (.cells #[.int .u64 i.1,.int .i64 i.2] 31)).cell? ⟨wr.heap.size,0,none⟩=some (.int .u64 i.1):=(S2.out.cell 0 rfl).cell 0;have c1:(wr.alloc (.cells #[.int .u64 i.1,.int .i64 i.2] 31)).cell? ⟨wr.heap.size,1,none⟩=some (.int .i64 i.2):=(S2.out.cell 0 rfl).cell 1;obtain ⟨w4,hu,hm4,hg4,hz4⟩:=MapIs.update mkI Tryz.underlying178 (S2.out.get 1 (o:=mpOb okID vID vU m (setI (ids.take k))) rfl) hoki ();have hu':(Instr.mapUpdate 178 (.map (some m)) (.agg #[.int .u64 i.1,.int .i64 i.2]) (.agg #[])).run Tryz.prog (wr.alloc (.cells #[.int .u64 i.1,.int .i64 i.2] 31))= .ok () w4:=hu;have S4:=hid (S2.out.updMp 1 rfl hm4 hg4);clear hik hmm hts hu hm4 hg4 hz4 S1 S2;go_wp2_with fail
   go_roundw
   case rel=>
    refine ⟨k+1,by omega,by go_num,?_⟩;rw [HTS.out];exact S4.out.tail
   simp [intOf];omega
 have hkn:k=ids.length:=by omega
 subst hkn;rw [zK] at S1;clear hlt hk;go_wp2_with fail
 go_ret;exact ⟨rfl,S1.out⟩
end
theorem look_u {w:World} {gm:Nat} {G:HL} (h:MapIs okID vID vU w gm G) {i:ID} (hi:okID i):(Instr.lookup 178 (.map (some gm)) (.agg #[.int .u64 i.1,.int .i64 i.2]) true).run Tryz.prog w= .ok (.tuple #[.agg #[],.bool (asc G i).isSome]) w:=by
 have:=MapIs.look mkI Tryz.underlying178 (zero170 w) h hi true;rw [show (Value.agg #[.int .u64 i.1,.int .i64 i.2])=vID i from rfl,this];cases asc G i<;>rfl
theorem is_ne {w:World} {g:Nat} {t t':TypeId} {cs cs':Array Value} (h:IsB w g t cs) (h':IsB w g t' cs') (hne:t≠t'):False:=by
 unfold IsB at h h';rw [h] at h';injection h' with h';injection h' with _ h' _;exact hne h'
theorem ses_mem {se:List Ses} {f:Nat} {s x:Ses} (h:x∈se.set f s):x=s∨x∈se:=by
 rcases List.mem_or_eq_of_mem_set h with h | h
 · exact .inr h
 exact .inl h
theorem ses_at {se:List Ses} {f:Nat} (hf:f<se.length):se.getD f ses0∈se:=by
 rw [zB,zF hf];exact zH hf
theorem ses_sub:∀ (se:List Ses) (f:Nat) (s:Ses),s.hm=none->((se.set f s).filterMap Ses.hm).Sublist (se.filterMap Ses.hm)
 | [],_,_,_=>List.Sublist.refl _
 | x::se,0,s,h=>by
  rw [List.set_cons_zero,List.filterMap_cons_none h,zD];split
  · exact List.Sublist.refl _
  exact List.sublist_cons_self _ _
 | x::se,f+1,s,h=>by
  rw [List.set_cons_succ,zD,zD];split
  · exact ses_sub se f s h
  exact (ses_sub se f s h).cons_cons _
theorem ses_eq:∀ (se:List Ses) (f:Nat) (s:Ses),s.hm=(se.getD f ses0).hm->f<se.length->(se.set f s).filterMap Ses.hm=se.filterMap Ses.hm
 | [],_,_,_,_=>rfl
 | x::se,0,s,h,_=>by
  have h:s.hm=x.hm:=h;rw [List.set_cons_zero,zD,zD,h]
 | x::se,f+1,s,h,hf=>by
  rw [List.set_cons_succ,zD,zD,ses_eq se f s (by simpa using h) (by simpa using hf)]
theorem ses_new:∀ (se:List Ses) (f:Nat) (s:Ses) (m:Nat),s.hm=some m->m ∉ se.filterMap Ses.hm->(se.filterMap Ses.hm).Nodup->((se.set f s).filterMap Ses.hm).Nodup
 | [],_,_,_,_,_,_=>List.nodup_nil
 | x::se,0,s,m,h,hm,hn=>by
  rw [List.set_cons_zero,List.filterMap_cons_some h];rw [zD] at hm hn;cases hx:x.hm with
  | none=>
   rw [hx] at hm hn;exact List.nodup_cons.2 ⟨hm,hn⟩
  | some k=>
   rw [hx] at hm hn;exact List.nodup_cons.2 ⟨fun hh=>hm (zA _ hh),(List.nodup_cons.1 hn).2⟩
 | x::se,f+1,s,m,h,hm,hn=>by
  rw [List.set_cons_succ,zD];rw [zD] at hm hn;cases hx:x.hm with
  | none=>
   rw [hx] at hm hn;exact ses_new se f s m h hm hn
  | some k=>
   rw [hx] at hm hn;obtain ⟨h1,h2⟩:=List.nodup_cons.1 hn;refine List.nodup_cons.2 ⟨fun hh=>?_,ses_new se f s m h (fun hh=>hm (zA _ hh)) h2⟩;obtain ⟨y,hy,e⟩:=List.mem_filterMap.1 hh;rcases ses_mem hy with rfl | hy
   · rw [h] at e;injection e with e;exact hm (by rw [e];exact List.mem_cons_self ..)
   exact h1 (List.mem_filterMap.2 ⟨y,hy,e⟩)
def lessL (G:HL) (ids:List ID):List ID:=ids.filter (fun i=>(asc G i).isNone)
theorem lessL_snoc (G:HL) (ids:List ID) (i:ID):lessL G (ids++[i])=lessL G ids++if (asc G i).isSome then [] else [i]:=by
 unfold lessL;rw [List.filter_append];cases h:asc G i<;>simp [h]
theorem lessL_le (G:HL) (ids:List ID):(lessL G ids).length<=ids.length:=zM _ _
theorem slice0_38 (A:Option Addr) (hA:∀ ad,A=some ad->∃ g,ad=⟨g,0,none⟩) (n c:Nat) (W:World):(Instr.slice 38 (.slice A n c) none (some (.int .i64 0)) none).run Tryz.prog W= .ok (.slice A 0 c) W:=by
 cases A with
 | none=>simp [Instr.slice,run_underlying Tryz.underlying38,Instr.sliceBounds,Instr.sliceBound,Tryz.sizeOf31,asInt,asIntOf]
 | some ad=>
  obtain ⟨g,rfl⟩:=hA ad rfl;simp [Instr.slice,run_underlying Tryz.underlying38,Instr.sliceBounds,Instr.sliceBound,Tryz.sizeOf31,asInt,asIntOf,Addr.add]
section
variable {b:Nat} {w0 w:World} {l:List Ob} {c:CR}
theorem SW.coSet (h:SW b w0 (coOb c::l) w) (j:Nat) (u:Value) {c':CR} (hcells:c'.cells=c.cells.setIfInBounds j u) (hcp:c'.cp=c.cp) (hlen:c'.se.length=16) (hH:∀ s∈c'.se,∀ m,s.hm=some m->∃ t∈c.se,t.hm=some m/\t.H=s.H) (hno:∀ s∈c'.se,s.hm=none->s.H=[]) (hu:(c'.se.filterMap Ses.hm).Nodup) (hA:c'.A=c.A) (hr:RIx w c.A c.cap c.cand->RIx w c'.A c'.cap c'.cand):
 SW b w0 (coOb c'::l) (w.setCell ⟨c.cp,j,none⟩ u):=by
 have hh:=h.get 0 (o:=coOb c) rfl;have hg:w.grownBy (w.setCell ⟨c.cp,j,none⟩ u) (some c.cp):=g_set (p:=⟨c.cp,j,none⟩) (g_refl _ _) (.inl rfl) _
 have hmem:∀ s∈c'.se,∀ m,s.hm=some m->MapIs okID vID vU w m s.H:=fun s hs m hm=>by
  obtain ⟨t,ht,e1,e2⟩:=hH s hs m hm;rw [<- e2];exact hh.2.2.map t ht m e1
 have hnew:(coOb c').holds (w.setCell ⟨c.cp,j,none⟩ u):=by
  refine ⟨by rw [hcp,hcells];exact hh.1.set_ j u,?_,⟨hlen,fun s hs m hm=>(hmem s hs m hm).kept hg (fun e=>map_is (hmem s hs m hm) (by cases e;exact hh.1)),hno,hu⟩⟩;obtain ⟨r1,r2,r3⟩:=hr hh.2.1;refine ⟨r1,r2,fun ad e=>?_⟩;obtain ⟨g,rfl,⟨cur,hi,hrr⟩,hlt⟩:=r3 ad e;refine ⟨g,rfl,⟨cur,hi.grown hg (fun e=>?_),hrr⟩,by simpa [World.setCell] using hlt⟩;injection e with e;exact is_ne hi (e ▸ hh.1) (by decide)
 have hown:∀ i,(coOb c').own i->(coOb c).own i:=fun i hi=>by
  rcases hi with hi | hi | ⟨s,hs,hm⟩
  · exact .inl (hi.trans hcp)
  · exact .inr (.inl (by rw [<- hA];exact hi))
  obtain ⟨t,ht,e1,_⟩:=hH s hs i hm;exact .inr (.inr ⟨t,ht,e1⟩)
 have:=h.1.step (o:=coOb c) (o':=coOb c') (Fr.grown hg (Or.inl rfl) (fun i hi=> .inl (hown i hi))) (fun i hi=>hi.elim) hnew (fun i hi=>by
  rcases hi with hi | hi
  · exact coOb_lt hnew hi
  exact hi.elim)
 exact ⟨this.1,h.2.trans this.2⟩
theorem RowI.pre {w:World} {g:Nat} {F R:List ID} (h:RowI w g (F++R)):RowI w g F:=by
 obtain ⟨cur,h1,h2,h3⟩:=h;rw [zC] at h2;refine ⟨cur,h1,by omega,fun j hj=>?_⟩;have:=h3 j (by rw [zC];omega);have e:(F++R).getD j id0=F.getD j id0:=by rw [zB,zI hj, <- zB]
 rw [e] at this;exact this
abbrev CR.mid (c:CR) (F:List ID):CR:={ c with cand:=F++c.cand.drop F.length }
theorem CR.mid_len (c:CR) {F:List ID} (hF:F.length<=c.cand.length):(c.mid F).cand.length=c.cand.length:=by
 simp only [zC,zJ];omega
theorem mid_set {F R:List ID} (x:ID) (h:R≠[]):(F++R).set F.length x=(F++[x])++R.drop 1:=by
 cases R with
 | nil=>exact absurd rfl h
 | cons r R=>simp
theorem SW.coPut {F:List ID} (h:SW b w0 (coOb (c.mid F)::l) w) {g:Nat} (hA:c.A=some ⟨g,0,none⟩) (hF:F.length<c.cand.length) (x:ID):SW b w0 (coOb (c.mid (F++[x]))::l) ((w.setCell ⟨g,F.length*2,none⟩ (.int .u64 x.1)).setCell ⟨g,F.length*2+1,none⟩ (.int .i64 x.2)):=by
 have hh:=h.get 0 (o:=coOb (c.mid F)) rfl;have hg:w.grownBy ((w.setCell ⟨g,F.length*2,none⟩ (.int .u64 x.1)).setCell ⟨g,F.length*2+1,none⟩ (.int .i64 x.2)) (some g):=g_set (p:=⟨g,F.length*2+1,none⟩) (g_set (p:=⟨g,F.length*2,none⟩) (g_refl _ _) (.inl rfl) _) (.inl rfl) _;obtain ⟨r1,r2,r3⟩:=hh.2.1;obtain ⟨g',e,hrow,hlt⟩:=r3 _ hA;injection e with e;subst e
 have hR:c.cand.drop F.length≠[]:=fun e=>by
  have:=congrArg List.length e;rw [zJ] at this;simp at this;omega
 have hmid:(c.mid (F++[x])).cand=(F++c.cand.drop F.length).set F.length x:=by
  rw [mid_set x hR];simp only [zC,List.length_cons,List.length_nil,List.drop_drop]
 have hlen:(c.mid (F++[x])).cand.length=(c.mid F).cand.length:=by rw [hmid,List.length_set]
 have hne:some (c.mid F).cp≠some g:=fun e=>by
  injection e with e;obtain ⟨cur,hi,_⟩:=hrow;rw [<- e] at hi;exact is_ne hi hh.1 (by decide)
 have hsz:((w.setCell ⟨g,F.length*2,none⟩ (.int .u64 x.1)).setCell ⟨g,F.length*2+1,none⟩ (.int .i64 x.2)).heap.size=w.heap.size:=by simp [World.setCell]
 have hnew:(coOb (c.mid (F++[x]))).holds ((w.setCell ⟨g,F.length*2,none⟩ (.int .u64 x.1)).setCell ⟨g,F.length*2+1,none⟩ (.int .i64 x.2)):=by
  refine ⟨?_,⟨by rw [hlen];exact r1,(fun e=>by have e:c.A=none:=e;rw [hA] at e;cases e),fun ad e=>?_⟩,hh.2.2.len,fun s hs m hm=>(hh.2.2.map s hs m hm).kept hg (fun e=>?_),hh.2.2.nomap,hh.2.2.uniq⟩
  · have hi:=hh.1.grown hg hne
    have ec:(c.mid (F++[x])).cells=(c.mid F).cells:=by
     show (Value.pointer (some ⟨c.ps,0,none⟩):: .slice c.A (c.mid (F++[x])).cand.length c.cap::c.se.flatMap Ses.cs).toArray=_;rw [hlen]
    rw [ec];exact hi
  · have e:c.A=some ad:=e;rw [hA] at e;injection e with e;subst e;refine ⟨g,rfl,?_,by rw [hsz];exact hlt⟩;rw [hmid];exact hrow.put F.length (by rw [zC,zJ];omega) x
  injection e with e;obtain ⟨cur,hi,_⟩:=hrow;exact map_is (hh.2.2.map s hs m hm) (by cases e;exact hi)
 have:=h.1.step (o:=coOb (c.mid F)) (o':=coOb (c.mid (F++[x]))) (Fr.grown hg (Or.inr (Or.inl hA)) (fun i hi=> .inl hi)) (fun i hi=>hi.elim) hnew (fun i hi=>by
  rcases hi with hi | hi
  · exact coOb_lt hnew hi
  exact hi.elim)
 exact ⟨this.1,h.2.trans this.2⟩
end
end
section
open Go.RowKit
attribute [local go_sem] wext_cell
theorem getD_mem {α:Type} (l:List α) (d:α) (k:Nat) (h:k<l.length):l.getD k d∈l:=by
 rw [zB,zF h];exact zH h
theorem take_snoc {α:Type} (l:List α) (d:α) (k:Nat) (h:k<l.length):l.take (k+1)=l.take k++[l.getD k d]:=by
 rw [List.take_add_one,zB,zF h];rfl
end
section
open Go.RowKit Go.MapKept Go.ChangeMaps
attribute [local go_sem] wext_cell

end
section
open Go.RowKit Go.MapKept Go.ChangeMaps Go.Shelf Go.Sort
attribute [local go_sem] wext_cell

end
section
open Go.RowKit
attribute [local go_sem] wext_cell
theorem B_cell {w w':World} {b o:Nat} {v:Value} (h:Below w.heap.size w w') (hb:b<w.heap.size) (hc:w.cell? ⟨b,o,none⟩=some v):w'.cell? ⟨b,o,none⟩=some v:=(h.cell (p:=⟨b,o,none⟩) hb).trans hc
end
section
open Go.RowKit
attribute [local go_sem] wext_cell
theorem gb {p q:Bool} {w W:World} (h:p=q) (hb:Below w.heap.size w W):Gives (.bool p) w (.returned (.bool q)) W:=⟨by rw [h],hb⟩
theorem eq_of_take {α:Type} {a b:List α} (hl:a.length=b.length) (h:a.take a.length=b.take a.length):a=b:=by
  rw [zK,hl,zK] at h
  exact h
theorem ne_of_getD {α:Type} {a b:List α} (d:α) (k:Nat) (h:a.getD k d≠b.getD k d):a≠b:=fun e=>h (by rw [e])
theorem take_both {α:Type} {a b:List α} {d:α} {k:Nat} (ha:k<a.length) (hb:k<b.length) (h:a.take k=b.take k) (he:a.getD k d=b.getD k d):a.take (k+1)=b.take (k+1):=by
  rw [take_snoc _ d _ ha,take_snoc _ d _ hb,h,he]
theorem SameIDs_any (x y:Nat) (a b:List ID) (A B:Option Addr) (c d:Nat) (w:World) (ha:RdID w x A a) (hb:RdID w y B b) (hla:a.length<=9223372036854775807) (hlb:b.length<=9223372036854775807):
    Calls Tryz.prog 64 #[.slice A a.length c,.slice B b.length d] w (Gives (.bool (decide (a=b))) w):=by
  have Ha:=hid ha
  have Hb:=hid hb
  clear ha hb
  by_cases hlen:a.length=b.length
  · have hbe:(a.length !=b.length)=false:=by simp [hlen]
    have hbi:(((a.length:Nat):Int) !=((b.length:Nat):Int))=false:=by simp [hlen]
    have Hlen:=hid hlen
    clear hlen
    go_enter Tryz.func64,Tryz.ntmps64
    go_wp2_with fail
    go_loopw [5] (fun v wr=>∃ k:Nat,k<=a.length/\v= .int .i64 k/\Hid (a.take k=b.take k)/\Below w.heap.size w wr) (fun v _=>a.length-(intOf v).toNat)
    case atStart=>exact ⟨0,zN _,rfl,rfl,Below.refl _ _⟩
    case round=>
      obtain ⟨k,hk,rfl,Hk,hbw⟩:=hrel
      have Hbw:=hid hbw
      clear hbw
      by_cases hlt:k<a.length
      · have hlt':k<b.length:=by have:=Hlen.out;omega
        obtain ⟨b1,o1,rfl,hb1,_,hc1⟩:=Ha.out (by omega)
        obtain ⟨b2,o2,rfl,hb2,_,hc2⟩:=Hb.out (by omega)
        obtain ⟨s0,s1,HI⟩:∃ s0 s1,Hid (a.getD k (0,0)=(s0,s1)):=⟨_,_,rfl⟩
        obtain ⟨r0,r1,HJ⟩:∃ r0 r1,Hid (b.getD k (0,0)=(r0,r1)):=⟨_,_,rfl⟩
        have p0:wr.cell? ⟨b1,o1+k*2,none⟩=some (.int .u64 s0):=B_cell Hbw.out hb1 (hc1 k hlt 0 _ (by rw [HI.out];rfl))
        have q0:wr.cell? ⟨b2,o2+k*2,none⟩=some (.int .u64 r0):=B_cell Hbw.out hb2 (hc2 k hlt' 0 _ (by rw [HJ.out];rfl))
        have p1:wr.cell? ⟨b1,o1+k*2+1,none⟩=some (.int .i64 s1):=B_cell Hbw.out hb1 (hc1 k hlt 1 _ (by rw [HI.out];rfl))
        have q1:wr.cell? ⟨b2,o2+k*2+1,none⟩=some (.int .i64 r1):=B_cell Hbw.out hb2 (hc2 k hlt' 1 _ (by rw [HJ.out];rfl))
        clear hc1 hc2
        by_cases e0:s0=r0
        · obtain rfl:=e0
          by_cases e1:s1=r1
          · obtain rfl:=e1
            go_wp2_with fail
            go_quiet (fail)
            go_wp2_with fail
            go_roundw
            case rel=>exact ⟨k+1,by omega,by go_num,take_both (d:=(0,0)) hlt hlt' Hk.out (by rw [HI.out,HJ.out]),bdrewN Hbw.out _⟩
            case measure=>simp [intOf];omega
          · have hne:(s1==r1)=false:=by rw [beq_eq_false_iff_ne];exact e1
            have HF:Hid (decide (a=b)=false):=by
              unfold Hid
              rw [decide_eq_false_iff_not]
              exact ne_of_getD (0,0) k (fun h=>e1 (by rw [HI.out,HJ.out] at h;simp at h;omega))
            clear e1
            go_wp2_with fail
            go_quiet (fail)
            go_wp2_with fail
            go_ret
            exact gb HF.out (bdrewN Hbw.out _)
        · have hne:(s0==r0)=false:=by rw [beq_eq_false_iff_ne];exact e0
          have HF:Hid (decide (a=b)=false):=by
            unfold Hid
            rw [decide_eq_false_iff_not]
            exact ne_of_getD (0,0) k (fun h=>e0 (by rw [HI.out,HJ.out] at h;simp at h;omega))
          clear e0
          go_wp2_with fail
          go_quiet (fail)
          go_wp2_with fail
          go_ret
          exact gb HF.out (bdrewN Hbw.out _)
      · obtain rfl:k=a.length:=by omega
        have HT:Hid (decide (a=b)=true):=by
          unfold Hid
          rw [decide_eq_true_eq]
          exact eq_of_take Hlen.out Hk.out
        go_wp2_with fail
        go_ret
        exact gb HT.out Hbw.out
  · have hbe:(a.length !=b.length)=true:=by rw [bne_iff_ne];exact hlen
    have hbi:(((a.length:Nat):Int) !=((b.length:Nat):Int))=true:=by rw [bne_iff_ne];omega
    have HF:Hid (decide (a=b)=false):=by
      unfold Hid
      rw [decide_eq_false_iff_not]
      intro e
      exact hlen (by rw [e])
    clear hlen
    go_enter Tryz.func64,Tryz.ntmps64
    go_wp2_with fail
    go_ret
    exact gb HF.out (Below.refl _ _)
theorem rHas_any (x:Nat) (l:List ID) (A:Option Addr) (c:Nat) (s z:Int) (w:World) (hl:RdID w x A l) (hn:l.length<=9223372036854775807):
    Calls Tryz.prog 49 #[.slice A l.length c,.agg #[.int .u64 s,.int .i64 z]] w (Gives (.bool (decide ((s,z)∈l))) w):=by
  have Hl:=hid hl
  clear hl
  go_enter Tryz.func49,Tryz.ntmps49
  go_wp2_with fail
  go_loopw [5] (fun v wr=>∃ k:Nat,k<=l.length/\v= .int .i64 k/\Hid (¬ (s,z)∈l.take k)/\IsB wr w.heap.size 31 #[.int .u64 s,.int .i64 z]/\Below w.heap.size w wr) (fun v _=>l.length-(intOf v).toNat)
  case atStart=>exact ⟨0,zN _,rfl,by simp [Hid],IsB.new _ _ _,bel1 _ _⟩
  case round=>
    obtain ⟨k,hk,rfl,Hk,hI,hbw⟩:=hrel
    have hi0:wr.cell? ⟨w.heap.size,0,none⟩=some (.int .u64 s):=by rw [hI.cell];rfl
    have hi1:wr.cell? ⟨w.heap.size,1,none⟩=some (.int .i64 z):=by rw [hI.cell];rfl
    have hIl:=hI.lt
    have HI:=hid hI
    have Hbw:=hid hbw
    clear hbw hI
    by_cases hlt:k<l.length
    · obtain ⟨b1,o1,rfl,hb1,_,hc1⟩:=Hl.out (by omega)
      obtain ⟨p,q,HJ⟩:∃ p q,Hid (l.getD k (0,0)=(p,q)):=⟨_,_,rfl⟩
      have p0:wr.cell? ⟨b1,o1+k*2,none⟩=some (.int .u64 p):=B_cell Hbw.out hb1 (hc1 k hlt 0 _ (by rw [HJ.out];rfl))
      have p1:wr.cell? ⟨b1,o1+k*2+1,none⟩=some (.int .i64 q):=B_cell Hbw.out hb1 (hc1 k hlt 1 _ (by rw [HJ.out];rfl))
      clear hc1
      have next:(p,q)≠(s,z)->¬ (s,z)∈l.take (k+1):=by
        intro hne hm
        rw [take_snoc _ (0,0) _ hlt,HJ.out] at hm
        rcases List.mem_append.1 hm with h | h
        · exact Hk.out h
        · rw [List.mem_singleton] at h;exact hne h.symm
      have Hnext:=hid next
      clear next
      by_cases e0:p=s
      · obtain rfl:=e0
        by_cases e1:q=z
        · obtain rfl:=e1
          have HT:Hid (decide ((p,q)∈l)=true):=by
            unfold Hid
            rw [decide_eq_true_eq, <- HJ.out]
            exact getD_mem _ _ _ hlt
          go_wp2_with fail
          go_quiet (fail)
          go_wp2_with fail
          go_ret
          exact gb HT.out (bdrewN Hbw.out _)
        · have hne:(q==z)=false:=by rw [beq_eq_false_iff_ne];exact e1
          have Hn:Hid (¬ (p,z)∈l.take (k+1)):=Hnext.out (fun h=>e1 (by injection h))
          clear e1
          go_wp2_with fail
          go_quiet (fail)
          go_wp2_with fail
          go_roundw
          case rel=>exact ⟨k+1,by omega,by go_num,Hn,HI.out.drewN _,bdrewN Hbw.out _⟩
          case measure=>simp [intOf];omega
      · have hne:(p==s)=false:=by rw [beq_eq_false_iff_ne];exact e0
        have Hn:Hid (¬ (s,z)∈l.take (k+1)):=Hnext.out (fun h=>e0 (by injection h))
        clear e0
        go_wp2_with fail
        go_quiet (fail)
        go_wp2_with fail
        go_roundw
        case rel=>exact ⟨k+1,by omega,by go_num,Hn,HI.out.drewN _,bdrewN Hbw.out _⟩
        case measure=>simp [intOf];omega
    · obtain rfl:k=l.length:=by omega
      have HF:Hid (decide ((s,z)∈l)=false):=by
        unfold Hid
        rw [decide_eq_false_iff_not]
        have:=Hk.out
        rwa [zK] at this
      go_wp2_with fail
      go_ret
      exact gb HF.out Hbw.out
end
section
open Go.RowKit Go.MapKept Go.ChangeMaps Go.Shelf Go.Sort
def lessR (l gone:List ID):List ID:=l.filter fun i=> !decide (i∈gone)
theorem lessR_snoc (l gone:List ID) (i:ID):lessR (l++[i]) gone=lessR l gone++if i∈gone then [] else [i]:=by
 unfold lessR;rw [List.filter_append];congr 1
 by_cases h:i∈gone<;>simp [h]
theorem rdID_of {w:World} {A:Option Addr} {ids:List ID} (h:(riOb A ids).holds w):RdID w w.heap.size A ids:=by
 intro hp;cases A with
 | none=>
  have:=h.1 rfl;rw [this] at hp;simp at hp
 | some ad=>
  obtain ⟨g,rfl,hr,hlt⟩:=h.2 ad rfl;refine ⟨g,0,rfl,hlt,by omega,fun j hj i v hv=>?_⟩;obtain ⟨a0,a1,_,_⟩:=hr.cells hj rfl;match i,hv with
  | 0,hv=>
   simp [encID] at hv;subst hv;simpa using a0
  | 1,hv=>
   simp [encID] at hv;subst hv;simpa using a1
  | i+2,hv=>simp [encID] at hv
section
variable {b:Nat} {w0 w:World} {l:List Ob}
theorem rLess_any {A1 A2:Option Addr} {l1 l2:List ID} (h:SW b w0 l w) (h1:riOb A1 l1∈l) (h2:riOb A2 l2∈l) (n1:l1.length<=100000) (n2:l2.length<=100000) (c1 c2:Nat):
 Calls Tryz.prog 121 #[.slice A1 l1.length c1,.slice A2 l2.length c2] w (fun e w'=>∃ A cap,e= .returned (.slice A (lessR l1 l2).length cap)/\SW b w0 (riOb A (lessR l1 l2)::l) w'):=by
 have S0:=hid h;have H1:=hid h1;have H2:=hid h2;clear h h1 h2;go_enter Tryz.func121,Tryz.ntmps121;go_wp2_with fail
 go_loopw [5,6] (fun s5 s6 wr=>∃ (k:Nat) (A:Option Addr) (cap:Nat),k<=l1.length/\s6= .int .i64 (k:Int)/\s5= .slice A (lessR (l1.take k) l2).length cap/\SW b w0 (rowOb 31 2 (.slice A (lessR (l1.take k) l2).length cap) (lessR (l1.take k) l2).length ((lessR (l1.take k) l2).flatMap encID)::l) wr) (fun _ s6 _=>l1.length-(intOf s6).toNat)
 case atStart=>exact ⟨0,none,0,zN _,rfl,rfl,S0.out.newRow 31 2⟩
 obtain ⟨k,A,cap,hk,rfl,rfl,hs⟩:=hrel;have S1:=hid hs;clear hs S0;by_cases hlt:k<l1.length
 · obtain ⟨i,hik⟩:∃ i,l1.getD k id0=i:=⟨_,rfl⟩;obtain ⟨g1,rfl,a0,a1⟩:=S1.out.rowCell (zA _ H1.out) hlt hik
   have hts:l1.take (k+1)=l1.take k++[i]:=by
    rw [zG hlt, <- hik,zB,zF hlt];rfl
   have HTS:Hid (lessR (l1.take (k+1)) l2=lessR (l1.take k) l2++if i∈l2 then [] else [i]):=by rw [Hid,hts,lessR_snoc]
   have hfl:(lessR (l1.take k) l2).length<=k:=by
    unfold lessR;have:=zM (fun i=> !decide (i∈l2)) (l1.take k);rw [List.length_take] at this;omega
   generalize lessR (l1.take k) l2=F at S1 HTS hfl |-; have HH:Hid (Calls Tryz.prog 49 #[.slice A2 l2.length c2,.agg #[.int .u64 i.1,.int .i64 i.2]] wr (Gives (.bool (decide (i∈l2))) wr)):=rHas_any wr.heap.size l2 A2 c2 i.1 i.2 wr (rdID_of (S1.out.1.holds (riOb A2 l2) (zA _ H2.out))) (by omega);clear hts;go_upto_if 19 with (go_at_call 49;(with_reducible refine HH.out.mono ?_);rintro e w2 ⟨rfl,hb2⟩;have S2:=hid (S1.out.on hb2);clear hb2 S1 HH)
   obtain ⟨g2,e2,a0',a1'⟩:=S2.out.rowCell (zA _ H1.out) hlt hik;injection e2 with e2;injection e2 with e2;subst e2;clear hik a0 a1;obtain ⟨v,hv⟩:∃ v,decide (i∈l2)=v:=⟨_,rfl⟩;cases v with
   | true=>
    rw [if_pos (of_decide_eq_true hv),List.append_nil] at HTS;rw [hv];clear hv;go_wp2_with fail
    go_roundw
    case rel=>
     refine ⟨k+1,A,cap,by omega,by go_num,?_,?_⟩
     · rw [HTS.out]
     rw [HTS.out];exact S2.out
    simp [intOf];omega
   | false=>
    rw [if_neg (of_decide_eq_false hv)] at HTS;rw [hv];clear hv;obtain ⟨i1,gi,gz0,gz1,gz2⟩:=info_parts info31;go_wp2_with (at_builtin;(refine wpList_rowS (t:=38) (e:=31) (size:=2) (bytes:=16) (i:=i1) (S2.out.alloc _) 0 rfl (by rfl) (.tmp 20) (.tmp 25) (by rfl) Tryz.underlying38 gi gz0 gz1 gz2 rfl (by omega) (by rfl) ⟨w2.heap.size,0,none⟩ 1 [.int .u64 i.1,.int .i64 i.2] (by rfl) rfl (two_new w2 _ _ 31 _ rfl) (encID_one i) (by unfold maxLen;omega) (by omega) ?_);refine halt_ ?_)
    intro v4 w4 s4;obtain ⟨g4,c4,rfl⟩:=own_some (s4.get 0 rfl) (by omega)
    have S4:Hid (SW b w0 (rowOb 31 2 (.slice (some ⟨g4,0,none⟩) (F++[i]).length c4) (F++[i]).length ((F++[i]).flatMap encID)::l) w4):=by
     rw [Hid,List.flatMap_append,zC];exact s4
    clear s4 S2 a0' a1';go_wp2_with fail
    go_roundw
    case rel=>
     refine ⟨k+1,some ⟨g4,0,none⟩,c4,by omega,by go_num,?_,?_⟩
     · rw [HTS.out,zC];rfl
     rw [HTS.out];exact S4.out
    simp [intOf];omega
 obtain rfl:k=l1.length:=by omega
 rw [zK] at S1 |-; go_wp2_with fail
 go_ret;exact ⟨A,cap,rfl,S1.out.rowRi⟩
end
end
end Go.Proofs.YteabgcollokgjaaGreatDoor
