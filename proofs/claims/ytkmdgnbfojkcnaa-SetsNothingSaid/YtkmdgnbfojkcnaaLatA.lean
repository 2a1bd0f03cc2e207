/- A chart as plain data, and how it lies in memory. -/
import Derived.Test.YtkmdgnbfojkcnaaEngM
set_option linter.all false
namespace Go.Proofs.Ytkmdgnbfojkcnaa
open Go
structure LoadD where
  kind : Int
  params : List (ByteArray × ByteArray)
  body : ByteArray
structure StD where
  id : ByteArray
  kind : Int
  parent : Int
  kids : List Int
  init : Int
  entry : List Int
  exit : List Int
  trans : List Int
  data : List Int
  invs : List Int
  done : LoadD
structure TrD where
  source : Int
  events : List ByteArray
  cond : ByteArray
  targets : List Int
  internal : Bool
  block : Int
structure ActD where
  kind : Int
  s1 : ByteArray
  s2 : ByteArray
  s3 : ByteArray
  s4 : ByteArray
  s5 : ByteArray
  s6 : ByteArray
  s7 : ByteArray
  delay : Int
  s9 : ByteArray
  s10 : ByteArray
  s11 : ByteArray
  s12 : ByteArray
  s13 : ByteArray
  conds : List ByteArray
  blocks : List Int
  load : LoadD
structure DatD where
  id : ByteArray
  expr : ByteArray
  text : ByteArray
structure InvD where
  id : ByteArray
  place : ByteArray
  chart : Int
  auto : Bool
  load : LoadD
  fin : Int
structure ChD where
  name : ByteArray
  late : Bool
  script : Int
  sts : List StD
  trs : List TrD
  blks : List (List ActD)
  data : List DatD
  invs : List InvD
def IntIn (r : List Value) (n : Int) : Prop := r = [.int .i64 n]
def StrIn (r : List Value) (s : ByteArray) : Prop := r = [.string s]
def ParIn (r : List Value) (p : ByteArray × ByteArray) : Prop := r = [.string p.1, .string p.2]
def IntsIn (F : Atom) (v : Value) (xs : List Int) : Prop := SlIn F IntIn 1 8 v xs
def StrsIn (F : Atom) (v : Value) (xs : List ByteArray) : Prop := SlIn F StrIn 1 16 v xs
def ParsIn (F : Atom) (v : Value) (xs : List (ByteArray × ByteArray)) : Prop := SlIn F ParIn 2 32 v xs
def StIn (F : Atom) (r : List Value) (c : StD) : Prop := ∃ vk ve vx vt vd vi vp, r = [.string c.id, .int .i64 c.kind, .int .i64 c.parent, vk, .int .i64 c.init, ve, vx, vt, vd, vi, .int .i64 c.done.kind, vp, .string c.done.body] ∧
  IntsIn F vk c.kids ∧ IntsIn F ve c.entry ∧ IntsIn F vx c.exit ∧ IntsIn F vt c.trans ∧ IntsIn F vd c.data ∧ IntsIn F vi c.invs ∧ ParsIn F vp c.done.params
def TrIn (F : Atom) (r : List Value) (c : TrD) : Prop := ∃ ve vt, r = [.int .i64 c.source, ve, .string c.cond, vt, .bool c.internal, .int .i64 c.block] ∧ StrsIn F ve c.events ∧ IntsIn F vt c.targets
def ActIn (F : Atom) (r : List Value) (c : ActD) : Prop := ∃ vc vb vp, r = [.int .i64 c.kind, .string c.s1, .string c.s2, .string c.s3, .string c.s4, .string c.s5, .string c.s6, .string c.s7, .int .i64 c.delay, .string c.s9, .string c.s10, .string c.s11, .string c.s12, .string c.s13, vc, vb, .int .i64 c.load.kind, vp, .string c.load.body] ∧
  StrsIn F vc c.conds ∧ IntsIn F vb c.blocks ∧ ParsIn F vp c.load.params
def BlkIn (F : Atom) (r : List Value) (c : List ActD) : Prop := ∃ v, r = [v] ∧ SlIn F (ActIn F) 19 304 v c
def DatIn (r : List Value) (c : DatD) : Prop := r = [.string c.id, .string c.expr, .string c.text]
def InvIn (F : Atom) (r : List Value) (c : InvD) : Prop := ∃ vp, r = [.string c.id, .string c.place, .int .i64 c.chart, .bool c.auto, .int .i64 c.load.kind, vp, .string c.load.body, .int .i64 c.fin] ∧ ParsIn F vp c.load.params
/-- A chart's eight cells. -/
structure ChV where
  vs : Value
  vt : Value
  vb : Value
  vd : Value
  vi : Value
def ChD.cells (c : ChD) (v : ChV) : List Value := [.string c.name, .bool c.late, .int .i64 c.script, v.vs, v.vt, v.vb, v.vd, v.vi]
structure ChIn (F : Atom) (v : ChV) (c : ChD) : Prop where
  sts : SlIn F (StIn F) 13 232 v.vs c.sts
  trs : SlIn F (TrIn F) 6 88 v.vt c.trs
  blks : SlIn F (BlkIn F) 1 24 v.vb c.blks
  data : SlIn F DatIn 3 48 v.vd c.data
  invs : SlIn F (InvIn F) 8 104 v.vi c.invs
theorem IntsIn.sub {A B : Atom} {v : Value} {xs : List Int} (hs : Sub A B) (h : IntsIn A v xs) : IntsIn B v xs := SlIn.sub hs (fun _ _ h => h) h
theorem StrsIn.sub {A B : Atom} {v : Value} {xs : List ByteArray} (hs : Sub A B) (h : StrsIn A v xs) : StrsIn B v xs := SlIn.sub hs (fun _ _ h => h) h
theorem ParsIn.sub {A B : Atom} {v : Value} {xs : List (ByteArray × ByteArray)} (hs : Sub A B) (h : ParsIn A v xs) : ParsIn B v xs := SlIn.sub hs (fun _ _ h => h) h
theorem StIn.sub {A B : Atom} (hs : Sub A B) {r : List Value} {c : StD} (h : StIn A r c) : StIn B r c := by
  obtain ⟨vk, ve, vx, vt, vd, vi, vp, e, h1, h2, h3, h4, h5, h6, h7⟩ := h
  exact ⟨vk, ve, vx, vt, vd, vi, vp, e, h1.sub hs, h2.sub hs, h3.sub hs, h4.sub hs, h5.sub hs, h6.sub hs, h7.sub hs⟩
theorem TrIn.sub {A B : Atom} (hs : Sub A B) {r : List Value} {c : TrD} (h : TrIn A r c) : TrIn B r c := by
  obtain ⟨ve, vt, e, h1, h2⟩ := h
  exact ⟨ve, vt, e, h1.sub hs, h2.sub hs⟩
theorem ActIn.sub {A B : Atom} (hs : Sub A B) {r : List Value} {c : ActD} (h : ActIn A r c) : ActIn B r c := by
  obtain ⟨vc, vb, vp, e, h1, h2, h3⟩ := h
  exact ⟨vc, vb, vp, e, h1.sub hs, h2.sub hs, h3.sub hs⟩
theorem BlkIn.sub {A B : Atom} (hs : Sub A B) {r : List Value} {c : List ActD} (h : BlkIn A r c) : BlkIn B r c := by
  obtain ⟨v, e, h1⟩ := h
  exact ⟨v, e, h1.sub hs fun _ _ h => h.sub hs⟩
theorem InvIn.sub {A B : Atom} (hs : Sub A B) {r : List Value} {c : InvD} (h : InvIn A r c) : InvIn B r c := by
  obtain ⟨vp, e, h1⟩ := h
  exact ⟨vp, e, h1.sub hs⟩
theorem ChIn.sub {A B : Atom} {v : ChV} {c : ChD} (hs : Sub A B) (h : ChIn A v c) : ChIn B v c :=
  ⟨h.sts.sub hs fun _ _ h => h.sub hs, h.trs.sub hs fun _ _ h => h.sub hs, h.blks.sub hs fun _ _ h => h.sub hs, h.data.sub hs fun _ _ h => h, h.invs.sub hs fun _ _ h => h.sub hs⟩
end Go.Proofs.Ytkmdgnbfojkcnaa
